/- The rules of a walk over slots and resources: what each operation yields. No condition. -/
import Derived.Test.YtgfdmhjjlajmgaaGreatDoorKUWp
import Derived.WalkSpells
import Derived.Deep.Quiet
namespace Go.Cg
set_option linter.unusedVariables false
set_option linter.unusedSimpArgs false
open Go.RowKit

/-! ### slots -/
def lk : List (Nat × Value) → Nat → Option Value
  | [], _ => none
  | (i, v) :: r, d => match Nat.beq i d with
    | true => some v
    | false => lk r d
def ev (E : List (Nat × Value)) : Operand → Option Value
  | .tmp t => lk E t
  | .const v => some v
  | .global g => some (.pointer (some ⟨g, 0, none⟩))
  | .func f => some (.func (.func f) #[] #[])

/-- a row of numbers as one number -/
def mcons (D C : Nat) : Nat := 2 ^ D * (2 * C + 1)
def mun (n : Nat) : Nat × Nat := if h : n % 2 = 1 ∨ n = 0 then (0, n / 2) else ((mun (n / 2)).1 + 1, (mun (n / 2)).2)
termination_by n
decreasing_by omega
theorem mun_cons (C : Nat) : ∀ D : Nat, mun (mcons D C) = (D, C)
  | 0 => by
    have e : mcons 0 C = 2 * C + 1 := by unfold mcons; omega
    rw [e, mun, dif_pos (by omega)]
    congr 1; omega
  | D + 1 => by
    have e : mcons (D + 1) C = 2 * mcons D C := by unfold mcons; rw [Nat.pow_succ, Nat.mul_comm (2 ^ D) 2, Nat.mul_assoc]
    have hp : 0 < mcons D C := Nat.mul_pos (Nat.pow_pos (by omega)) (by omega)
    rw [e, mun, dif_neg (by omega), show 2 * mcons D C / 2 = mcons D C from by omega, mun_cons C D]
theorem mun_lt : ∀ n : Nat, n ≠ 0 → (mun n).2 < n := by
  intro n
  induction n using Nat.strongRecOn with
  | ind n ih =>
    intro h
    rw [mun]
    by_cases h1 : n % 2 = 1 ∨ n = 0
    · rw [dif_pos h1]; show n / 2 < n; omega
    · rw [dif_neg h1]
      have := ih (n / 2) (by omega) (by omega)
      show (mun (n / 2)).2 < n; omega
def mdec (n : Nat) : List Nat := if h : n = 0 then [] else (mun n).1 :: mdec (mun n).2
termination_by n
decreasing_by exact mun_lt n h
@[simp] theorem mdec_zero : mdec 0 = [] := by rw [mdec, dif_pos rfl]
@[simp] theorem mdec_cons (D C : Nat) : mdec (mcons D C) = D :: mdec C := by
  have hp : 0 < mcons D C := Nat.mul_pos (Nat.pow_pos (by omega)) (by omega)
  rw [mdec, dif_neg (by omega), mun_cons]
/-- the marks of ranges over functions, by such a number -/
def mdefs (C : Nat) : List Deferred := (mdec C).map fun D => { target := .collected D, args := #[] }
structure Slots (a : Act) (n : Nat) (E : List (Nat × Value)) : Prop where
  size : a.tmps.size = n
  none_ : ∀ v, lk E n = some v → a.defers = []
  mark_ : ∀ C v, lk E (C + (n + 1)) = some v → a.defers = mdefs C
  has : ∀ d v, lk E d = some v → a.tmps.getD d undef = v

theorem Slots.of {a : Act} {n : Nat} {E E' : List (Nat × Value)} (S : Slots a n E) (h : ∀ d v, lk E' d = some v → lk E d = some v) : Slots a n E' :=
  ⟨S.size, fun v hv => S.none_ v (h _ _ hv), fun D v hv => S.mark_ D v (h _ _ hv), fun d v hv => S.has d v (h _ _ hv)⟩
theorem lk_off {d k : Nat} {v : Value} {E : List (Nat × Value)} (h : d ≠ k) : lk ((d, v) :: E) k = lk E k := by
  show (match Nat.beq d k with | true => some v | false => lk E k) = _
  cases hb : Nat.beq d k with
  | true => exact absurd (Nat.eq_of_beq_eq_true hb) h
  | false => rfl
theorem lk_on {d : Nat} {v : Value} {E : List (Nat × Value)} : lk ((d, v) :: E) d = some v := by
  show (match Nat.beq d d with | true => some v | false => lk E d) = _
  rw [Nat.beq_refl]
theorem Slots.told {a : Act} {n d : Nat} {v : Value} {E : List (Nat × Value)} (S : Slots a n E) (h : lk E d = some v) (v' : Value) (e : v = v') : Slots a n ((d, v') :: E) := S.of fun k u hk => by
  subst e
  by_cases hd : d = k
  · subst hd; rw [lk_on] at hk; rw [h]; exact hk
  · rwa [lk_off hd] at hk
theorem Slots.eval {a : Act} {n : Nat} {E : List (Nat × Value)} (S : Slots a n E) {x : Operand} {v : Value} (h : ev E x = some v) : a.eval x = v := by
  cases x with
  | tmp t => exact S.has t v h
  | const u => simp only [ev, Option.some.injEq] at h; exact h
  | global g => simp only [ev, Option.some.injEq] at h; exact h
  | func f => simp only [ev, Option.some.injEq] at h; exact h

theorem Slots.put {a : Act} {n : Nat} {E : List (Nat × Value)} (S : Slots a n E) {d : Nat} (hd : Nat.blt d n = true) (v : Value) : Slots (a.put (some d) v) n ((d, v) :: E) := by
  have hd' : d < n := Nat.lt_of_lt_of_le (Nat.lt_succ_self d) (by simpa [Nat.blt] using hd)
  refine ⟨by simp [Act.put, S.size], fun u h => S.none_ u (by rwa [lk_off (by omega)] at h), fun D u h => S.mark_ D u (by rwa [lk_off (by omega)] at h), fun i u h => ?_⟩
  have hs := S.size
  unfold lk at h
  cases hb : Nat.beq d i with
  | true =>
    rw [hb] at h
    have e := Nat.eq_of_beq_eq_true hb
    subst e
    simp only [Option.some.injEq] at h
    subst h
    simp [Act.put, hs, hd']
  | false =>
    rw [hb] at h
    have e := Nat.ne_of_beq_eq_false hb
    have := S.has i u h
    simp only [Act.put, Array.getD_eq_getD_getElem?] at this ⊢
    rw [Array.getElem?_setIfInBounds_ne (by omega)]
    exact this

/-- all that is told below holds above -/
def Sub (E : List (Nat × Value)) : List (Nat × Value) → Prop
  | [] => True
  | (d, v) :: r => lk E d = some v ∧ Sub E r
theorem lk_sub {E : List (Nat × Value)} : ∀ {E' : List (Nat × Value)}, Sub E E' → ∀ d v, lk E' d = some v → lk E d = some v
  | (i, u) :: r, ⟨h1, h2⟩, d, v, h => by
    unfold lk at h
    cases hb : Nat.beq i d with
    | true => rw [hb] at h; have e := Nat.eq_of_beq_eq_true hb; subst e; simp only [Option.some.injEq] at h; subst h; exact h1
    | false => rw [hb] at h; exact lk_sub h2 d v h
theorem Slots.sub {a : Act} {n : Nat} {E E' : List (Nat × Value)} (S : Slots a n E) (h : Sub E E') : Slots a n E' := S.of (lk_sub h)

/-- the guard: is the operation wanted? -/
def Wt (ops : Array Oper) (E : List (Nat × Value)) (o : Oper) : Option Bool :=
  match o.guard with
  | none => some true
  | some (j, want) => match (ops[j]?).bind (·.dst) with
    | some d => match lk E d with
      | some (.bool b) => some (b == want)
      | some (.tuple _) => some false
      | _ => none
    | none => none

theorem Slots.wanted {a : Act} {n : Nat} {E : List (Nat × Value)} (S : Slots a n E) {ops : Array Oper} {o : Oper} {b : Bool} (h : Wt ops E o = some b) : Region.wanted o (yielded ops a.tmps) = b := by
  unfold Wt at h
  unfold Region.wanted
  split at h
  · rename_i hg; rw [hg]; simpa using h
  · rename_i j want hg
    rw [hg]
    split at h
    · rename_i d hd
      split at h
      · rename_i v hv
        have := S.has d _ hv
        simp only [Option.some.injEq] at h
        rw [← h]
        have hgd : a.tmps[d]? = some (.bool v) := by
          rw [Array.getD_eq_getD_getElem?] at this
          cases hx : a.tmps[d]? with
          | none => rw [hx] at this; simp [undef] at this
          | some y => rw [hx] at this; simp at this; rw [this]
        simp [yielded, hd, hgd]
      · rename_i vs hv
        have := S.has d _ hv
        simp only [Option.some.injEq] at h
        rw [← h]
        have hgd : a.tmps[d]? = some (.tuple vs) ∨ a.tmps[d]? = none := by
          rw [Array.getD_eq_getD_getElem?] at this
          cases hx : a.tmps[d]? with
          | none => exact .inr rfl
          | some y => rw [hx] at this; simp at this; rw [this]; exact .inl rfl
        rcases hgd with hgd | hgd <;> simp [yielded, hd, hgd]
      · cases h
    · cases h

section
variable {P : Program} {ops : Array Oper} {Q : Exit → Act → World → Prop} {a : Act} {w : World} {rest : List Oper} {o : Oper} {L : List Res} {n : Nat} {E : List (Nat × Value)}

/-- wherever the resources stand, the operation yields this and turns nothing -/
def Yl (P : Program) (L : List Res) (o : Oper) (a : Act) (v : Value) : Prop := ∀ w, Sat w L → (execOp a.eval o).run P w = .ok (.value v) w

theorem wpList_wanted (hw : Region.wanted o (yielded ops a.tmps) = true) (h : o.wp P a w (wpList P ops Q rest) Q) : wpList P ops Q (o :: rest) a w := by
  unfold wpList; rw [if_pos hw]; exact .inl h

theorem r_y {d : Nat} {v : Value} (S : Slots a n E) (H : Sat w L) (hy : Yl P L o a v) (hd : o.dst = some d) (hn : Nat.blt d n = true) (hw : Wt ops E o = some true)
    (K : ∀ a', Slots a' n ((d, v) :: E) → wpList P ops Q rest a' w) : wpList P ops Q (o :: rest) a w :=
  wpList_wanted (S.wanted hw) (by unfold Oper.wp; rw [hy w H]; simp only [Oper.upon, hd]; exact K _ (S.put hn v))

theorem r_skip {d : Nat} (S : Slots a n E) (hd : o.dst = some d) (hn : Nat.blt d n = true) (hw : Wt ops E o = some false) (K : ∀ a', Slots a' n ((d, undef) :: E) → wpList P ops Q rest a' w) : wpList P ops Q (o :: rest) a w := by
  unfold wpList; rw [S.wanted hw]; simp only [Bool.false_eq_true, if_false, hd]; exact K _ (S.put hn undef)
/-! ### what operations yield -/
theorem y_move {x : Operand} {v : Value} (S : Slots a n E) (ho : o.op = .move x) (hx : ev E x = some v) : Yl P L o a v := fun w _ => by
  simp only [execOp, ho, S.eval hx]; rfl
theorem y_assign {x : Operand} {v : Value} (S : Slots a n E) (ho : o.op = .assign x) (hx : ev E x = some v) : Yl P L o a v := fun w _ => by
  simp only [execOp, ho, S.eval hx]; rfl
theorem y_pickT {c x y : Operand} {v : Value} (S : Slots a n E) (ho : o.op = .pick c x y) (hc : ev E c = some (.bool true)) (hx : ev E x = some v) : Yl P L o a v := fun w _ => by
  simp only [execOp, ho, S.eval hc, S.eval hx]; rfl
theorem y_pickF {c x y : Operand} {v : Value} (S : Slots a n E) (ho : o.op = .pick c x y) (hc : ev E c = some (.bool false)) (hx : ev E y = some v) : Yl P L o a v := fun w _ => by
  simp only [execOp, ho, S.eval hc, S.eval hx]; rfl

theorem yl_val {s : Sem Value} {v : Value} (he : execOp a.eval o = (do pure (.value (← s)))) (hr : ∀ w, Sat w L → s.run P w = .ok v w) : Yl P L o a v := fun w H => by
  rw [he]; simp only [Sem.run_bind, hr w H, Result.andThen_ok, Sem.run_pure]

def FieldAt (P : Program) (s f k : Nat) : Prop := ∀ (w : World) (b o : Nat), (Instr.fieldAt s (.pointer (some ⟨b, o, none⟩)) f).run P w = .ok (.pointer (some ⟨b, o + k, none⟩)) w
theorem y_fieldAddr {s f k b j : Nat} {x : Operand} (S : Slots a n E) (ho : o.op = .fieldAddr s x f) (hx : ev E x = some (.pointer (some ⟨b, j, none⟩))) (hf : FieldAt P s f k) : Yl P L o a (.pointer (some ⟨b, j + k, none⟩)) :=
  yl_val (s := Instr.fieldAt s (a.eval x) f) (by simp only [execOp, ho]) fun w _ => by rw [S.eval hx]; exact hf w b j

/-- types that are kept in one cell -/
def Plain (P : Program) (t : TypeId) : Prop := ∀ w, (isAgg t).run P w = .ok false w
/-- types of several cells -/
def Agg (P : Program) (t : TypeId) (s : Nat) : Prop := ∀ w, (isAgg t).run P w = .ok true w ∧ (sizeOf t).run P w = .ok s w

theorem run_load {w : World} {ad : Addr} {v : Value} (h : w.cell? ad = some v) : (load ad).run P w = .ok v w := by simp [load, Sem.run, h]

theorem run_loadCellsFrom {w : World} {b j : Nat} : ∀ (vs : List Value) (i : Nat) (acc : Array Value), (∀ k v, vs[k]? = some v → w.cell? ⟨b, j + (i + k), none⟩ = some v) → (loadCellsFrom ⟨b, j, none⟩ i vs.length acc).run P w = .ok (acc ++ vs.toArray) w
  | [], i, acc, _ => by simp [loadCellsFrom]
  | v :: vs, i, acc, h => by
    have h0 := h 0 v rfl
    simp only [Nat.add_zero] at h0
    simp only [List.length_cons, loadCellsFrom, add_lit, Sem.run_bind, run_load h0, Result.andThen_ok]
    rw [run_loadCellsFrom vs (i + 1) (acc.push v) fun k u hu => by have := h (k + 1) u hu; rwa [show i + 1 + k = i + (k + 1) from by omega]]
    simp

theorem run_loadAgg {w : World} {t : TypeId} {b j s : Nat} (hA : Agg P t s) (vs : List Value) (hs : vs.length = s) (h : ∀ k v, vs[k]? = some v → w.cell? ⟨b, j + k, none⟩ = some v) : (Instr.loadAt t (.pointer (some ⟨b, j, none⟩))).run P w = .ok (.agg vs.toArray) w := by
  obtain ⟨h1, h2⟩ := hA w
  have h3 := run_loadCellsFrom (P := P) (w := w) (b := b) (j := j) vs 0 #[] (fun k v hk => by simpa using h k v hk)
  rw [hs] at h3
  simp only [Instr.loadAt, Instr.sureAddr, loadVar, Sem.run_bind, Sem.run_pure, Result.andThen_ok, h1, if_true, h2, loadCells, h3]
  simp

theorem y_loadAt {t b j : Nat} {x : Operand} {v : Value} (S : Slots a n E) (ho : o.op = .load t x) (hx : ev E x = some (.pointer (some ⟨b, j, none⟩))) (hp : Plain P t) (hc : ∀ w, Sat w L → w.cell? ⟨b, j, none⟩ = some v) : Yl P L o a v :=
  yl_val (s := Instr.loadAt t (a.eval x)) (by simp only [execOp, ho]) fun w H => by
    rw [S.eval hx]
    simp only [Instr.loadAt, Instr.sureAddr, loadVar, Sem.run_bind, Sem.run_pure, Result.andThen_ok, hp w, Bool.false_eq_true, if_false, run_load (hc w H)]
theorem y_loadAggAt {t b j s : Nat} {x : Operand} (vs : List Value) (S : Slots a n E) (ho : o.op = .load t x) (hx : ev E x = some (.pointer (some ⟨b, j, none⟩))) (hp : Agg P t s) (hs : vs.length = s) (hc : ∀ w, Sat w L → ∀ k v, vs[k]? = some v → w.cell? ⟨b, j + k, none⟩ = some v) : Yl P L o a (.agg vs.toArray) :=
  yl_val (s := Instr.loadAt t (a.eval x)) (by simp only [execOp, ho]) fun w H => by rw [S.eval hx]; exact run_loadAgg hp vs hs (hc w H)

/-- out of a block of the list -/
theorem y_load {t b j : Nat} {x : Operand} {v : Value} {c : Array Value} {ty : TypeId} (i : Nat) (S : Slots a n E) (ho : o.op = .load t x) (hx : ev E x = some (.pointer (some ⟨b, j, none⟩))) (hp : Plain P t) (hL : L[i]? = some (blk b (.cells c ty))) (hc : c[j]? = some v) : Yl P L o a v :=
  y_loadAt S ho hx hp fun w H => by rw [(H.cellOf hL).1, hc]
/-- the cells of a list from a place on -/
def From (c : Array Value) (j : Nat) : List Value → Prop
  | [] => True
  | v :: vs => c[j]? = some v ∧ From c (j + 1) vs
theorem From.get {c : Array Value} : ∀ {vs : List Value} {j : Nat}, From c j vs → ∀ k v, vs[k]? = some v → c[j + k]? = some v
  | _ :: _, _, ⟨h1, _⟩, 0, v, hv => by simp only [List.getElem?_cons_zero, Option.some.injEq] at hv; subst hv; exact h1
  | _ :: vs, j, ⟨_, h2⟩, k + 1, v, hv => by have := h2.get k v (by simpa using hv); rwa [show j + (k + 1) = j + 1 + k from by omega]
def SizeOf (P : Program) (t : TypeId) (s : Nat) : Prop := ∀ w, (sizeOf t).run P w = .ok s w

theorem run_indexSl {w : World} {t e b j len cap : Nat} {k : IntKind} {s : Nat} {i : Int} (ht : P.underlying t = some (.slice e)) (hs : SizeOf P e s) (h0 : 0 ≤ i) (h1 : i < len) :
    (Instr.indexAt t (.slice (some ⟨b, j, none⟩) len cap) (.int k i)).run P w = .ok (.pointer (some ⟨b, j + i.toNat * s, none⟩)) w := by
  simp only [Instr.indexAt, asIntOf, Sem.run_bind, Sem.run_pure, Result.andThen_ok, run_underlying ht, h0, h1, and_self, if_true, hs w, add_lit]

theorem y_index {t e b j len cap : Nat} {x ix : Operand} {k : IntKind} {s : Nat} {i : Int} (S : Slots a n E) (ho : o.op = .indexAddr t x ix) (hx : ev E x = some (.slice (some ⟨b, j, none⟩) len cap)) (hi : ev E ix = some (.int k i)) (ht : P.underlying t = some (.slice e)) (hs : SizeOf P e s) (h0 : 0 ≤ i) (h1 : i < len) :
    Yl P L o a (.pointer (some ⟨b, j + i.toNat * s, none⟩)) :=
  yl_val (s := Instr.indexAt t (a.eval x) (a.eval ix)) (by simp only [execOp, ho]) fun w _ => by rw [S.eval hx, S.eval hi]; exact run_indexSl ht hs h0 h1

theorem y_len {t e len cap : Nat} {A : Option Addr} {x : Operand} (S : Slots a n E) (ho : o.op = .call { callee := .builtin .len, args := #[x], argTypes := #[t] }) (hx : ev E x = some (.slice A len cap)) (ht : P.underlying t = some (.slice e)) : Yl P L o a (.int .i64 len) := fun w _ => by
  simp [execOp, ho, resolve, invoke, builtin, S.eval hx, Builtin.len_, run_underlying ht, goInt]
theorem y_lenStr {t : Nat} {s : ByteArray} {x : Operand} (S : Slots a n E) (ho : o.op = .call { callee := .builtin .len, args := #[x], argTypes := #[t] }) (hx : ev E x = some (.string s)) (ht : P.underlying t = some .string) : Yl P L o a (.int .i64 s.size) := fun w _ => by
  simp [execOp, ho, resolve, invoke, builtin, S.eval hx, Builtin.len_, run_underlying ht, goInt]

/-! binary operators on integers -/
theorem yl_bin {op : BinOp} {t t' : TypeId} {x y : Operand} {u v r : Value} (S : Slots a n E) (ho : o.op = .binOp op t x y t') (hx : ev E x = some u) (hy : ev E y = some v) (hg : ∀ w, (eqGuard op t x y u v).run P w = .ok () w) (hr : ∀ w, Sat w L → (binOp op t u v).run P w = .ok r w) : Yl P L o a r := fun w H => by
  simp only [execOp, ho, S.eval hx, S.eval hy, Sem.run_bind, hg w, Result.andThen_ok, hr w H, Sem.run_pure]
theorem guard_int {op : BinOp} {t : TypeId} {x y : Operand} {k k' : IntKind} {m m' : Int} (w : World) : (eqGuard op t x y (.int k m) (.int k' m')).run P w = .ok () w := by cases op <;> rfl
theorem guard_bool {op : BinOp} {t : TypeId} {x y : Operand} {m m' : Bool} (w : World) : (eqGuard op t x y (.bool m) (.bool m')).run P w = .ok () w := by cases op <;> rfl
theorem guard_str {op : BinOp} {t : TypeId} {x y : Operand} {m m' : ByteArray} (w : World) : (eqGuard op t x y (.string m) (.string m')).run P w = .ok () w := by cases op <;> rfl
theorem guard_ptr {op : BinOp} {t : TypeId} {x y : Operand} {m m' : Option Addr} (w : World) : (eqGuard op t x y (.pointer m) (.pointer m')).run P w = .ok () w := by cases op <;> rfl
theorem guard_slice {op : BinOp} {t : TypeId} {x y : Operand} {A B : Option Addr} {i j i' j' : Nat} (w : World) : (eqGuard op t x y (.slice A i j) (.slice B i' j')).run P w = .ok () w := by cases op <;> rfl

section ints
variable {t t' : TypeId} {x y : Operand} {k : IntKind} {m m' : Int}
theorem y_add (S : Slots a n E) (ho : o.op = .binOp .add t x y t') (hx : ev E x = some (.int k m)) (hy : ev E y = some (.int k m')) (hw : k.wrap (m + m') = m + m') : Yl P L o a (.int k (m + m')) := yl_bin S ho hx hy guard_int fun w _ => by simp [binOp, Op.intArith, hw]
theorem y_sub (S : Slots a n E) (ho : o.op = .binOp .sub t x y t') (hx : ev E x = some (.int k m)) (hy : ev E y = some (.int k m')) (hw : k.wrap (m - m') = m - m') : Yl P L o a (.int k (m - m')) := yl_bin S ho hx hy guard_int fun w _ => by simp [binOp, Op.intArith, hw]
theorem y_mul (S : Slots a n E) (ho : o.op = .binOp .mul t x y t') (hx : ev E x = some (.int k m)) (hy : ev E y = some (.int k m')) (hw : k.wrap (m * m') = m * m') : Yl P L o a (.int k (m * m')) := yl_bin S ho hx hy guard_int fun w _ => by simp [binOp, Op.intArith, hw]
theorem y_addW (S : Slots a n E) (ho : o.op = .binOp .add t x y t') (hx : ev E x = some (.int k m)) (hy : ev E y = some (.int k m')) : Yl P L o a (.int k (k.wrap (m + m'))) := yl_bin S ho hx hy guard_int fun w _ => by simp [binOp, Op.intArith]
theorem y_quo (S : Slots a n E) (ho : o.op = .binOp .quo t x y t') (hx : ev E x = some (.int k m)) (hy : ev E y = some (.int k m')) (h0 : m' ≠ 0) (hw : k.wrap (m.tdiv m') = m.tdiv m') : Yl P L o a (.int k (m.tdiv m')) := yl_bin S ho hx hy guard_int fun w _ => by simp [binOp, Op.intDiv, hw, h0]
theorem y_quoN (S : Slots a n E) (ho : o.op = .binOp .quo t x y t') (hx : ev E x = some (.int k m)) (hy : ev E y = some (.int k m')) (h1 : 0 ≤ m) (h0 : 0 < m') (hw : k.wrap (m / m') = m / m') : Yl P L o a (.int k (m / m')) := by
  have e : m.tdiv m' = m / m' := Int.tdiv_eq_ediv_of_nonneg h1
  rw [← e]; exact y_quo S ho hx hy (by omega) (by rw [e]; exact hw)
theorem y_rem (S : Slots a n E) (ho : o.op = .binOp .rem t x y t') (hx : ev E x = some (.int k m)) (hy : ev E y = some (.int k m')) (h0 : m' ≠ 0) : Yl P L o a (.int k (m.tmod m')) := yl_bin S ho hx hy guard_int fun w _ => by simp [binOp, Op.intDiv, h0]
theorem y_remN (S : Slots a n E) (ho : o.op = .binOp .rem t x y t') (hx : ev E x = some (.int k m)) (hy : ev E y = some (.int k m')) (h1 : 0 ≤ m) (h0 : 0 < m') : Yl P L o a (.int k (m % m')) := by
  have e : m.tmod m' = m % m' := Int.tmod_eq_emod_of_nonneg h1
  rw [← e]; exact y_rem S ho hx hy (by omega)
theorem y_eq (S : Slots a n E) (ho : o.op = .binOp .eql t x y t') (hx : ev E x = some (.int k m)) (hy : ev E y = some (.int k m')) : Yl P L o a (.bool (decide (m = m'))) := yl_bin S ho hx hy guard_int fun w _ => by simp [binOp, Op.intCmp]; rfl
theorem y_ne (S : Slots a n E) (ho : o.op = .binOp .neq t x y t') (hx : ev E x = some (.int k m)) (hy : ev E y = some (.int k m')) : Yl P L o a (.bool (decide (m ≠ m'))) := yl_bin S ho hx hy guard_int fun w _ => by
  have : (m != m') = decide (m ≠ m') := by by_cases h : m = m' <;> simp [h]
  simp [binOp, Op.intCmp, this]
theorem y_lt (S : Slots a n E) (ho : o.op = .binOp .lss t x y t') (hx : ev E x = some (.int k m)) (hy : ev E y = some (.int k m')) : Yl P L o a (.bool (decide (m < m'))) := yl_bin S ho hx hy guard_int fun w _ => by simp [binOp, Op.intCmp]
theorem y_le (S : Slots a n E) (ho : o.op = .binOp .leq t x y t') (hx : ev E x = some (.int k m)) (hy : ev E y = some (.int k m')) : Yl P L o a (.bool (decide (m ≤ m'))) := yl_bin S ho hx hy guard_int fun w _ => by simp [binOp, Op.intCmp]
theorem y_gt (S : Slots a n E) (ho : o.op = .binOp .gtr t x y t') (hx : ev E x = some (.int k m)) (hy : ev E y = some (.int k m')) : Yl P L o a (.bool (decide (m' < m))) := yl_bin S ho hx hy guard_int fun w _ => by simp [binOp, Op.intCmp]
theorem y_ge (S : Slots a n E) (ho : o.op = .binOp .geq t x y t') (hx : ev E x = some (.int k m)) (hy : ev E y = some (.int k m')) : Yl P L o a (.bool (decide (m' ≤ m))) := yl_bin S ho hx hy guard_int fun w _ => by simp [binOp, Op.intCmp]
/-- any other operator on integers: by its own run -/
theorem y_bitop {op : BinOp} {r : Value} (S : Slots a n E) (ho : o.op = .binOp op t x y t') {k' : IntKind} (hx : ev E x = some (.int k m)) (hy : ev E y = some (.int k' m')) (hr : ∀ w, (binOp op t (.int k m) (.int k' m')).run P w = .ok r w) : Yl P L o a r := yl_bin S ho hx hy guard_int fun w _ => hr w
theorem y_conv {src dst : TypeId} {k' : IntKind} (S : Slots a n E) (ho : o.op = .convert src dst x) (hx : ev E x = some (.int k m)) (hs : P.underlying src = some (.int k)) (ht : P.underlying dst = some (.int k')) (hw : k'.wrap m = m) : Yl P L o a (.int k' m) :=
  yl_val (s := convert src dst (a.eval x)) (by simp only [execOp, ho]) fun w _ => by rw [S.eval hx]; simp [convert, run_underlying hs, run_underlying ht, Conv.intToInt, hw]
theorem y_convW {src dst : TypeId} {k' : IntKind} (S : Slots a n E) (ho : o.op = .convert src dst x) (hx : ev E x = some (.int k m)) (hs : P.underlying src = some (.int k)) (ht : P.underlying dst = some (.int k')) : Yl P L o a (.int k' (k'.wrap m)) :=
  yl_val (s := convert src dst (a.eval x)) (by simp only [execOp, ho]) fun w _ => by rw [S.eval hx]; simp [convert, run_underlying hs, run_underlying ht, Conv.intToInt]
end ints

theorem run_eqB {t : TypeId} {m m' : Bool} (ht : P.underlying t = some .bool) (w : World) : (Op.equal t (.bool m) (.bool m')).run P w = .ok (m == m') w := by
  unfold Op.equal Op.maxDepth
  unfold Op.equalIn
  simp only [Sem.run_bind, run_underlying ht, Result.andThen_ok, Sem.run_pure]
theorem y_neB {t t' : TypeId} {x y : Operand} {m m' : Bool} (S : Slots a n E) (ho : o.op = .binOp .neq t x y t') (hx : ev E x = some (.bool m)) (hy : ev E y = some (.bool m')) (ht : P.underlying t = some .bool) : Yl P L o a (.bool (m != m')) := yl_bin S ho hx hy guard_bool fun w _ => by
  show (do pure (Value.bool (!(← Op.equal t (.bool m) (.bool m'))))).run P w = _
  simp only [Sem.run_bind, run_eqB ht, Result.andThen_ok, Sem.run_pure]
  rfl
theorem y_not {t : TypeId} {x : Operand} {b : Bool} (S : Slots a n E) (ho : o.op = .unOp .not t x) (hx : ev E x = some (.bool b)) : Yl P L o a (.bool (!b)) :=
  yl_val (s := Op.unary .not (a.eval x)) (by simp only [execOp, ho]) fun w _ => by rw [S.eval hx]; simp [Op.unary]
theorem y_extract {x : Operand} {i : Nat} {vs : Array Value} {v : Value} (S : Slots a n E) (ho : o.op = .extract x i) (hx : ev E x = some (.tuple vs)) (hv : vs[i]? = some v) : Yl P L o a v :=
  yl_val (s := Instr.extract (a.eval x) i) (by simp only [execOp, ho]) fun w _ => by rw [S.eval hx]; simp [Instr.extract, hv]
/-- what is built out of parts: by its own run -/
theorem y_build {t : TypeId} {ps : Array (Nat × Operand)} {vs : Array (Nat × Value)} {v : Value} (S : Slots a n E) (ho : o.op = .build t ps) (hps : (ps.toList.map fun p => (ev E p.2).map fun v => (p.1, v)) = vs.toList.map some) (hr : ∀ w, (Instr.build t vs).run P w = .ok v w) : Yl P L o a v :=
  yl_val (s := Instr.build t (ps.map fun (i, x) => (i, a.eval x))) (by simp only [execOp, ho]) fun w _ => by
    have e : ps.map (fun (i, x) => (i, a.eval x)) = vs := by
      apply Array.ext'
      rw [Array.toList_map]
      have key : ∀ (l : List (Nat × Operand)) (m : List (Nat × Value)), (l.map fun p => (ev E p.2).map fun v => (p.1, v)) = m.map some → l.map (fun (p : Nat × Operand) => (p.1, a.eval p.2)) = m := by
        intro l
        induction l with
        | nil => intro m h; cases m with
          | nil => rfl
          | cons _ _ => simp at h
        | cons p l ih => intro m h; cases m with
          | nil => simp at h
          | cons q m =>
            simp only [List.map_cons, List.cons.injEq] at h ⊢
            refine ⟨?_, ih m h.2⟩
            cases hv : ev E p.2 with
            | none => rw [hv] at h; simp at h
            | some u => rw [hv] at h; simp only [Option.map_some, Option.some.injEq] at h; rw [S.eval hv]; exact h.1
      exact key _ _ hps
    rw [e]; exact hr w
theorem y_makeFunc {f : FuncId} {cs : Array Operand} {vs : Array Value} (S : Slots a n E) (ho : o.op = .makeFunc (.func f) #[] cs) (hcs : cs.toList.map (ev E) = vs.toList.map some) : Yl P L o a (.func (.func f) #[] vs) :=
  yl_val (s := Instr.makeFunc (.func f) (#[].map a.eval) (cs.map a.eval)) (by simp only [execOp, ho]) fun w _ => by
    have e : cs.map a.eval = vs := by
      apply Array.ext'
      rw [Array.toList_map]
      have key : ∀ (l : List Operand) (m : List Value), l.map (ev E) = m.map some → l.map a.eval = m := by
        intro l
        induction l with
        | nil => intro m h; cases m with
          | nil => rfl
          | cons _ _ => simp at h
        | cons p l ih => intro m h; cases m with
          | nil => simp at h
          | cons q m => simp only [List.map_cons, List.cons.injEq] at h ⊢; exact ⟨S.eval h.1, ih m h.2⟩
      exact key _ _ hcs
    rw [e]; simp [Instr.makeFunc]
theorem y_nilCheck {x : Operand} {ad : Addr} (S : Slots a n E) (ho : o.op = .nilCheck x) (hx : ev E x = some (.pointer (some ad))) : Yl P L o a (.pointer (some ad)) := fun w _ => by
  simp only [execOp, ho, S.eval hx]; rfl
theorem y_sliceNil {t e : TypeId} {x y : Operand} {t' : TypeId} {A : Option Addr} {i j : Nat} (S : Slots a n E) (ho : o.op = .binOp .eql t x y t') (hx : ev E x = some (.slice A i j)) (hy : ev E y = some (.slice none 0 0)) (ht : P.underlying t = some (.slice e)) : Yl P L o a (.bool A.isNone) :=
  yl_bin S ho hx hy guard_slice fun w _ => Lib.run_eql_slice_nil w t e A i j 0 0 ht
end
end Go.Cg
