/- Steps that the kernel's search finds by itself: what each operation yields, by classes; whole regions at once. No condition. -/
import Derived.Test.YtgfdmhjjlajmgaaGreatDoorKUMp
namespace Go.Cg
set_option linter.unusedVariables false
set_option linter.unusedSimpArgs false
open Go.RowKit
abbrev Env := List (Nat × Value)

/-! ### look-ups -/
class LtB (d n : Nat) : Prop where
  h : Nat.blt d n = true
instance LtB.lt (d k : Nat) : LtB d (k + d + 1) := ⟨by rw [Nat.blt_eq]; omega⟩
class Lk (E : Env) (d : Nat) (v : outParam Value) : Prop where
  h : lk E d = some v
instance (priority := 1100) Lk.hit (d : Nat) (v : Value) (E : Env) : Lk ((d, v) :: E) d v := ⟨by unfold lk; rw [Nat.beq_refl]⟩
instance Lk.skipL (i d : Nat) (u v : Value) (E : Env) [hn : LtB i d] [hl : Lk E d v] : Lk ((i, u) :: E) d v := ⟨by
  unfold lk
  cases hb : Nat.beq i d with
  | false => exact hl.h
  | true => have h1 := Nat.eq_of_beq_eq_true hb; have h2 := hn.h; rw [Nat.blt_eq] at h2; omega⟩
instance Lk.skipG (i d : Nat) (u v : Value) (E : Env) [hn : LtB d i] [hl : Lk E d v] : Lk ((i, u) :: E) d v := ⟨by
  unfold lk
  cases hb : Nat.beq i d with
  | false => exact hl.h
  | true => have h1 := Nat.eq_of_beq_eq_true hb; have h2 := hn.h; rw [Nat.blt_eq] at h2; omega⟩
class Ev (E : Env) (x : Operand) (v : outParam Value) : Prop where
  h : ev E x = some v
instance Ev.tmp (E : Env) (t : Nat) (v : Value) [hl : Lk E t v] : Ev E (.tmp t) v := ⟨hl.h⟩
instance Ev.const (E : Env) (v : Value) : Ev E (.const v) v := ⟨rfl⟩
class Evs (E : Env) (xs : List Operand) (vs : outParam (List Value)) : Prop where
  h : xs.map (ev E) = vs.map some
instance Evs.nil (E : Env) : Evs E [] [] := ⟨rfl⟩
instance Evs.cons (E : Env) (x : Operand) (v : Value) (xs : List Operand) (vs : List Value) [h1 : Ev E x v] [h2 : Evs E xs vs] : Evs E (x :: xs) (v :: vs) := ⟨by simp only [List.map_cons, h1.h, h2.h]⟩
class At {α : Type} (l : List α) (j : Nat) (v : outParam α) : Prop where
  h : l[j]? = some v
instance At.hit {α : Type} (v : α) (l : List α) : At (v :: l) 0 v := ⟨rfl⟩
instance At.skip {α : Type} (u v : α) (l : List α) (j : Nat) [h : At l j v] : At (u :: l) (j + 1) v := ⟨by simpa using h.h⟩
/-- so many from a place on -/
class Takes (l : List Value) (j s : Nat) (vs : outParam (List Value)) : Prop where
  h : vs.length = s ∧ ∀ k v, vs[k]? = some v → l[j + k]? = some v
instance Takes.nil (l : List Value) (j : Nat) : Takes l j 0 [] := ⟨rfl, fun k v h => by simp at h⟩
instance Takes.hit (u : Value) (l : List Value) (s : Nat) (vs : List Value) [h : Takes l 0 s vs] : Takes (u :: l) 0 (s + 1) (u :: vs) := ⟨by simp [h.h.1], fun k v hk => by
  cases k with
  | zero => simpa using hk
  | succ k => have := h.h.2 k v (by simpa using hk); simpa using this⟩
/-- the sum of two places -/
class Plus (a b : Nat) (c : outParam Nat) : Prop where
  h : a + b = c
instance (priority := 1100) Plus.left (b : Nat) : Plus 0 b b := ⟨by omega⟩
instance (priority := 1050) Plus.right (a : Nat) : Plus a 0 a := ⟨rfl⟩
instance Plus.sum (a b : Nat) : Plus a b (a + b) := ⟨rfl⟩
/-- a block among the resources -/
class Has (L : List Res) (b : Nat) (c : outParam (List Value)) : Prop where
  h : ∃ (i : Nat) (ty : TypeId), L[i]? = some (blk b (.cells c.toArray ty))
instance (priority := 1100) Has.hit (b : Nat) (c : List Value) (ty : TypeId) (L : List Res) : Has (blk b (.cells c.toArray ty) :: L) b c := ⟨0, ty, rfl⟩
instance Has.skip (R : Res) (L : List Res) (b : Nat) (c : List Value) [h : Has L b c] : Has (R :: L) b c := ⟨by
  obtain ⟨i, ty, h⟩ := h.h; exact ⟨i + 1, ty, by simpa using h⟩⟩
theorem Has.cell {L : List Res} {b : Nat} {c : List Value} (h : Has L b c) {w : World} (H : Sat w L) (j : Nat) : w.cell? ⟨b, j, none⟩ = c[j]? := by
  obtain ⟨i, ty, h⟩ := h.h
  have := (H.cellOf h).1 (j := j)
  simpa using this

/-! ### the program's own facts -/
class Und (P : Program) (t : TypeId) (d : outParam TypeDesc) : Prop where
  h : P.underlying t = some d
class Fld (P : Program) (s f : Nat) (k : outParam Nat) : Prop where
  h : FieldAt P s f k
class Pln (P : Program) (t : TypeId) : Prop where
  h : Plain P t
class Ag (P : Program) (t : TypeId) (s : outParam Nat) : Prop where
  h : Agg P t s
class Szo (P : Program) (t : TypeId) (s : outParam Nat) : Prop where
  h : SizeOf P t s
/-- what a kind of integer may be -/
class Rng (k : IntKind) (lo hi : outParam Int) : Prop where
  h : ∀ x : Int, lo ≤ x → x ≤ hi → k.wrap x = x
instance : Rng .i64 (-9223372036854775808) 9223372036854775807 := ⟨fun _ h1 h2 => wi64 h1 h2⟩
instance : Rng .u64 0 18446744073709551615 := ⟨fun _ h1 h2 => wu64 h1 h2⟩
instance : Rng .u32 0 4294967295 := ⟨fun _ h1 h2 => wu32 h1 h2⟩
/-! ### what an operation yields -/
class Stp (P : Program) (L : List Res) (E : Env) (op : Op) (v : outParam Value) : Prop where
  h : ∀ {a : Act} {n : Nat}, Slots a n E → ∀ {o : Oper}, o.op = op → Yl P L o a v
/-- .. where this is so -/
class StpC (P : Program) (L : List Res) (E : Env) (op : Op) (v : outParam Value) (C : outParam Prop) : Prop where
  h : C → ∀ {a : Act} {n : Nat}, Slots a n E → ∀ {o : Oper}, o.op = op → Yl P L o a v
section
variable {P : Program} {L : List Res} {E : Env}
instance Stp.move (x : Operand) (v : Value) [hx : Ev E x v] : Stp P L E (.move x) v := ⟨fun S _ ho => y_move S ho hx.h⟩
instance Stp.assign (x : Operand) (v : Value) [hx : Ev E x v] : Stp P L E (.assign x) v := ⟨fun S _ ho => y_assign S ho hx.h⟩
instance Stp.fieldAddr (s f k b j r : Nat) (x : Operand) [hx : Ev E x (.pointer (some ⟨b, j, none⟩))] [hf : Fld P s f k] [hr : Plus j k r] : Stp P L E (.fieldAddr s x f) (.pointer (some ⟨b, r, none⟩)) := ⟨fun S _ ho => by
  have h := hr.h; subst h; exact y_fieldAddr S ho hx.h hf.h⟩
instance Stp.nilCheck (x : Operand) (ad : Addr) [hx : Ev E x (.pointer (some ad))] : Stp P L E (.nilCheck x) (.pointer (some ad)) := ⟨fun S _ ho => y_nilCheck S ho hx.h⟩
instance Stp.load (t b j : Nat) (x : Operand) (c : List Value) (v : Value) [hx : Ev E x (.pointer (some ⟨b, j, none⟩))] [hp : Pln P t] [hc : Has L b c] [hv : At c j v] : Stp P L E (.load t x) v :=
  ⟨fun S _ ho => y_loadAt S ho hx.h hp.h fun w H => by rw [hc.cell H, hv.h]⟩
instance Stp.loadAgg (t b j s : Nat) (x : Operand) (c vs : List Value) [hx : Ev E x (.pointer (some ⟨b, j, none⟩))] [hp : Ag P t s] [hc : Has L b c] [hv : Takes c j s vs] : Stp P L E (.load t x) (.agg vs.toArray) :=
  ⟨fun S _ ho => y_loadAggAt vs S ho hx.h hp.h hv.h.1 fun w H k v hk => by rw [hc.cell H]; exact hv.h.2 k v hk⟩
instance Stp.extract (x : Operand) (i : Nat) (l : List Value) (v : Value) [hx : Ev E x (.tuple l.toArray)] [hv : At l i v] : Stp P L E (.extract x i) v := ⟨fun S _ ho => y_extract S ho hx.h (by simpa using hv.h)⟩
instance Stp.len (t e n c : Nat) (A : Option Addr) (x : Operand) [hx : Ev E x (.slice A n c)] [hu : Und P t (.slice e)] : Stp P L E (.call { callee := .builtin .len, args := #[x], argTypes := #[t] }) (.int .i64 n) := ⟨fun S _ ho => y_len S ho hx.h hu.h⟩
instance Stp.lenS (t : Nat) (s : List UInt8) (x : Operand) [hx : Ev E x (.string ⟨s.toArray⟩)] [hu : Und P t .string] : Stp P L E (.call { callee := .builtin .len, args := #[x], argTypes := #[t] }) (.int .i64 s.length) := ⟨fun S _ ho => by
  have := y_lenStr (L := L) S ho hx.h hu.h
  have e : (ByteArray.size ⟨s.toArray⟩) = s.length := by simp [ByteArray.size]
  rwa [e] at this⟩
instance Stp.minI (x y : Operand) (ts : Array TypeId) (k k' : IntKind) (m m' : Int) [hx : Ev E x (.int k m)] [hy : Ev E y (.int k' m')] : Stp P L E (.call { callee := .builtin .min, args := #[x, y], argTypes := ts }) (.int k (min m m')) := ⟨fun S _ ho => y_min S ho hx.h hy.h⟩
instance Stp.maxI (x y : Operand) (ts : Array TypeId) (k k' : IntKind) (m m' : Int) [hx : Ev E x (.int k m)] [hy : Ev E y (.int k' m')] : Stp P L E (.call { callee := .builtin .max, args := #[x, y], argTypes := ts }) (.int k (max m m')) := ⟨fun S _ ho => y_max S ho hx.h hy.h⟩
section
variable (t t' : TypeId) (x y : Operand) (k : IntKind) (m m' : Int) [hx : Ev E x (.int k m)] [hy : Ev E y (.int k m')]
instance Stp.eq : Stp P L E (.binOp .eql t x y t') (.bool (decide (m = m'))) := ⟨fun S _ ho => y_eq S ho hx.h hy.h⟩
instance Stp.ne : Stp P L E (.binOp .neq t x y t') (.bool (decide (m ≠ m'))) := ⟨fun S _ ho => y_ne S ho hx.h hy.h⟩
instance Stp.lt : Stp P L E (.binOp .lss t x y t') (.bool (decide (m < m'))) := ⟨fun S _ ho => y_lt S ho hx.h hy.h⟩
instance Stp.le : Stp P L E (.binOp .leq t x y t') (.bool (decide (m ≤ m'))) := ⟨fun S _ ho => y_le S ho hx.h hy.h⟩
instance Stp.gt : Stp P L E (.binOp .gtr t x y t') (.bool (decide (m' < m))) := ⟨fun S _ ho => y_gt S ho hx.h hy.h⟩
instance Stp.ge : Stp P L E (.binOp .geq t x y t') (.bool (decide (m' ≤ m))) := ⟨fun S _ ho => y_ge S ho hx.h hy.h⟩
variable (lo hi : Int) [hr : Rng k lo hi]
instance StpC.add : StpC P L E (.binOp .add t x y t') (.int k (m + m')) (lo ≤ m + m' ∧ m + m' ≤ hi) := ⟨fun hc _ _ S _ ho => y_add S ho hx.h hy.h (hr.h _ hc.1 hc.2)⟩
instance StpC.sub : StpC P L E (.binOp .sub t x y t') (.int k (m - m')) (lo ≤ m - m' ∧ m - m' ≤ hi) := ⟨fun hc _ _ S _ ho => y_sub S ho hx.h hy.h (hr.h _ hc.1 hc.2)⟩
instance StpC.mul : StpC P L E (.binOp .mul t x y t') (.int k (m * m')) (lo ≤ m * m' ∧ m * m' ≤ hi) := ⟨fun hc _ _ S _ ho => y_mul S ho hx.h hy.h (hr.h _ hc.1 hc.2)⟩
end
instance StpC.conv (src dst : TypeId) (x : Operand) (k k' : IntKind) (m lo hi : Int) [hx : Ev E x (.int k m)] [hs : Und P src (.int k)] [hd : Und P dst (.int k')] [hr : Rng k' lo hi] : StpC P L E (.convert src dst x) (.int k' m) (lo ≤ m ∧ m ≤ hi) := ⟨fun hc _ _ S _ ho => y_conv S ho hx.h hs.h hd.h (hr.h _ hc.1 hc.2)⟩
instance (priority := 1100) Stp.notT (t : TypeId) (x : Operand) [hx : Ev E x (.bool true)] : Stp P L E (.unOp .not t x) (.bool false) := ⟨fun S _ ho => y_not S ho hx.h⟩
instance (priority := 1100) Stp.notF (t : TypeId) (x : Operand) [hx : Ev E x (.bool false)] : Stp P L E (.unOp .not t x) (.bool true) := ⟨fun S _ ho => y_not S ho hx.h⟩
instance Stp.not (t : TypeId) (x : Operand) (b : Bool) [hx : Ev E x (.bool b)] : Stp P L E (.unOp .not t x) (.bool (!b)) := ⟨fun S _ ho => y_not S ho hx.h⟩
instance Stp.pickT (c x y : Operand) (v : Value) [hc : Ev E c (.bool true)] [hx : Ev E x v] : Stp P L E (.pick c x y) v := ⟨fun S _ ho => y_pickT S ho hc.h hx.h⟩
instance Stp.pickF (c x y : Operand) (v : Value) [hc : Ev E c (.bool false)] [hy : Ev E y v] : Stp P L E (.pick c x y) v := ⟨fun S _ ho => y_pickF S ho hc.h hy.h⟩
end

/-! ### strings, pointers -/
abbrev str (n : List UInt8) : Value := .string ⟨n.toArray⟩
theorem ba_app (a b : List UInt8) : (⟨a.toArray⟩ : ByteArray) ++ ⟨b.toArray⟩ = ⟨(a ++ b).toArray⟩ := by
  apply ByteArray.ext
  simp
section
variable {P : Program} {L : List Res} {E : Env} (t t' : TypeId) (x y : Operand)
instance StpC.addS (a b : List UInt8) [hx : Ev E x (str a)] [hy : Ev E y (str b)] : StpC P L E (.binOp .add t x y t') (str (a ++ b)) (((a.length + b.length : Nat) : Int) ≤ 9223372036854775807) := ⟨fun hc _ _ S _ ho => yl_bin S ho hx.h hy.h guard_str fun w _ => by
  have e : binOp .add t (str a) (str b) = Op.stringOp .add ⟨a.toArray⟩ ⟨b.toArray⟩ := rfl
  have h1 : (ByteArray.size ⟨a.toArray⟩) = a.length := by simp [ByteArray.size]
  have h2 : (ByteArray.size ⟨b.toArray⟩) = b.length := by simp [ByteArray.size]
  have h3 : ¬ ((a.length + b.length : Nat) : Int) > IntKind.i64.max := by have : IntKind.i64.max = 9223372036854775807 := rfl; omega
  rw [e]
  simp only [Op.stringOp, h1, h2, if_neg h3, ba_app, Sem.run_pure]⟩
instance Stp.eqS (a b : List UInt8) [hx : Ev E x (str a)] [hy : Ev E y (str b)] : Stp P L E (.binOp .eql t x y t') (.bool (decide (a = b))) := ⟨fun S _ ho => yl_bin S ho hx.h hy.h guard_str fun w _ => by
  have e2 : binOp .eql t (str a) (str b) = Op.stringOp .eql ⟨a.toArray⟩ ⟨b.toArray⟩ := rfl
  have e3 : (a == b) = decide (a = b) := by rw [Bool.eq_iff_iff]; simp
  rw [e2]; simp [Op.stringOp, e3]⟩
instance Stp.neS (a b : List UInt8) [hx : Ev E x (str a)] [hy : Ev E y (str b)] : Stp P L E (.binOp .neq t x y t') (.bool (decide (a ≠ b))) := ⟨fun S _ ho => yl_bin S ho hx.h hy.h guard_str fun w _ => by
  have e2 : binOp .neq t (str a) (str b) = Op.stringOp .neq ⟨a.toArray⟩ ⟨b.toArray⟩ := rfl
  have e3 : (a == b) = decide (a = b) := by rw [Bool.eq_iff_iff]; simp
  rw [e2]; simp [Op.stringOp, e3]⟩
theorem run_eqP {e : TypeId} (hu : P.underlying t = some (.pointer e)) (A B : Option Addr) (h : A = none ∨ B = none) (w : World) : (Op.equal t (.pointer A) (.pointer B)).run P w = .ok (decide (A = B)) w := by
  unfold Op.equal Op.maxDepth; unfold Op.equalIn
  simp only [Sem.run_bind, run_underlying hu, Result.andThen_ok, Sem.run_pure]
  rcases h with rfl | rfl
  · cases B <;> simp [samePointer, go_sem]
  · cases A <;> simp [samePointer, go_sem]
instance Stp.eqP (e : TypeId) (ad : Addr) [hx : Ev E x (.pointer (some ad))] [hy : Ev E y (.pointer none)] [hu : Und P t (.pointer e)] : Stp P L E (.binOp .eql t x y t') (.bool false) := ⟨fun S _ ho => yl_bin S ho hx.h hy.h guard_ptr fun w _ => by
  show (do pure (Value.bool (← Op.equal t _ _))).run P w = _
  simp only [Sem.run_bind, run_eqP t hu.h _ _ (.inr rfl), Result.andThen_ok, Sem.run_pure]; simp⟩
instance Stp.neP (e : TypeId) (ad : Addr) [hx : Ev E x (.pointer (some ad))] [hy : Ev E y (.pointer none)] [hu : Und P t (.pointer e)] : Stp P L E (.binOp .neq t x y t') (.bool true) := ⟨fun S _ ho => yl_bin S ho hx.h hy.h guard_ptr fun w _ => by
  show (do pure (Value.bool (!(← Op.equal t _ _)))).run P w = _
  simp only [Sem.run_bind, run_eqP t hu.h _ _ (.inr rfl), Result.andThen_ok, Sem.run_pure]; simp⟩
instance Stp.neN (e : TypeId) [hx : Ev E x (.pointer none)] [hy : Ev E y (.pointer none)] [hu : Und P t (.pointer e)] : Stp P L E (.binOp .neq t x y t') (.bool false) := ⟨fun S _ ho => yl_bin S ho hx.h hy.h guard_ptr fun w _ => by
  show (do pure (Value.bool (!(← Op.equal t _ _)))).run P w = _
  simp only [Sem.run_bind, run_eqP t hu.h _ _ (.inr rfl), Result.andThen_ok, Sem.run_pure]; simp⟩
end

/-! ### guards -/
class Gd (ops : List Oper) (E : Env) (g : Option (Nat × Bool)) (b : outParam Bool) : Prop where
  h : ∀ o : Oper, o.guard = g → Wt ops.toArray E o = some b
instance Gd.none (ops : List Oper) (E : Env) : Gd ops E Option.none true := ⟨fun o ho => by unfold Wt; rw [ho]⟩
class Dst (ops : List Oper) (j : Nat) (d : outParam Nat) : Prop where
  h : (ops[j]?).bind (·.dst) = some d
instance Dst.hit (d : Nat) (op : Op) (ty : TypeId) (pos : String) (af : Array Edge) (g : Option (Nat × Bool)) (ops : List Oper) : Dst (⟨some d, op, ty, pos, af, g⟩ :: ops) 0 d := ⟨rfl⟩
instance Dst.skip (o : Oper) (ops : List Oper) (j d : Nat) [h : Dst ops j d] : Dst (o :: ops) (j + 1) d := ⟨by simpa using h.h⟩
theorem gd_some {ops : List Oper} {E : Env} {j d : Nat} {b want : Bool} (hd : (ops[j]?).bind (·.dst) = some d) (hl : lk E d = some (.bool b)) (o : Oper) (ho : o.guard = some (j, want)) : Wt ops.toArray E o = some (b == want) := by
  unfold Wt; rw [ho]
  simp only [List.getElem?_toArray, hd, hl]
theorem gd_un {ops : List Oper} {E : Env} {j d : Nat} {want : Bool} (hd : (ops[j]?).bind (·.dst) = some d) (hl : lk E d = some undef) (o : Oper) (ho : o.guard = some (j, want)) : Wt ops.toArray E o = some false := by
  unfold Wt; rw [ho]
  simp only [List.getElem?_toArray, hd, hl, undef]
instance Gd.tt (ops : List Oper) (E : Env) (j d : Nat) [hd : Dst ops j d] [hl : Lk E d (.bool true)] : Gd ops E (some (j, true)) true := ⟨fun o ho => gd_some hd.h hl.h o ho⟩
instance Gd.tf (ops : List Oper) (E : Env) (j d : Nat) [hd : Dst ops j d] [hl : Lk E d (.bool true)] : Gd ops E (some (j, false)) false := ⟨fun o ho => gd_some hd.h hl.h o ho⟩
instance Gd.ft (ops : List Oper) (E : Env) (j d : Nat) [hd : Dst ops j d] [hl : Lk E d (.bool false)] : Gd ops E (some (j, true)) false := ⟨fun o ho => gd_some hd.h hl.h o ho⟩
instance Gd.ff (ops : List Oper) (E : Env) (j d : Nat) [hd : Dst ops j d] [hl : Lk E d (.bool false)] : Gd ops E (some (j, false)) true := ⟨fun o ho => gd_some hd.h hl.h o ho⟩
instance Gd.un (ops : List Oper) (E : Env) (j d : Nat) (want : Bool) [hd : Dst ops j d] [hl : Lk E d undef] : Gd ops E (some (j, want)) false := ⟨fun o ho => gd_un hd.h hl.h o ho⟩

/-! ### resources by their places -/
class Drp (L : List Res) (k : Nat) (T : outParam (List Res)) : Prop where
  h : dropT k L = T
instance Drp.zero (L : List Res) : Drp L 0 L := ⟨rfl⟩
instance Drp.succ (R : Res) (L T : List Res) (k : Nat) [h : Drp L k T] : Drp (R :: L) (k + 1) T := ⟨h.h⟩
class Nth (L : List Res) (i : Nat) (R : outParam Res) : Prop where
  h : L[i]? = some R ∧ nthR L i = R
instance Nth.hit (R : Res) (L : List Res) : Nth (R :: L) 0 R := ⟨rfl, rfl⟩
instance Nth.skip (R0 R : Res) (L : List Res) (i : Nat) [h : Nth L i R] : Nth (R0 :: L) (i + 1) R := ⟨by simpa using h.h.1, h.h.2⟩
class Pk (L : List Res) (is : List Nat) (k : Nat) (L' : outParam (List Res)) : Prop where
  h : picksR L is (dropR L k) = L'
instance Pk.nil (L T : List Res) (k : Nat) [h : Drp L k T] : Pk L [] k T := ⟨h.h⟩
instance Pk.cons (L L' : List Res) (i k : Nat) (is : List Nat) (R : Res) [h1 : Nth L i R] [h2 : Pk L is k L'] : Pk L (i :: is) k (R :: L') := ⟨by
  show nthR L i :: picksR L is (dropR L k) = _; rw [h1.h.2, h2.h]⟩
/-- some of the resources, in whatever order; what lies behind the first k stays -/
theorem pk (is : List Nat) (k : Nat) {w : World} {L L' : List Res} (H : Sat w L) [h : Pk L is k L'] (ok : pickOk is k = true := by rfl) : Sat w L' := h.h ▸ H.pick is k ok
class St (L : List Res) (i : Nat) (R : Res) (L' : outParam (List Res)) : Prop where
  h : i < L.length ∧ L.set i R = L'
instance St.hit (R0 R : Res) (L : List Res) : St (R0 :: L) 0 R (R :: L) := ⟨by simp, rfl⟩
instance St.skip (R0 R : Res) (L L' : List Res) (i : Nat) [h : St L i R L'] : St (R0 :: L) (i + 1) R (R0 :: L') := ⟨by simpa using h.h.1, by simpa using h.h.2⟩
/-- the first resource that lies at a block -/
class FdR (L : List Res) (b : Nat) (R : outParam Res) (i : outParam Nat) : Prop where
  h : L[i]? = some R
instance (priority := 1100) FdR.blk (b : Nat) (o : Obj) (L : List Res) : FdR (blk b o :: L) b (blk b o) 0 := ⟨rfl⟩
instance FdR.skip (R0 R : Res) (L : List Res) (b i : Nat) [h : FdR L b R i] : FdR (R0 :: L) b R (i + 1) := ⟨by simpa using h.h⟩
/-! ### a list of cells with some put in -/
class Pu (c : List Value) (j : Nat) (vs : List Value) (c' : outParam (List Value)) : Prop where
  h : j + vs.length ≤ c.length ∧ putAt c.toArray j vs = c'.toArray
theorem putAt_cons (x : Value) : ∀ (vs c : List Value) (j : Nat), putAt (x :: c).toArray (j + 1) vs = (x :: (putAt c.toArray j vs).toList).toArray
  | [], c, j => by simp [putAt]
  | v :: vs, c, j => by
    unfold putAt
    have : ((x :: c).toArray.setIfInBounds (j + 1) v) = (x :: c.set j v).toArray := by simp
    rw [this, putAt_cons x vs (c.set j v) (j + 1)]
    simp
class Fit1 (c : List Value) (j : Nat) : Prop where
  h : j ≤ c.length
instance Fit1.zero (c : List Value) : Fit1 c 0 := ⟨Nat.zero_le _⟩
instance Pu.nil (c : List Value) (j : Nat) [h : Fit1 c j] : Pu c j [] c := ⟨by simpa using h.h, rfl⟩
instance Pu.skip (x : Value) (c c' vs : List Value) (j : Nat) [h : Pu c j vs c'] : Pu (x :: c) (j + 1) vs (x :: c') := ⟨by have := h.h.1; simp only [List.length_cons]; omega, by rw [putAt_cons, h.h.2]⟩
theorem putAt_zero (x v : Value) (vs c : List Value) : putAt (x :: c).toArray 0 (v :: vs) = (v :: (putAt c.toArray 0 vs).toList).toArray := by
  show putAt ((x :: c).toArray.setIfInBounds 0 v) 1 vs = _
  have : ((x :: c).toArray.setIfInBounds 0 v) = (v :: c).toArray := by simp
  rw [this, putAt_cons]
instance Pu.hit (x v : Value) (c c' vs : List Value) [h : Pu c 0 vs c'] : Pu (x :: c) 0 (v :: vs) (v :: c') := ⟨by have := h.h.1; simp only [List.length_cons] at *; omega, by rw [putAt_zero, h.h.2]⟩

/-! ### so many operations at once -/
theorem t0 : (0 : Int) ≤ 0 := Int.le_refl 0
/-- a call that tells its value -/
class Cal (P : Program) (L : List Res) (f : FuncId) (args : List Value) (v : outParam Value) (L' : outParam (List Res)) (C : outParam Prop) : Prop where
  e : Enters P f
  h : C → ∀ w, Sat w L → Rt P f args.toArray w fun u w' => u = v ∧ Sat w' L'
/-- a store -/
class Eff (P : Program) (L : List Res) (E : Env) (op : Op) (L' : outParam (List Res)) : Prop where
  h : ∀ {a : Act} {n : Nat} {w : World}, Slots a n E → Sat w L → ∀ {o : Oper}, o.op = op → ∃ w', (execOp a.eval o).run P w = .ok .skip w' ∧ Sat w' L'
class OneC (vs : List Value) : Prop where
  h : ∀ u ∈ vs, u.oneCell' = true
class One1 (v : Value) : Prop where
  h : v.oneCell' = true
instance (k : IntKind) (m : Int) : One1 (.int k m) := ⟨rfl⟩
instance (b : Bool) : One1 (.bool b) := ⟨rfl⟩
instance (s : ByteArray) : One1 (.string s) := ⟨rfl⟩
instance (A : Option Addr) (n c : Nat) : One1 (.slice A n c) := ⟨rfl⟩
instance (A : Option Addr) : One1 (.pointer A) := ⟨rfl⟩
instance : OneC [] := ⟨fun u h => by cases h⟩
instance (v : Value) (vs : List Value) [h1 : One1 v] [h2 : OneC vs] : OneC (v :: vs) := ⟨fun u h => by rcases List.mem_cons.1 h with rfl | h; (exact h1.h); (exact h2.h u h)⟩
class Cls (v : Value) (l : outParam (List Value)) : Prop where
  h : v.cells.toList = l
instance (l : List Value) : Cls (.agg l.toArray) l := ⟨rfl⟩
instance (k : IntKind) (m : Int) : Cls (.int k m) [.int k m] := ⟨rfl⟩
instance (b : Bool) : Cls (.bool b) [.bool b] := ⟨rfl⟩
instance (s : ByteArray) : Cls (.string s) [.string s] := ⟨rfl⟩
instance (A : Option Addr) (n c : Nat) : Cls (.slice A n c) [.slice A n c] := ⟨rfl⟩
class Len (l : List Value) (n : Nat) : Prop where
  h : l.length = n
instance : Len [] 0 := ⟨rfl⟩
instance (v : Value) (l : List Value) (n : Nat) [h : Len l n] : Len (v :: l) (n + 1) := ⟨by simp [h.h]⟩
section
variable {P : Program} {L L' : List Res} {E : Env}
instance Eff.store (t b j s i : Nat) (ad x : Operand) (c c' vs : List Value) (ty : TypeId) (v : Value) [ha : Ev E ad (.pointer (some ⟨b, j, none⟩))] [hx : Ev E x v] [hv : Cls v vs] [hz : Szo P t s] [hl : Len vs s] [h1 : OneC vs]
    [hf : FdR L b (blk b (.cells c.toArray ty)) i] [hp : Pu c j vs c'] [hs : St L i (blk b (.cells c'.toArray ty)) L'] : Eff P L E (.store t ad x) L' := ⟨fun {a n w} S H o ho => by
  obtain ⟨w', hr, H'⟩ := run_store (P := P) (ty := t) (j := j) w i H hf.h hv.h hz.h hl.h h1.h (by have := hp.h.1; rw [hl.h] at this; simpa [Nat.ble_eq] using this) hp.h.2
  exact ⟨w', by simp only [execOp, ho, S.eval ha.h, S.eval hx.h, Sem.run_bind, hr, Result.andThen_ok, Sem.run_pure], hs.h.2 ▸ H'⟩⟩
end
class Run (P : Program) (ops : List Oper) (n k : Nat) (l : List Oper) (E : Env) (L : List Res) (l' : outParam (List Oper)) (E' : outParam Env) (L' : outParam (List Res)) (C : outParam Prop) : Prop where
  h : C → ∀ {Q : Exit → Act → World → Prop} {a : Act} {w : World}, Slots a n E → Sat w L → (∀ a' w', Slots a' n E' → Sat w' L' → wpList P ops.toArray Q l' a' w') → wpList P ops.toArray Q l a w
section
variable {P : Program} {ops : List Oper} {L L1 L' : List Res} {n : Nat} {E : Env}
instance Run.zero (l : List Oper) : Run P ops n 0 l E L l E L ((0 : Int) ≤ 0) := ⟨fun _ _ _ _ S H K => K _ _ S H⟩
variable (k : Nat) (l l' : List Oper) (E' : Env) (C D : Prop) (d : Nat) (v : Value) (op : Op) (ty : TypeId) (pos : String) (af : Array Edge) (g : Option (Nat × Bool))
instance (priority := 1100) Run.pure [hg : Gd ops E g true] [hs : Stp P L E op v] [hd : LtB d n] [hr : Run P ops n k l ((d, v) :: E) L l' E' L' C] : Run P ops n (k + 1) (⟨some d, op, ty, pos, af, g⟩ :: l) E L l' E' L' C :=
  ⟨fun hc _ _ _ S H K => r_y S H (hs.h S rfl) rfl hd.h (hg.h _ rfl) fun _ S' => hr.h hc S' H K⟩
instance Run.cond [hg : Gd ops E g true] [hs : StpC P L E op v D] [hd : LtB d n] [hr : Run P ops n k l ((d, v) :: E) L l' E' L' C] : Run P ops n (k + 1) (⟨some d, op, ty, pos, af, g⟩ :: l) E L l' E' L' (D ∧ C) :=
  ⟨fun hc _ _ _ S H K => r_y S H (hs.h hc.1 S rfl) rfl hd.h (hg.h _ rfl) fun _ S' => hr.h hc.2 S' H K⟩
instance Run.skip [hg : Gd ops E g false] [hd : LtB d n] [hr : Run P ops n k l ((d, undef) :: E) L l' E' L' C] : Run P ops n (k + 1) (⟨some d, op, ty, pos, af, g⟩ :: l) E L l' E' L' C :=
  ⟨fun hc _ _ _ S H K => r_skip S rfl hd.h (hg.h _ rfl) fun _ S' => hr.h hc S' H K⟩
instance Run.act [hg : Gd ops E g true] [hs : Eff P L E op L1] [hr : Run P ops n k l E L1 l' E' L' C] : Run P ops n (k + 1) (⟨Option.none, op, ty, pos, af, g⟩ :: l) E L l' E' L' C :=
  ⟨fun hc _ _ _ S H K => by
    obtain ⟨w', hx, H'⟩ := hs.h S H (o := ⟨Option.none, op, ty, pos, af, g⟩) rfl
    exact r_act S hx rfl (hg.h _ rfl) (hr.h hc S H' K)⟩
variable (f : FuncId) (xs : List Operand) (ts : Array TypeId) (vs : List Value)
instance Run.call [hg : Gd ops E g true] [ha : Evs E xs vs] [hs : Cal P L f vs v L1 D] [hd : LtB d n] [hr : Run P ops n k l ((d, v) :: E) L1 l' E' L' C] :
    Run P ops n (k + 1) (⟨some d, .call { callee := .value (.func f), args := xs.toArray, argTypes := ts }, ty, pos, af, g⟩ :: l) E L l' E' L' (D ∧ C) :=
  ⟨fun hc _ _ w S H K => r_call (args := vs.toArray) S rfl (by simpa using ha.h) hs.e (hs.h hc.1 w H) rfl hd.h (hg.h _ rfl) fun u a' w' hu S' => hr.h hc.2 (by rw [← hu.1]; exact S') hu.2 K⟩
end
/-! ### functions that the model has of its own -/
theorem run_extern {P : Program} {f : FuncId} {fn : Func} {e : Array Value → Sem Value} (hf : P.funcs[f]? = some fn) (hn : (fn.name == "runtime.NumGoroutine") = false) (hb : fn.body.isNone = true) (h1 : Extern.findNext fn = none) (h2 : Extern.find fn = some e) (args : Array Value) (w : World) :
    (callFunc f args).run P w = (do pure (Next.value (← e args))).run P w := by
  unfold callFunc
  simp only [Sem.run_bind]
  have hp : Sem.run P program w = .ok P w := rfl
  rw [hp]
  simp only [Result.andThen_ok]
  rw [hf]
  simp only [hn, hb, Bool.false_eq_true, if_false, if_true, Sem.run_bind]
  have hm : Sem.run P (mark (Mark.extern f)) w = .ok () w := rfl
  rw [hm]
  simp only [Result.andThen_ok]
  rw [h1]
  simp only [h2, Sem.run_bind]
/-- what it is -/
class Xf (P : Program) (f : FuncId) (e : outParam (Array Value → Sem Value)) : Prop where
  h : ∀ (args : Array Value) (w : World), (callFunc f args).run P w = (do pure (Next.value (← e args))).run P w
/-- what it does -/
class Xd (P : Program) (L : List Res) (e : Array Value → Sem Value) (args : List Value) (v : outParam Value) (L' : outParam (List Res)) : Prop where
  h : ∀ w, Sat w L → ∃ w', (e args.toArray).run P w = .ok v w' ∧ Sat w' L'
section
variable {P : Program} {w : World} {b j : Nat} {m x : Int}
theorem run_add64 (h : w.cell? ⟨b, j, none⟩ = some (.int .i64 m)) (hz : w.frozen? ⟨b, j, none⟩ = false) :
    (Extern.Atomic.update (Op.intArith .add) .i64 true #[.pointer (some ⟨b, j, none⟩), .int .i64 x]).run P w = .ok (.int .i64 (IntKind.i64.wrap (m + x))) (w.setCell ⟨b, j, none⟩ (.int .i64 (IntKind.i64.wrap (m + x)))) := by
  have e : Extern.Atomic.update (Op.intArith .add) .i64 true #[.pointer (some ⟨b, j, none⟩), .int .i64 x] = (do let a ← asAddr (.pointer (some ⟨b, j, none⟩)); let old ← Extern.Atomic.read (.int .i64) a; let new ← Op.intArith .add .i64 (← asInt old) (← asInt (.int .i64 x)); store a new .atomic; pure (if true then new else old)) := rfl
  rw [e]
  have ai : ∀ (z : Int) (w : World), Sem.run P (asInt (.int .i64 z)) w = .ok z w := fun z w => rfl
  simp only [Sem.run_bind, ai, Result.andThen_ok]
  simp [Extern.Atomic.read, asAddr, load, store, Sem.run, h, hz, Op.intArith, ai]
theorem run_swap (h : w.cell? ⟨b, j, none⟩ = some (.int .u32 m)) (hz : w.frozen? ⟨b, j, none⟩ = false) :
    (Extern.Atomic.swapT (.int .u32) #[.pointer (some ⟨b, j, none⟩), .int .u32 x]).run P w = .ok (.int .u32 m) (w.setCell ⟨b, j, none⟩ (.int .u32 x)) := by
  have e : Extern.Atomic.swapT (.int .u32) #[.pointer (some ⟨b, j, none⟩), .int .u32 x] = (do let a ← asAddr (.pointer (some ⟨b, j, none⟩)); let old ← Extern.Atomic.read (.int .u32) a; store a (.int .u32 x) .atomic; pure old) := rfl
  rw [e]
  simp [Extern.Atomic.read, asAddr, load, store, Sem.run, h, hz]
theorem run_loadA (h : w.cell? ⟨b, j, none⟩ = some (.int .u32 m)) : (Extern.Atomic.loadT (.int .u32) #[.pointer (some ⟨b, j, none⟩)]).run P w = .ok (.int .u32 m) w := by
  have e : Extern.Atomic.loadT (.int .u32) #[.pointer (some ⟨b, j, none⟩)] = (do let a ← asAddr (.pointer (some ⟨b, j, none⟩)); Extern.Atomic.read (.int .u32) a) := rfl
  rw [e]
  simp [Extern.Atomic.read, asAddr, load, Sem.run, h]
theorem run_storeA (h : w.cell? ⟨b, j, none⟩ = some (.int .u32 m)) (hz : w.frozen? ⟨b, j, none⟩ = false) :
    (Extern.Atomic.storeT #[.pointer (some ⟨b, j, none⟩), .int .u32 x]).run P w = .ok (.tuple #[]) (w.setCell ⟨b, j, none⟩ (.int .u32 x)) := by
  have e : Extern.Atomic.storeT #[.pointer (some ⟨b, j, none⟩), .int .u32 x] = (do store (← asAddr (.pointer (some ⟨b, j, none⟩))) (.int .u32 x) .atomic; pure Extern.Atomic.none_) := rfl
  rw [e]
  simp [asAddr, store, Sem.run, h, hz, Extern.Atomic.none_]
end
theorem Sat.put1 {w : World} {L L' : List Res} {b j i : Nat} {c c' : List Value} {ty : TypeId} {v : Value} (H : Sat w L) (hf : L[i]? = some (blk b (.cells c.toArray ty))) (hp : j + 1 ≤ c.length ∧ putAt c.toArray j [v] = c'.toArray) (hs : i < L.length ∧ L.set i (blk b (.cells c'.toArray ty)) = L') :
    w.frozen? ⟨b, j, none⟩ = false ∧ Sat (w.setCell ⟨b, j, none⟩ v) L' := by
  have h := H.fetch hf
  refine ⟨h.thawed j, ?_⟩
  have h' := (h.setCell (i := j) v).back hs.1
  have e : (c.toArray.setIfInBounds j v) = c'.toArray := hp.2
  rw [e] at h'
  rw [← hs.2]; exact h'
section
variable {P : Program} {L L' : List Res} (b j i : Nat) (c c' : List Value) (ty : TypeId) (m x : Int)
instance Xd.add [hf : FdR L b (blk b (.cells c.toArray ty)) i] [hv : At c j (.int .i64 m)] [hp : Pu c j [.int .i64 (IntKind.i64.wrap (m + x))] c'] [hs : St L i (blk b (.cells c'.toArray ty)) L'] :
    Xd P L (Extern.Atomic.update (Op.intArith .add) .i64 true) [.pointer (some ⟨b, j, none⟩), .int .i64 x] (.int .i64 (IntKind.i64.wrap (m + x))) L' := ⟨fun w H => by
  have hq := H.put1 hf.h hp.h hs.h
  exact ⟨_, run_add64 (by have := (H.cellOf hf.h).1 (j := j); rw [this]; simpa using hv.h) hq.1, hq.2⟩⟩
instance Xd.swap [hf : FdR L b (blk b (.cells c.toArray ty)) i] [hv : At c j (.int .u32 m)] [hp : Pu c j [.int .u32 x] c'] [hs : St L i (blk b (.cells c'.toArray ty)) L'] :
    Xd P L (Extern.Atomic.swapT (.int .u32)) [.pointer (some ⟨b, j, none⟩), .int .u32 x] (.int .u32 m) L' := ⟨fun w H => by
  have hq := H.put1 hf.h hp.h hs.h
  exact ⟨_, run_swap (by have := (H.cellOf hf.h).1 (j := j); rw [this]; simpa using hv.h) hq.1, hq.2⟩⟩
instance Xd.store [hf : FdR L b (blk b (.cells c.toArray ty)) i] [hv : At c j (.int .u32 m)] [hp : Pu c j [.int .u32 x] c'] [hs : St L i (blk b (.cells c'.toArray ty)) L'] :
    Xd P L Extern.Atomic.storeT [.pointer (some ⟨b, j, none⟩), .int .u32 x] (.tuple #[]) L' := ⟨fun w H => by
  have hq := H.put1 hf.h hp.h hs.h
  exact ⟨_, run_storeA (by have := (H.cellOf hf.h).1 (j := j); rw [this]; simpa using hv.h) hq.1, hq.2⟩⟩
instance Xd.load [hf : FdR L b (blk b (.cells c.toArray ty)) i] [hv : At c j (.int .u32 m)] : Xd P L (Extern.Atomic.loadT (.int .u32)) [.pointer (some ⟨b, j, none⟩)] (.int .u32 m) L :=
  ⟨fun w H => ⟨w, run_loadA (by have := (H.cellOf hf.h).1 (j := j); rw [this]; simpa using hv.h), H⟩⟩
end
section
variable {P : Program} {ops : List Oper} {L L1 L' : List Res} {n : Nat} {E : Env} (k : Nat) (l l' : List Oper) (E' : Env) (C : Prop) (d : Nat) (v : Value) (ty : TypeId) (pos : String) (af : Array Edge) (g : Option (Nat × Bool)) (f : FuncId) (xs : List Operand) (ts : Array TypeId) (vs : List Value) (e : Array Value → Sem Value)
instance Run.ext [hg : Gd ops E g true] [ha : Evs E xs vs] [hx : Xf P f e] [hs : Xd P L e vs v L1] [hd : LtB d n] [hr : Run P ops n k l ((d, v) :: E) L1 l' E' L' C] :
    Run P ops n (k + 1) (⟨some d, .call { callee := .value (.func f), args := xs.toArray, argTypes := ts }, ty, pos, af, g⟩ :: l) E L l' E' L' C := ⟨fun hc _ _ w S H K => by
  obtain ⟨w', hw, H'⟩ := hs.h w H
  refine r_val (v := v) (w' := w') S ?_ rfl hd.h (hg.h _ rfl) fun a' S' => hr.h hc S' H' K
  rw [run_callF (args := vs.toArray) S rfl (by simpa using ha.h) w, hx.h]
  simp only [Sem.run_bind, hw, Result.andThen_ok, Sem.run_pure]⟩
end
section
variable {P : Program} {ops : List Oper} {L L' : List Res} {n : Nat} {E E' : Env} {C : Prop} {Q : Exit → Act → World → Prop} {a : Act} {w : World}
/-- so many operations of a list -/
theorem rn (k : Nat) {l l' : List Oper} (S : Slots a n E) (H : Sat w L) [hr : Run P ops n k l E L l' E' L' C] (hc : C) (K : ∀ a w, Slots a n E' → Sat w L' → wpList P ops.toArray Q l' a w) : wpList P ops.toArray Q l a w := hr.h hc S H K
/-- a region, and what follows -/
theorem sr (k : Nat) {id : Nat} {y : Code} (S : Slots a n E) (H : Sat w L) [hr : Run P ops n k ops E L [] E' L' C] (hc : C) (K : ∀ a w, Slots a n E' → Sat w L' → y.wp P Q a w) : (Code.seq (.region id ops.toArray false) y).wp P Q a w :=
  r_seq (r_region (hr.h hc S H fun a w S H => r_nil (x_then (K a w S H))))
/-- .. at the end of a sequence -/
theorem er (k : Nat) {id : Nat} (S : Slots a n E) (H : Sat w L) [hr : Run P ops n k ops E L [] E' L' C] (hc : C) (K : ∀ a w, Slots a n E' → Sat w L' → Q .normal a w) : (Code.region id ops.toArray false).wp P Q a w :=
  r_region (hr.h hc S H fun a w S H => r_nil (K a w S H))
/-- the rest of a region -/
theorem rs (k : Nat) {y : Act → World → Prop} {l : List Oper} (S : Slots a n E) (H : Sat w L) [hr : Run P ops n k l E L [] E' L' C] (hc : C) (K : ∀ a w, Slots a n E' → Sat w L' → y a w) : wpList P ops.toArray (Exit.then y Q) l a w := hr.h hc S H fun a w S H => r_nil (x_then (K a w S H))
/-- a region begins, something follows behind it -/
theorem sb {id : Nat} {y : Code} (h : wpList P ops.toArray (Exit.then (y.wp P Q) Q) ops a w) : (Code.seq (.region id ops.toArray false) y).wp P Q a w := r_seq (r_region h)
theorem sn {y : Act → World → Prop} {ops : Array Oper} (h : y a w) : wpList P ops (Exit.then y Q) [] a w := h
end

/-! ### regions in open order that only read -/
class RunQ (P : Program) (ops : List Oper) (L : List Res) (n k : Nat) (l : List Oper) (E : Env) (l' : outParam (List Oper)) (E' : outParam Env) (C : outParam Prop) : Prop where
  h : C → ∀ {Q : Act → Prop} {a : Act}, Slots a n E → (∀ a', Slots a' n E' → wpQuiet P ops.toArray (fun w => Sat w L) Q l' a') → wpQuiet P ops.toArray (fun w => Sat w L) Q l a
section
variable {P : Program} {ops : List Oper} {L : List Res} {n : Nat} {E : Env}
instance RunQ.zero (l : List Oper) : RunQ P ops L n 0 l E l E ((0 : Int) ≤ 0) := ⟨fun _ _ _ S K => K _ S⟩
variable (k : Nat) (l l' : List Oper) (E' : Env) (C D : Prop) (d : Nat) (v : Value) (op : Op) (ty : TypeId) (pos : String) (af : Array Edge) (g : Option (Nat × Bool))
instance (priority := 1100) RunQ.pure [hg : Gd ops E g true] [hs : Stp P L E op v] [hd : LtB d n] [hr : RunQ P ops L n k l ((d, v) :: E) l' E' C] : RunQ P ops L n (k + 1) (⟨some d, op, ty, pos, af, g⟩ :: l) E l' E' C :=
  ⟨fun hc _ _ S K => q_y S (hs.h S rfl) rfl hd.h (hg.h _ rfl) fun _ S' => hr.h hc S' K⟩
instance RunQ.cond [hg : Gd ops E g true] [hs : StpC P L E op v D] [hd : LtB d n] [hr : RunQ P ops L n k l ((d, v) :: E) l' E' C] : RunQ P ops L n (k + 1) (⟨some d, op, ty, pos, af, g⟩ :: l) E l' E' (D ∧ C) :=
  ⟨fun hc _ _ S K => q_y S (hs.h hc.1 S rfl) rfl hd.h (hg.h _ rfl) fun _ S' => hr.h hc.2 S' K⟩
instance RunQ.skip [hg : Gd ops E g false] [hd : LtB d n] [hr : RunQ P ops L n k l ((d, undef) :: E) l' E' C] : RunQ P ops L n (k + 1) (⟨some d, op, ty, pos, af, g⟩ :: l) E l' E' C :=
  ⟨fun hc _ _ S K => q_skip S rfl hd.h (hg.h _ rfl) fun _ S' => hr.h hc S' K⟩
variable (f : FuncId) (xs : List Operand) (ts : Array TypeId) (vs : List Value)
instance RunQ.call [hg : Gd ops E g true] [ha : Evs E xs vs] [hs : Cal P L f vs v L D] [hd : LtB d n] [hr : RunQ P ops L n k l ((d, v) :: E) l' E' C] :
    RunQ P ops L n (k + 1) (⟨some d, .call { callee := .value (.func f), args := xs.toArray, argTypes := ts }, ty, pos, af, g⟩ :: l) E l' E' (D ∧ C) :=
  ⟨fun hc _ _ S K => q_call (args := vs.toArray) S rfl (by simpa using ha.h) hs.e (fun w H => hs.h hc.1 w H) rfl hd.h (hg.h _ rfl) fun _ S' => hr.h hc.2 S' K⟩
variable {Q : Exit → Act → World → Prop} {a : Act} {w : World}
variable {k l l' E' C D}
/-- a quiet region begins: what it comes to is told at its end -/
theorem qb {id : Nat} {y : Code} (H : Sat w L) (hm : P.follows .mixedOrders = true) (hB : Region.lexB .any ops.toArray = true) (h : wpQuiet P ops.toArray (fun w => Sat w L) (fun a' => Slots a' n E') ops a) (K : ∀ a w, Slots a n E' → Sat w L → y.wp P Q a w) : (Code.seq (.region id ops.toArray true) y).wp P Q a w :=
  r_seq (r_quiet (l := ops) H hm hB h fun a w S H => x_then (K a w S H))
/-- ways that meet -/
theorem via {c y : Code} (h : c.wp P (Exit.then (fun a w => Slots a n E' ∧ Sat w L) (fun _ _ _ => False)) a w) (K : ∀ a w, Slots a n E' → Sat w L → y.wp P Q a w) : (Code.seq c y).wp P Q a w :=
  r_mid _ h fun a w hm => K a w hm.1 hm.2
theorem viaA {c : Code} (h : c.wp P (Exit.then (fun a w => Slots a n E' ∧ Sat w L) (fun _ _ _ => False)) a w) (K : ∀ a w, Slots a n E' → Sat w L → Q .normal a w) : c.wp P Q a w :=
  wp_via h fun a w hm => K a w hm.1 hm.2
theorem qn (k : Nat) {Q : Act → Prop} {l l' : List Oper} (S : Slots a n E) [hr : RunQ P ops L n k l E l' E' C] (hc : C) (K : ∀ a, Slots a n E' → wpQuiet P ops.toArray (fun w => Sat w L) Q l' a) : wpQuiet P ops.toArray (fun w => Sat w L) Q l a := hr.h hc S K
theorem qr (k : Nat) {id : Nat} {y : Code} (S : Slots a n E) (H : Sat w L) [hr : RunQ P ops L n k ops E [] E' C] (hc : C) (K : ∀ a w, Slots a n E' → Sat w L → y.wp P Q a w) (hm : P.follows .mixedOrders = true := by rfl) (hB : Region.lexB .any ops.toArray = true := by kernel_rfl) : (Code.seq (.region id ops.toArray true) y).wp P Q a w :=
  r_seq (r_quiet (l := ops) H hm hB (hr.h hc S fun a' S' => q_nil S') fun a w S H => x_then (K a w S H))
end

/-! ### tests of which the second is made only behind the first -/
def keyOut (E : Env) (d : Nat) : Bool := E.all fun p => !Nat.beq p.1 d
def keysOut (E : Env) (ds : List Nat) : Bool := ds.all fun d => keyOut E d
theorem keyOut_lk {d d' : Nat} {v : Value} : ∀ {E : Env}, keyOut E d = true → lk E d' = some v → Nat.beq d d' = false
  | p :: r, h, hl => by
    simp only [keyOut, List.all_cons, Bool.and_eq_true, Bool.not_eq_true'] at h
    unfold lk at hl
    cases hb : Nat.beq p.1 d' with
    | true =>
      have e := Nat.eq_of_beq_eq_true hb
      cases hd : Nat.beq d d' with
      | false => rfl
      | true => have e' := Nat.eq_of_beq_eq_true hd; rw [e', ← e, Nat.beq_refl] at h; exact absurd h.1 (by decide)
    | false => rw [hb] at hl; exact keyOut_lk (E := r) h.2 hl
  | [], _, hl => by simp [lk] at hl
theorem lk_out {d d' : Nat} {u v : Value} {E : Env} (h : keyOut E d = true) (hl : lk E d' = some v) : lk ((d, u) :: E) d' = some v := by
  unfold lk; rw [keyOut_lk h hl]; exact hl
theorem Slots.hide {a : Act} {n d : Nat} {u : Value} {E : Env} (S : Slots a n ((d, u) :: E)) (h : keyOut E d = true) : Slots a n E := S.of fun _ _ hl => lk_out h hl
/-- so many operations under one guard -/
class SkB (n m : Nat) (l : List Oper) (g : outParam (Option (Nat × Bool))) (l' : outParam (List Oper)) (ds : outParam (List Nat)) : Prop where
  h : ∃ bl : List Oper, l = bl ++ l' ∧ bl.length = m + 1 ∧ bl.map (·.dst) = ds.map some ∧ (∀ o ∈ bl, o.guard = g) ∧ ∀ d ∈ ds, Nat.blt d n = true
instance SkB.one (n : Nat) (g : Option (Nat × Bool)) (l : List Oper) (d : Nat) (op : Op) (ty : TypeId) (pos : String) (af : Array Edge) [hd : LtB d n] : SkB n 0 (⟨some d, op, ty, pos, af, g⟩ :: l) g l [d] :=
  ⟨[⟨some d, op, ty, pos, af, g⟩], rfl, rfl, rfl, fun o ho => by rw [List.mem_singleton.1 ho], fun d' hd' => by rw [List.mem_singleton.1 hd']; exact hd.h⟩
instance SkB.succ (n : Nat) (g : Option (Nat × Bool)) (m : Nat) (l l' : List Oper) (ds : List Nat) (d : Nat) (op : Op) (ty : TypeId) (pos : String) (af : Array Edge) [hd : LtB d n] [h : SkB n m l g l' ds] : SkB n (m + 1) (⟨some d, op, ty, pos, af, g⟩ :: l) g l' (d :: ds) := ⟨by
  obtain ⟨bl, h1, h2, h3, h4, h5⟩ := h.h
  refine ⟨⟨some d, op, ty, pos, af, g⟩ :: bl, by rw [h1]; rfl, by simp [h2], by simp [h3], fun o ho => ?_, fun d' hd' => ?_⟩
  · rcases List.mem_cons.1 ho with rfl | ho
    · rfl
    · exact h4 o ho
  · rcases List.mem_cons.1 hd' with rfl | hd'
    · exact hd.h
    · exact h5 d' hd'⟩
section
variable {P : Program} {ops : List Oper} {n : Nat} {E : Env} {Q : Exit → Act → World → Prop}
theorem skips {j dg : Nat} {want : Bool} (hdg : (ops[j]?).bind (·.dst) = some dg) {l' : List Oper} {w : World} (hl : lk E dg = some (.bool (!want))) : ∀ (bl : List Oper) (ds : List Nat) (a : Act), bl.map (·.dst) = ds.map some → (∀ o ∈ bl, o.guard = some (j, want)) → (∀ d ∈ ds, Nat.blt d n = true) → keysOut E ds = true →
    Slots a n E → (∀ a, Slots a n E → wpList P ops.toArray Q l' a w) → wpList P ops.toArray Q (bl ++ l') a w
  | [], ds, a, _, _, _, _, S, K => K a S
  | o :: bl, [], a, h, _, _, _, _, _ => by simp at h
  | o :: bl, d :: ds, a, h, hg, hn, hk, S, K => by
    simp only [List.map_cons, List.cons.injEq] at h
    simp only [keysOut, List.all_cons, Bool.and_eq_true] at hk
    refine r_skip (d := d) S h.1 (hn d List.mem_cons_self) ?_ fun a S => skips hdg hl bl ds a h.2 (fun o ho => hg o (List.mem_cons_of_mem _ ho)) (fun d hd => hn d (List.mem_cons_of_mem _ hd)) hk.2 (S.hide hk.1) K
    have := gd_some (E := E) (b := !want) (want := want) hdg hl o (hg o List.mem_cons_self)
    rw [this]; cases want <;> rfl
/-- what was found under the guard is let go -/
theorem Slots.under {a : Act} {dg : Nat} {b want : Bool} : ∀ {ds : List Nat} {E1 : Env}, Slots a n E1 → E1.map (·.1) = ds.reverse ++ dg :: E.map (·.1) → E1.drop ds.length = (dg, .bool want) :: E → keysOut E ds = true → lk E dg = some (.bool b) → b = want → Slots a n E := by
  intro ds E1 S hk hd hout hl hb
  subst hb
  refine S.of fun d v h => ?_
  have key : ∀ (ds : List Nat) (E1 : Env), E1.map (·.1) = ds ++ dg :: E.map (·.1) → E1.drop ds.length = (dg, .bool b) :: E → (∀ d ∈ ds, keyOut E d = true) → lk E1 d = some v := by
    intro ds
    induction ds with
    | nil =>
      intro E1 _ hd _
      simp only [List.length_nil, List.drop_zero] at hd
      rw [hd]
      unfold lk
      cases hb : Nat.beq dg d with
      | false => exact h
      | true => have e := Nat.eq_of_beq_eq_true hb; subst e; rw [hl] at h; exact h
    | cons x ds ih =>
      intro E1 hk hd ho
      cases E1 with
      | nil => simp at hk
      | cons p E1 =>
        simp only [List.map_cons, List.cons_append, List.cons.injEq] at hk
        simp only [List.length_cons, List.drop_succ_cons] at hd
        have hx := ho x List.mem_cons_self
        unfold lk
        rw [hk.1, keyOut_lk hx h]
        exact ih E1 hk.2 hd fun d hd => ho d (List.mem_cons_of_mem _ hd)
  refine key ds.reverse E1 hk (by simpa using hd) fun d hd => ?_
  have := List.all_eq_true.1 hout d (List.mem_reverse.1 hd)
  exact this
theorem Slots.guardAt {dg : Nat} {b : Bool} {ds : List Nat} {E1 : Env} (hk : E1.map (·.1) = ds.reverse ++ dg :: E.map (·.1)) (hd : E1.drop ds.length = (dg, .bool b) :: E) (hout : keysOut E ds = true) (hl : lk E dg = some (.bool b)) : lk E1 dg = some (.bool b) := by
  have key : ∀ (ds : List Nat) (E1 : Env), E1.map (·.1) = ds ++ dg :: E.map (·.1) → E1.drop ds.length = (dg, .bool b) :: E → (∀ d ∈ ds, keyOut E d = true) → lk E1 dg = some (.bool b) := by
    intro ds
    induction ds with
    | nil =>
      intro E1 _ hd _
      simp only [List.length_nil, List.drop_zero] at hd
      rw [hd]
      unfold lk
      rw [Nat.beq_refl]
    | cons x ds ih =>
      intro E1 hk hd ho
      cases E1 with
      | nil => simp at hk
      | cons p E1 =>
        simp only [List.map_cons, List.cons_append, List.cons.injEq] at hk
        simp only [List.length_cons, List.drop_succ_cons] at hd
        unfold lk
        rw [hk.1, keyOut_lk (ho x List.mem_cons_self) hl]
        exact ih E1 hk.2 hd fun d hd => ho d (List.mem_cons_of_mem _ hd)
  refine key ds.reverse E1 hk (by simpa using hd) fun d hd => ?_
  exact List.all_eq_true.1 hout d (List.mem_reverse.1 hd)
variable {a : Act} {w : World} {L : List Res} {C : Prop} {b b2 : Bool} {j dg dp : Nat} {l l' : List Oper} {ds : List Nat} {E1 : Env} {y : Operand} {ty : TypeId} {pos : String} {af : Array Edge}
theorem scA (m : Nat) (S : Slots a n E) (H : Sat w L) [hs : SkB n m l (some (j, true)) (⟨some dp, .pick (.tmp dg) y (.const (.bool false)), ty, pos, af, none⟩ :: l') ds] [hdg : Dst ops j dg] [hl : Lk E dg (.bool b)]
    [hr : Run P ops n (m + 1) l ((dg, .bool true) :: E) L (⟨some dp, .pick (.tmp dg) y (.const (.bool false)), ty, pos, af, none⟩ :: l') E1 L C] [hy : Ev E1 y (.bool b2)] [hp : LtB dp n] (hc : b = true → C)
    (K : ∀ a w, Slots a n ((dp, .bool (b && b2)) :: E) → Sat w L → wpList P ops.toArray Q l' a w)
    (ho : keysOut E ds = true := by rfl) (hk : E1.map (·.1) = ds.reverse ++ dg :: E.map (·.1) := by rfl) (hd : E1.drop ds.length = (dg, .bool true) :: E := by rfl) : wpList P ops.toArray Q l a w := by
  have hl' := hl.h
  cases b with
  | true =>
    have S1 : Slots a n ((dg, .bool true) :: E) := S.retell dg hl' rfl
    refine hr.h (hc rfl) S1 H fun a w S1 H => ?_
    have SE : Slots a n E := S1.under hk hd ho hl' rfl
    have hyv := S1.eval hy.h
    refine wpList_wanted (o := ⟨some dp, .pick (.tmp dg) y (.const (.bool false)), ty, pos, af, none⟩) (by simp [Region.wanted]) ?_
    have hx : (execOp a.eval ⟨some dp, .pick (.tmp dg) y (.const (.bool false)), ty, pos, af, none⟩).run P w = .ok (.value (.bool b2)) w := by
      have e := S1.eval (x := .tmp dg) (v := .bool true) (by show lk E1 dg = _; exact (Slots.guardAt hk hd ho hl'))
      simp only [execOp, e, hyv]; rfl
    unfold Oper.wp
    rw [hx]
    simp only [Oper.upon]
    exact K _ _ (by simpa using SE.put hp.h (.bool b2)) H
  | false =>
    obtain ⟨bl, h1, h2, h3, h4, h5⟩ := hs.h
    rw [h1]
    refine skips (want := true) hdg.h hl' bl ds a h3 h4 h5 ho S fun a S => ?_
    exact r_y S H (y_pickF S rfl hl' rfl) rfl hp.h (by simp [Wt]) fun a S => K a w S H
theorem scO (m : Nat) (S : Slots a n E) (H : Sat w L) [hs : SkB n m l (some (j, false)) (⟨some dp, .pick (.tmp dg) (.const (.bool true)) y, ty, pos, af, none⟩ :: l') ds] [hdg : Dst ops j dg] [hl : Lk E dg (.bool b)]
    [hr : Run P ops n (m + 1) l ((dg, .bool false) :: E) L (⟨some dp, .pick (.tmp dg) (.const (.bool true)) y, ty, pos, af, none⟩ :: l') E1 L C] [hy : Ev E1 y (.bool b2)] [hp : LtB dp n] (hc : b = false → C)
    (K : ∀ a w, Slots a n ((dp, .bool (b || b2)) :: E) → Sat w L → wpList P ops.toArray Q l' a w)
    (ho : keysOut E ds = true := by rfl) (hk : E1.map (·.1) = ds.reverse ++ dg :: E.map (·.1) := by rfl) (hd : E1.drop ds.length = (dg, .bool false) :: E := by rfl) : wpList P ops.toArray Q l a w := by
  have hl' := hl.h
  cases b with
  | false =>
    have S1 : Slots a n ((dg, .bool false) :: E) := S.retell dg hl' rfl
    refine hr.h (hc rfl) S1 H fun a w S1 H => ?_
    have SE : Slots a n E := S1.under hk hd ho hl' rfl
    have hyv := S1.eval hy.h
    refine wpList_wanted (o := ⟨some dp, .pick (.tmp dg) (.const (.bool true)) y, ty, pos, af, none⟩) (by simp [Region.wanted]) ?_
    have hx : (execOp a.eval ⟨some dp, .pick (.tmp dg) (.const (.bool true)) y, ty, pos, af, none⟩).run P w = .ok (.value (.bool b2)) w := by
      have e := S1.eval (x := .tmp dg) (v := .bool false) (by show lk E1 dg = _; exact (Slots.guardAt hk hd ho hl'))
      simp only [execOp, e, hyv]; rfl
    unfold Oper.wp
    rw [hx]
    simp only [Oper.upon]
    exact K _ _ (by simpa using SE.put hp.h (.bool b2)) H
  | true =>
    obtain ⟨bl, h1, h2, h3, h4, h5⟩ := hs.h
    rw [h1]
    refine skips (want := false) hdg.h hl' bl ds a h3 h4 h5 ho S fun a S => ?_
    exact r_y S H (y_pickT S rfl hl' rfl) rfl hp.h (by simp [Wt]) fun a S => K a w S H
end

/-! ### regions in open order that act -/
section
variable {P : Program} {ops : List Oper} {n : Nat} {E : Env} {Q : Exit → Act → World → Prop} {a : Act} {w : World} {L LS : List Res} {ls : List Bool} {fuel : Nat}
theorem ha (is : List Nat) (k : Nat) {id : Nat} (H : Sat w L) [hp : Pk L is k LS] (h : ∀ w, Sat w L → Sat w LS → wpAnyH P .any ops.toArray Q (fun w => Sat w LS) ops.length (List.replicate ops.length false).toArray a w)
    (ok : pickOk is k = true := by rfl) (hm : P.follows .mixedOrders = true := by rfl) : (Code.region id ops.toArray true).wp P Q a w :=
  h_start (l := ops) LS H hm (by simp) fun w H => h w H (pk is k H ok)
theorem ha0 {id : Nat} (H : Sat w L) (h : ∀ w, Sat w L → Sat w [] → wpAnyH P .any ops.toArray Q (fun w => Sat w []) ops.length (List.replicate ops.length false).toArray a w) (hm : P.follows .mixedOrders = true := by rfl) : (Code.region id ops.toArray true).wp P Q a w :=
  h_start (l := ops) [] H hm (by simp) fun w H => h w H (Sat.nil w)
theorem tk (i : Nat) {d : Nat} {v : Value} {op : Op} {ty : TypeId} {pos : String} {af : Array Edge} {g : Option (Nat × Bool)} (S : Slots a n E) (HS : Sat w LS) [ho : At ops i ⟨some d, op, ty, pos, af, g⟩] [hg : Gd ops E g true] [hy : Stp P LS E op v] [hd : LtB d n]
    (K : ∀ a, Slots a n ((d, v) :: E) → wpAnyH P .any ops.toArray Q (fun w => Sat w LS) fuel (ls.set i true).toArray a w)
    (hs : Region.noSelect ops.toArray = true := by kernel_rfl) (hf : Region.free .any ops.toArray ls.toArray i = true := by kernel_rfl) (hr : (Region.ready .any ops.toArray ls.toArray).contains i = true := by kernel_rfl)
    (hQ : ∀ c a w, Q (.panic c) (a.put (some d) v) w → Q (.panic c) a w := by exact fun _ _ _ h => h) : wpAnyH P .any ops.toArray Q (fun w => Sat w LS) (fuel + 1) ls.toArray a w :=
  h_y i S HS (by simpa using ho.h) (hy.h S rfl) rfl hd.h (hg.h _ rfl) hs hf hr rfl hQ K
theorem tkC (i : Nat) {d : Nat} {v : Value} {op : Op} {ty : TypeId} {pos : String} {af : Array Edge} {g : Option (Nat × Bool)} {C : Prop} (S : Slots a n E) (HS : Sat w LS) [ho : At ops i ⟨some d, op, ty, pos, af, g⟩] [hg : Gd ops E g true] [hy : StpC P LS E op v C] [hd : LtB d n] (hc : C)
    (K : ∀ a, Slots a n ((d, v) :: E) → wpAnyH P .any ops.toArray Q (fun w => Sat w LS) fuel (ls.set i true).toArray a w)
    (hs : Region.noSelect ops.toArray = true := by kernel_rfl) (hf : Region.free .any ops.toArray ls.toArray i = true := by kernel_rfl) (hr : (Region.ready .any ops.toArray ls.toArray).contains i = true := by kernel_rfl)
    (hQ : ∀ c a w, Q (.panic c) (a.put (some d) v) w → Q (.panic c) a w := by exact fun _ _ _ h => h) : wpAnyH P .any ops.toArray Q (fun w => Sat w LS) (fuel + 1) ls.toArray a w :=
  h_y i S HS (by simpa using ho.h) (hy.h hc S rfl) rfl hd.h (hg.h _ rfl) hs hf hr rfl hQ K
theorem tkS (i : Nat) {d : Nat} {op : Op} {ty : TypeId} {pos : String} {af : Array Edge} {g : Option (Nat × Bool)} (S : Slots a n E) (HS : Sat w LS) [ho : At ops i ⟨some d, op, ty, pos, af, g⟩] [hg : Gd ops E g false] [hd : LtB d n]
    (K : ∀ a, Slots a n ((d, undef) :: E) → wpAnyH P .any ops.toArray Q (fun w => Sat w LS) fuel (ls.set i true).toArray a w)
    (hs : Region.noSelect ops.toArray = true := by kernel_rfl) (hf : Region.free .any ops.toArray ls.toArray i = true := by kernel_rfl) (hr : (Region.ready .any ops.toArray ls.toArray).contains i = true := by kernel_rfl)
    (hQ : ∀ c a w, Q (.panic c) (a.put (some d) undef) w → Q (.panic c) a w := by exact fun _ _ _ h => h) : wpAnyH P .any ops.toArray Q (fun w => Sat w LS) (fuel + 1) ls.toArray a w :=
  h_skip i S HS (by simpa using ho.h) rfl hd.h (hg.h _ rfl) hs hf hr rfl hQ K
theorem tkY (i : Nat) {d : Nat} {v : Value} {o : Oper} (S : Slots a n E) (HS : Sat w LS) (ho : ops.toArray[i]? = some o) (hy : Yl P LS o a v) (hd : o.dst = some d) (hn : Nat.blt d n = true) (hw : Wt ops.toArray E o = some true)
    (K : ∀ a, Slots a n ((d, v) :: E) → wpAnyH P .any ops.toArray Q (fun w => Sat w LS) fuel (ls.set i true).toArray a w)
    (hs : Region.noSelect ops.toArray = true := by kernel_rfl) (hf : Region.free .any ops.toArray ls.toArray i = true := by kernel_rfl) (hr : (Region.ready .any ops.toArray ls.toArray).contains i = true := by kernel_rfl)
    (hQ : ∀ c a w, Q (.panic c) (a.put (some d) v) w → Q (.panic c) a w := by exact fun _ _ _ h => h) : wpAnyH P .any ops.toArray Q (fun w => Sat w LS) (fuel + 1) ls.toArray a w :=
  h_y i S HS ho hy hd hn hw hs hf hr rfl hQ K
theorem hk {X : Prop} (HS : Sat w LS) (K : Sat w LS → X) : Sat w LS ∧ X := ⟨HS, K HS⟩
theorem hz (h : Q .normal a w) (hr : Region.ready .any ops.toArray ls.toArray = [] := by kernel_rfl) : wpAnyH P .any ops.toArray Q (fun w => Sat w LS) fuel ls.toArray a w := h_done hr h
/-- one that acts, where no other may come -/
theorem h1 (i : Nat) {o : Oper} [ho : At ops i o] (h : wpList P ops.toArray (Exit.then (fun a' w' => Sat w' LS ∧ wpAnyH P .any ops.toArray Q (fun w => Sat w LS) fuel (ls.set i true).toArray a' w') Q) [o] a w)
    (hr : Region.ready .any ops.toArray ls.toArray = [i] := by kernel_rfl) : wpAnyH P .any ops.toArray Q (fun w => Sat w LS) (fuel + 1) ls.toArray a w :=
  h_all hr ⟨h_op rfl (by simpa using ho.h) h, trivial⟩
theorem h2 (i j : Nat) {o p : Oper} [ho : At ops i o] [hp : At ops j p] (h : wpList P ops.toArray (Exit.then (fun a' w' => Sat w' LS ∧ wpAnyH P .any ops.toArray Q (fun w => Sat w LS) fuel (ls.set i true).toArray a' w') Q) [o] a w)
    (h' : wpList P ops.toArray (Exit.then (fun a' w' => Sat w' LS ∧ wpAnyH P .any ops.toArray Q (fun w => Sat w LS) fuel (ls.set j true).toArray a' w') Q) [p] a w)
    (hr : Region.ready .any ops.toArray ls.toArray = [i, j] := by kernel_rfl) : wpAnyH P .any ops.toArray Q (fun w => Sat w LS) (fuel + 1) ls.toArray a w :=
  h_all hr ⟨h_op rfl (by simpa using ho.h) h, h_op rfl (by simpa using hp.h) h', trivial⟩
theorem h3 (i j k : Nat) {o p q : Oper} [ho : At ops i o] [hp : At ops j p] [hq : At ops k q] (h : wpList P ops.toArray (Exit.then (fun a' w' => Sat w' LS ∧ wpAnyH P .any ops.toArray Q (fun w => Sat w LS) fuel (ls.set i true).toArray a' w') Q) [o] a w)
    (h' : wpList P ops.toArray (Exit.then (fun a' w' => Sat w' LS ∧ wpAnyH P .any ops.toArray Q (fun w => Sat w LS) fuel (ls.set j true).toArray a' w') Q) [p] a w)
    (h'' : wpList P ops.toArray (Exit.then (fun a' w' => Sat w' LS ∧ wpAnyH P .any ops.toArray Q (fun w => Sat w LS) fuel (ls.set k true).toArray a' w') Q) [q] a w)
    (hr : Region.ready .any ops.toArray ls.toArray = [i, j, k] := by kernel_rfl) : wpAnyH P .any ops.toArray Q (fun w => Sat w LS) (fuel + 1) ls.toArray a w :=
  h_all hr ⟨h_op rfl (by simpa using ho.h) h, h_op rfl (by simpa using hp.h) h', h_op rfl (by simpa using hq.h) h'', trivial⟩
theorem h4 (i j k m : Nat) {o p q r : Oper} [ho : At ops i o] [hp : At ops j p] [hq : At ops k q] [hr' : At ops m r] (h : wpList P ops.toArray (Exit.then (fun a' w' => Sat w' LS ∧ wpAnyH P .any ops.toArray Q (fun w => Sat w LS) fuel (ls.set i true).toArray a' w') Q) [o] a w)
    (h' : wpList P ops.toArray (Exit.then (fun a' w' => Sat w' LS ∧ wpAnyH P .any ops.toArray Q (fun w => Sat w LS) fuel (ls.set j true).toArray a' w') Q) [p] a w)
    (h'' : wpList P ops.toArray (Exit.then (fun a' w' => Sat w' LS ∧ wpAnyH P .any ops.toArray Q (fun w => Sat w LS) fuel (ls.set k true).toArray a' w') Q) [q] a w)
    (h3 : wpList P ops.toArray (Exit.then (fun a' w' => Sat w' LS ∧ wpAnyH P .any ops.toArray Q (fun w => Sat w LS) fuel (ls.set m true).toArray a' w') Q) [r] a w)
    (hr : Region.ready .any ops.toArray ls.toArray = [i, j, k, m] := by kernel_rfl) : wpAnyH P .any ops.toArray Q (fun w => Sat w LS) (fuel + 1) ls.toArray a w :=
  h_all hr ⟨h_op rfl (by simpa using ho.h) h, h_op rfl (by simpa using hp.h) h', h_op rfl (by simpa using hq.h) h'', h_op rfl (by simpa using hr'.h) h3, trivial⟩
/-- what several orders come to, once -/
theorem hmemo (ls' : List Bool) (fuel' : Nat) (J : Act → World → Prop) (K : ∀ a w, J a w → wpAnyH P .any ops.toArray Q (fun w => Sat w LS) fuel' ls'.toArray a w)
    (h : (∀ a w, J a w → wpAnyH P .any ops.toArray Q (fun w => Sat w LS) fuel' ls'.toArray a w) → wpAnyH P .any ops.toArray Q (fun w => Sat w LS) fuel ls.toArray a w) : wpAnyH P .any ops.toArray Q (fun w => Sat w LS) fuel ls.toArray a w := h K
end
/-! ### entering -/
section
variable {P : Program} {f : FuncId} {fn : Func} {c : Code} {n : Nat} {w : World} {R : Value → World → Prop}
theorem en0 (hf : P.funcs[f]? = some fn) (hb : fn.body = some c) (hn : fn.ntmps = n) (ha : Nat.ble 0 n = true) (K : ∀ a, Slots a n [(n, undef)] → c.wp P (bodyPost P fn fun e w' => ∃ v, e = .returned v ∧ R v w') a w) : Rt P f #[] w R := rt_enter hf hb hn ha K
theorem en1 {v0 : Value} (hf : P.funcs[f]? = some fn) (hb : fn.body = some c) (hn : fn.ntmps = n) (ha : Nat.ble 1 n = true) (K : ∀ a, Slots a n [(0, v0), (n, undef)] → c.wp P (bodyPost P fn fun e w' => ∃ v, e = .returned v ∧ R v w') a w) : Rt P f #[v0] w R := rt_enter hf hb hn ha K
theorem en2 {v0 v1 : Value} (hf : P.funcs[f]? = some fn) (hb : fn.body = some c) (hn : fn.ntmps = n) (ha : Nat.ble 2 n = true) (K : ∀ a, Slots a n [(0, v0), (1, v1), (n, undef)] → c.wp P (bodyPost P fn fun e w' => ∃ v, e = .returned v ∧ R v w') a w) : Rt P f #[v0, v1] w R := rt_enter hf hb hn ha K
theorem en3 {v0 v1 v2 : Value} (hf : P.funcs[f]? = some fn) (hb : fn.body = some c) (hn : fn.ntmps = n) (ha : Nat.ble 3 n = true) (K : ∀ a, Slots a n [(0, v0), (1, v1), (2, v2), (n, undef)] → c.wp P (bodyPost P fn fun e w' => ∃ v, e = .returned v ∧ R v w') a w) : Rt P f #[v0, v1, v2] w R := rt_enter hf hb hn ha K
theorem en4 {v0 v1 v2 v3 : Value} (hf : P.funcs[f]? = some fn) (hb : fn.body = some c) (hn : fn.ntmps = n) (ha : Nat.ble 4 n = true) (K : ∀ a, Slots a n [(0, v0), (1, v1), (2, v2), (3, v3), (n, undef)] → c.wp P (bodyPost P fn fun e w' => ∃ v, e = .returned v ∧ R v w') a w) : Rt P f #[v0, v1, v2, v3] w R := rt_enter hf hb hn ha K
theorem en7 {v0 v1 v2 v3 v4 v5 v6 : Value} (hf : P.funcs[f]? = some fn) (hb : fn.body = some c) (hn : fn.ntmps = n) (ha : Nat.ble 7 n = true) (K : ∀ a, Slots a n [(0, v0), (1, v1), (2, v2), (3, v3), (4, v4), (5, v5), (6, v6), (n, undef)] → c.wp P (bodyPost P fn fun e w' => ∃ v, e = .returned v ∧ R v w') a w) : Rt P f #[v0, v1, v2, v3, v4, v5, v6] w R := rt_enter hf hb hn ha K
end
end Go.Cg
