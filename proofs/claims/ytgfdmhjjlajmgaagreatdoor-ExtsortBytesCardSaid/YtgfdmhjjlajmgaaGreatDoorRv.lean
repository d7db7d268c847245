/- Rows of slices; what a slice may hold; rows cut to nothing. No condition. -/
import Derived.Test.YtgfdmhjjlajmgaaGreatDoorBt
namespace Go.Cg
set_option linter.unusedVariables false
set_option linter.unusedSimpArgs false
open Go.RowKit
open Dk (By)
abbrev Sl := Option Addr × Nat × Nat
def slv (s : Sl) : Value := .slice s.1 s.2.1 s.2.2
def sls (l : List Sl) : List Value := l.map slv
def sl0 : Sl := (none, 0, 0)
@[simp] theorem len_sls (l : List Sl) : (sls l).length = l.length := by simp [sls]
@[simp] theorem sls_nil : sls [] = [] := rfl
theorem one_sls (l : List Sl) : ∀ u ∈ sls l, u.oneCell' = true := by intro u hu; simp only [sls, List.mem_map] at hu; obtain ⟨x, _, rfl⟩ := hu; rfl
theorem sls_app (l l' : List Sl) : sls l ++ sls l' = sls (l ++ l') := by simp [sls]
theorem sls_take (l : List Sl) (k : Nat) : (sls l).take (k * 1) = sls (l.take k) := by simp [sls, List.map_take]
theorem sls_drop (l : List Sl) (k : Nat) : (sls l).drop (k * 1) = sls (l.drop k) := by simp [sls, List.map_drop]
theorem sls_at {l : List Sl} {i : Nat} (h : i < l.length) : (sls l)[i * 1]? = some (.slice (l.getD i sl0).1 (l.getD i sl0).2.1 (l.getD i sl0).2.2) := by
  rw [Nat.mul_one, sls, List.getElem?_map, List.getD_eq_getElem?_getD, List.getElem?_eq_getElem h]; rfl
/-- slices that tell bytes -/
structure SlsOk (L : List Res) (l : List Sl) (ds : List By) : Prop where
  len : l.length = ds.length
  ok : ∀ i, i < l.length → SlOk L 1 (l.getD i sl0).1 (l.getD i sl0).2.1 (l.getD i sl0).2.2 (u8s (ds.getD i []))
theorem SlsOk.at {L : List Res} {l : List Sl} {ds : List By} (h : SlsOk L l ds) {i : Nat} (hi : i < l.length) : ∃ A c, l.getD i sl0 = (A, (ds.getD i []).length, c) ∧ SlOk L 1 A (ds.getD i []).length c (u8s (ds.getD i [])) := by
  have h1 := h.ok i hi
  have h2 := h1.n8
  refine ⟨(l.getD i sl0).1, (l.getD i sl0).2.2, ?_, ?_⟩
  · rw [← h2]
  · rw [h2] at h1; exact h1
theorem SlsOk.nil (L : List Res) : SlsOk L [] [] := ⟨rfl, fun i h => absurd h (Nat.not_lt_zero _)⟩
theorem SlsOk.cons {L : List Res} {s : Sl} {l : List Sl} {d : By} {ds : List By} (h : SlOk L 1 s.1 s.2.1 s.2.2 (u8s d)) (hl : SlsOk L l ds) : SlsOk L (s :: l) (d :: ds) := ⟨by simp [hl.len], fun i hi => by
  cases i with
  | zero => exact h
  | succ i => exact hl.ok i (by simpa using hi)⟩
theorem SlsOk.via {L M : List Res} {l : List Sl} {ds : List By} (h : SlsOk L l ds) (hM : ∀ w, Sat w M → Sat w L) : SlsOk M l ds := ⟨h.len, fun i hi => (h.ok i hi).via hM⟩
theorem SlsOk.drop {L : List Res} {l : List Sl} {ds : List By} (h : SlsOk L l ds) (k : Nat) : SlsOk L (l.drop k) (ds.drop k) := ⟨by simp [h.len], fun i hi => by
  have := h.ok (k + i) (by simp at hi; omega)
  simpa [List.getD_eq_getElem?_getD] using this⟩
theorem flat_take {ds : List By} {i : Nat} (h : i < ds.length) : (ds.take (i + 1)).flatten = (ds.take i).flatten ++ ds.getD i [] := by
  have e : ds.take (i + 1) = ds.take i ++ [ds[i]] := by simp
  rw [List.getD_eq_getElem?_getD, List.getElem?_eq_getElem h, Option.getD_some, e, List.flatten_append]; simp
theorem flat_le (ds : List By) (i : Nat) : (ds.take i).flatten.length ≤ ds.flatten.length := by
  conv => rhs; rw [← List.take_append_drop i ds]
  rw [List.flatten_append, List.length_append]; omega
theorem SlOk.nil8 (L : List Res) : SlOk L 1 none 0 0 (u8s []) := ⟨fun _ => rfl, Nat.le_refl _, Nat.zero_le _, rfl, fun _ _ j v h => by simp at h⟩
/-- a row cut to nothing -/
theorem Sat.cut {w : World} {L : List Res} {e n c : Nat} {A : Option Addr} {xs : List Value} (H : Sat w (row e 1 (.slice A n c) n xs :: L)) : Sat w (row e 1 (.slice A 0 c) 0 [] :: L) := by
  refine H.weaken fun F hP => ⟨?_, ?_⟩
  · refine ⟨rfl, ?_⟩
    rcases hP.1.2 with ⟨h1, h2⟩ | ⟨g, cap, cur, h1, h3, h4, h5, h6, h7, h8⟩
    · cases h1; exact .inl ⟨rfl, rfl⟩
    · cases h1
      exact .inr ⟨g, _, cur, rfl, h3, h4, Nat.zero_le _, h6, h7, by simp⟩
  · exact fun k => (hP.2 k).trans (by cases A <;> simp [Value.ownBlock])
section
variable {P : Program} {ops : Array Oper} {a : Act} {o : Oper} {L : List Res} {n : Nat} {E : Env}
theorem y_cap {t e len cap : Nat} {A : Option Addr} {x : Operand} (S : Slots a n E) (ho : o.op = .call { callee := .builtin .cap, args := #[x], argTypes := #[t] }) (hx : ev E x = some (.slice A len cap)) (ht : P.underlying t = some (.slice e)) : Yl P L o a (.int .i64 cap) := fun w _ => by
  simp [execOp, ho, resolve, invoke, builtin, S.eval hx, Builtin.cap_, run_underlying ht, goInt]
instance Stp.cap (t e m c : Nat) (A : Option Addr) (x : Operand) [hx : Ev E x (.slice A m c)] [hu : Und P t (.slice e)] : Stp P L E (.call { callee := .builtin .cap, args := #[x], argTypes := #[t] }) (.int .i64 c) := ⟨fun S _ ho => y_cap S ho hx.h hu.h⟩
end
end Go.Cg
namespace Go.Cg
set_option linter.unusedVariables false
set_option linter.unusedSimpArgs false
theorem shift0 (A : Option Addr) (b : Bool) : shift A 0 b = A := by
  cases A with
  | none => cases b <;> rfl
  | some a => cases b <;> simp [shift, Addr.add]
end Go.Cg
namespace Go.Cg
set_option linter.unusedVariables false
set_option linter.unusedSimpArgs false
theorem SlOk.head8 {L : List Res} {A : Option Addr} {m c : Nat} {l : List UInt8} (h : SlOk L 1 A m c (u8s l)) (k : Nat) (hk : k ≤ m) : SlOk L 1 A k c (u8s (l.take k)) := by
  have := h.part8 0 k (Nat.zero_le _) hk
  rw [Nat.zero_mul, shift0] at this
  simpa using this
namespace Oc
set_option linter.unusedVariables false
set_option linter.unusedSimpArgs false
theorem get_lt (b : Dk.By) (i : Int) (k : Nat) : (get b i k).1 < 256 ^ k := by
  unfold get
  split
  · rename_i h
    have h1 := unle_lt ((b.drop i.toNat).take ((k : Int)).toNat)
    refine Nat.lt_of_lt_of_le h1 (Nat.pow_le_pow_right (by omega) (by simp; omega))
  · exact Nat.pow_pos (by omega)
theorem get_ok {b : Dk.By} {i k : Nat} (h1 : 1 ≤ k ∧ k ≤ 8) (h : i + k ≤ b.length) : get b i k = (unle ((b.drop i).take k), true) := by
  unfold get; rw [if_pos (by omega)]; simp
theorem get_no {b : Dk.By} {i k : Nat} (h : b.length < i + k) : get b i k = (0, false) := by
  unfold get; rw [if_neg (by omega)]
end Oc
end Go.Cg
namespace Go.Cg
set_option linter.unusedVariables false
set_option linter.unusedSimpArgs false
open Go.RowKit
open Dk (By)
/-! ### blocks of their own, listed -/
def Lens (l : List Sl) (ds : List By) : Prop := l.length = ds.length ∧ ∀ i, i < l.length → (l.getD i sl0).2.1 = (ds.getD i []).length
def blkRows (l : List Sl) (ds : List By) : List Res := (l.zip ds).map fun p => row 5 1 (slv p.1) p.2.length (u8s p.2)
def blksR (l : List Sl) (ds : List By) : Res := star (fact (Lens l ds) :: blkRows l ds)
theorem Sat.noBlks {w : World} {L : List Res} (H : Sat w L) : Sat w (blksR [] [] :: L) := sat_star.2 (sat_fact.2 ⟨⟨rfl, fun i h => absurd h (Nat.not_lt_zero _)⟩, H⟩)
theorem Sat.blksLens {w : World} {L : List Res} {l : List Sl} {ds : List By} (H : Sat w (blksR l ds :: L)) : Lens l ds := (sat_fact.1 (sat_star.1 H)).1
theorem Sat.blkIn {w : World} {L : List Res} {l : List Sl} {ds : List By} {A : Option Addr} {c : Nat} {d : By} (H : Sat w (row 5 1 (.slice A d.length c) d.length (u8s d) :: blksR l ds :: L)) : Sat w (blksR (l ++ [(A, d.length, c)]) (ds ++ [d]) :: L) := by
  have H1 := sat_star.1 (H.perm (List.Perm.swap _ _ _))
  obtain ⟨hl, H1⟩ := sat_fact.1 H1
  refine sat_star.2 (sat_fact.2 ⟨⟨by simp [hl.1], fun i hi => ?_⟩, ?_⟩)
  · by_cases h : i < l.length
    · have := hl.2 i h
      rw [List.getD_eq_getElem?_getD, List.getD_eq_getElem?_getD, List.getElem?_append_left h, List.getElem?_append_left (by rw [← hl.1]; exact h), ← List.getD_eq_getElem?_getD, ← List.getD_eq_getElem?_getD]; exact this
    · have e : i = l.length := by simp at hi; omega
      subst e
      rw [List.getD_eq_getElem?_getD, List.getD_eq_getElem?_getD, List.getElem?_append_right (Nat.le_refl _), List.getElem?_append_right (by rw [hl.1]; exact Nat.le_refl _), Nat.sub_self, hl.1, Nat.sub_self]; rfl
  · refine H1.perm ?_
    have e : blkRows (l ++ [(A, d.length, c)]) (ds ++ [d]) = blkRows l ds ++ [row 5 1 (.slice A d.length c) d.length (u8s d)] := by
      unfold blkRows; rw [List.zip_append hl.1]; simp [slv]
    show (blkRows l ds ++ (row _ 1 (.slice A d.length c) d.length (u8s d) :: L)).Perm (blkRows (l ++ [(A, d.length, c)]) (ds ++ [d]) ++ L)
    rw [e, List.append_assoc]
    exact List.Perm.refl _
theorem SlsOk.ofBlks {w : World} {L : List Res} {l : List Sl} {ds : List By} (H : Sat w (blksR l ds :: L)) : SlsOk (blksR l ds :: L) l ds := by
  obtain ⟨hl, H1⟩ := sat_fact.1 (sat_star.1 H)
  refine ⟨hl.1, fun i hi => ?_⟩
  have hi' : i < ds.length := by rw [← hl.1]; exact hi
  have hn := hl.2 i hi
  have e : (blkRows l ds ++ L)[i]? = some (row 5 1 (.slice (l.getD i sl0).1 (l.getD i sl0).2.1 (l.getD i sl0).2.2) (l.getD i sl0).2.1 (u8s (ds.getD i []))) := by
    rw [hn]
    rw [List.getElem?_append_left (by simp [blkRows, List.length_zip]; omega)]
    unfold blkRows
    rw [List.getElem?_map, List.getElem?_zip_eq_some (z := (l[i], ds[i])).2 ⟨List.getElem?_eq_getElem hi, List.getElem?_eq_getElem hi'⟩]
    rw [List.getD_eq_getElem?_getD, List.getD_eq_getElem?_getD, List.getElem?_eq_getElem hi, List.getElem?_eq_getElem hi'] at hn ⊢
    simp only [Option.getD_some, Option.map_some, slv] at hn ⊢
    rw [← hn]
  exact (SlOk.ofRow (i := i) H1 e).via fun w' H' => (sat_fact.1 (sat_star.1 H')).2
namespace Oc
set_option linter.unusedVariables false
set_option linter.unusedSimpArgs false
theorem joined_snoc : ∀ (l : List Dk.By) (d : Dk.By), joined (l ++ [d]) = joined l ++ (enc d).1
  | [], d => by simp [joined]
  | t :: r, d => by simp [joined, joined_snoc r d]
theorem joined_take {ds : List Dk.By} {i : Nat} (h : i < ds.length) : joined (ds.take (i + 1)) = joined (ds.take i) ++ (enc (ds.getD i [])).1 := by
  have e : ds.take (i + 1) = ds.take i ++ [ds[i]] := by simp
  rw [List.getD_eq_getElem?_getD, List.getElem?_eq_getElem h, Option.getD_some, e, joined_snoc]
theorem joined_len : ∀ (l : List Dk.By), (∀ t ∈ l, t.length ≤ 1000) → (joined l).length ≤ 1006 * l.length
  | [], _ => by simp [joined]
  | t :: r, h => by
    have h1 := joined_len r fun x hx => h x (List.mem_cons_of_mem _ hx)
    have h2 := enc_len (h t List.mem_cons_self)
    simp only [joined, List.length_append, List.length_cons, h2]
    have := h t List.mem_cons_self
    omega
theorem enc_2 (d : Dk.By) : (enc d).2 = if 1000 < d.length then 1 else 0 := by unfold enc; split <;> rfl
theorem enc_l (d : Dk.By) : (enc d).1.length ≤ 1006 := by
  unfold enc; split
  · simp
  · simp [le_len]; omega
end Oc
end Go.Cg
namespace Go.Cg
set_option linter.unusedVariables false
set_option linter.unusedSimpArgs false
theorem SlOk.tail8 {L : List Res} {A : Option Addr} {m c : Nat} {l : List UInt8} (h : SlOk L 1 A m c (u8s l)) (i : Nat) (hi : i ≤ m) : SlOk L 1 (shift A (i * 1) (decide (c = i))) (m - i) (c - i) (u8s (l.drop i)) := by
  have := h.tail i hi
  rwa [u8s_drop] at this
end Go.Cg
namespace Go.Cg
set_option linter.unusedVariables false
set_option linter.unusedSimpArgs false
section
variable {P : Program} {ops : Array Oper} {a : Act} {o : Oper} {L : List Res} {n : Nat} {E : Env}
theorem y_idxAgg {t e len : Nat} {x ix : Operand} {k : IntKind} {i : Int} {cs : Array Value} {v : Value} (S : Slots a n E) (ho : o.op = .index t x ix) (hx : ev E x = some (.agg cs)) (hi : ev E ix = some (.int k i)) (ht : P.underlying t = some (.array len e)) (hs : SizeOf P e 1) (hp : Plain P e) (h0 : 0 ≤ i) (h1 : i < len) (hv : cs[i.toNat]? = some v) : Yl P L o a v :=
  yl_val (s := Instr.index t (a.eval x) (a.eval ix)) (by simp only [execOp, ho]) fun w _ => by
    rw [S.eval hx, S.eval hi]
    simp [Instr.index, run_underlying ht, asIntOf, h0, h1, part, hs w, hp w, hv, go_sem]
theorem y_idxArr {t e len b j s : Nat} {x ix : Operand} {k : IntKind} {i : Int} (S : Slots a n E) (ho : o.op = .indexAddr t x ix) (hx : ev E x = some (.pointer (some ⟨b, j, none⟩))) (hi : ev E ix = some (.int k i)) (ht : P.underlying t = some (.array len e)) (hs : SizeOf P e s) (h0 : 0 ≤ i) (h1 : i < len) : Yl P L o a (.pointer (some ⟨b, j + i.toNat * s, none⟩)) :=
  yl_val (s := Instr.indexAt t (a.eval x) (a.eval ix)) (by simp only [execOp, ho]) fun w _ => by
    rw [S.eval hx, S.eval hi]
    simp [Instr.indexAt, Instr.sureAddr, run_underlying ht, asIntOf, h0, h1, hs w, Addr.add, go_sem]
end
end Go.Cg
namespace Go.Cg
set_option linter.unusedVariables false
set_option linter.unusedSimpArgs false
section
variable {P : Program} {ops : Array Oper} {a : Act} {o : Oper} {L : List Res} {n : Nat} {E : Env}
theorem y_addS {t t' : TypeId} {x y : Operand} {u v : List UInt8} (S : Slots a n E) (ho : o.op = .binOp .add t x y t') (hx : ev E x = some (str u)) (hy : ev E y = some (str v)) (hl : u.length + v.length ≤ 9223372036854775807) : Yl P L o a (str (u ++ v)) :=
  (@StpC.addS P L E t t' x y u v ⟨hx⟩ ⟨hy⟩).h (by omega) S ho
end
end Go.Cg
namespace Go.Cg
set_option linter.unusedVariables false
set_option linter.unusedSimpArgs false
def fnv (l : List Value) : List Value := l
@[simp] theorem len_fnv (l : List Value) : (fnv l).length = l.length := rfl
end Go.Cg
namespace Go.Cg
set_option linter.unusedVariables false
set_option linter.unusedSimpArgs false
theorem fnv_at {l : List Value} {i : Nat} (h : i < l.length) : (fnv l)[i * 1]? = some (l.getD i undef) := by
  rw [Nat.mul_one, fnv, List.getD_eq_getElem?_getD, List.getElem?_eq_getElem h]; rfl
end Go.Cg
namespace Go.Cg
set_option linter.unusedVariables false
set_option linter.unusedSimpArgs false
section
variable {P : Program} {ops : Array Oper} {a : Act} {o : Oper} {L : List Res} {n : Nat} {E : Env}
theorem run_eqNil {t : TypeId} {ms : Array (String × TypeId)} (hu : P.underlying t = some (.interface ms)) (w : World) : (Op.equal t .nilIface .nilIface).run P w = .ok true w := by
  unfold Op.equal Op.maxDepth; unfold Op.equalIn
  simp only [Sem.run_bind, run_underlying hu, Result.andThen_ok, Sem.run_pure]
theorem run_eqIf {t dt : TypeId} {dv : Value} {ms : Array (String × TypeId)} (hu : P.underlying t = some (.interface ms)) (w : World) : (Op.equal t (.iface dt dv) .nilIface).run P w = .ok false w := by
  unfold Op.equal Op.maxDepth; unfold Op.equalIn
  simp only [Sem.run_bind, run_underlying hu, Result.andThen_ok, Sem.run_pure]
theorem y_eqNilI {t t' : TypeId} {x : Operand} {ms : Array (String × TypeId)} (S : Slots a n E) (ho : o.op = .binOp .eql t x (.const .nilIface) t') (hx : ev E x = some .nilIface) (ht : P.underlying t = some (.interface ms)) : Yl P L o a (.bool true) :=
  yl_bin (v := .nilIface) S ho hx rfl (fun w => by simp [eqGuard]) fun w _ => by
    show (do pure (Value.bool (← Op.equal t _ _))).run P w = _
    simp only [Sem.run_bind, run_eqNil ht, Result.andThen_ok, Sem.run_pure]
theorem y_eqIface {t t' dt : TypeId} {x : Operand} {dv : Value} {ms : Array (String × TypeId)} (S : Slots a n E) (ho : o.op = .binOp .eql t x (.const .nilIface) t') (hx : ev E x = some (.iface dt dv)) (ht : P.underlying t = some (.interface ms)) : Yl P L o a (.bool false) :=
  yl_bin (v := .nilIface) S ho hx rfl (fun w => by simp [eqGuard]) fun w _ => by
    show (do pure (Value.bool (← Op.equal t _ _))).run P w = _
    simp only [Sem.run_bind, run_eqIf ht, Result.andThen_ok, Sem.run_pure]
end
end Go.Cg
