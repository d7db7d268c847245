/- Rows of slices; what a slice may hold; rows cut to nothing. No condition. -/
import Derived.Test.YtgfdmhjjlajmgaaGreatDoorKUBt
namespace Go.Cg
set_option linter.unusedVariables false
set_option linter.unusedSimpArgs false
open Go.RowKit
open Dk (By)
abbrev Sl := Option Addr × Nat × Nat
def slv (s : Sl) : Value := .slice s.1 s.2.1 s.2.2
def sls (l : List Sl) : List Value := l.map slv
def sl0 : Sl := (none, 0, 0)
@[simp] theorem len_sls (l : List Sl) : (sls l).length = l.length := by simp [sls]
@[simp] theorem sls_nil : sls [] = [] := rfl
theorem sls_at {l : List Sl} {i : Nat} (h : i < l.length) : (sls l)[i * 1]? = some (.slice (l.getD i sl0).1 (l.getD i sl0).2.1 (l.getD i sl0).2.2) := by
  rw [Nat.mul_one, sls, List.getElem?_map, List.getD_eq_getElem?_getD, List.getElem?_eq_getElem h]; rfl
/-- slices that tell bytes -/
structure SlsOk (L : List Res) (l : List Sl) (ds : List By) : Prop where
  len : l.length = ds.length
  ok : ∀ i, i < l.length → SlOk L 1 (l.getD i sl0).1 (l.getD i sl0).2.1 (l.getD i sl0).2.2 (u8s (ds.getD i []))
theorem SlsOk.at {L : List Res} {l : List Sl} {ds : List By} (h : SlsOk L l ds) {i : Nat} (hi : i < l.length) : ∃ A c, l.getD i sl0 = (A, (ds.getD i []).length, c) ∧ SlOk L 1 A (ds.getD i []).length c (u8s (ds.getD i [])) := by
  have h1 := h.ok i hi
  have h2 := h1.n8
  refine ⟨(l.getD i sl0).1, (l.getD i sl0).2.2, ?_, ?_⟩
  · rw [← h2]
  · rw [h2] at h1; exact h1
theorem SlsOk.nil (L : List Res) : SlsOk L [] [] := ⟨rfl, fun i h => absurd h (Nat.not_lt_zero _)⟩
theorem SlsOk.cons {L : List Res} {s : Sl} {l : List Sl} {d : By} {ds : List By} (h : SlOk L 1 s.1 s.2.1 s.2.2 (u8s d)) (hl : SlsOk L l ds) : SlsOk L (s :: l) (d :: ds) := ⟨by simp [hl.len], fun i hi => by
  cases i with
  | zero => exact h
  | succ i => exact hl.ok i (by simpa using hi)⟩
theorem flat_take {ds : List By} {i : Nat} (h : i < ds.length) : (ds.take (i + 1)).flatten = (ds.take i).flatten ++ ds.getD i [] := by
  have e : ds.take (i + 1) = ds.take i ++ [ds[i]] := by simp
  rw [List.getD_eq_getElem?_getD, List.getElem?_eq_getElem h, Option.getD_some, e, List.flatten_append]; simp
theorem flat_le (ds : List By) (i : Nat) : (ds.take i).flatten.length ≤ ds.flatten.length := by
  conv => rhs; rw [← List.take_append_drop i ds]
  rw [List.flatten_append, List.length_append]; omega
theorem SlOk.nil8 (L : List Res) : SlOk L 1 none 0 0 (u8s []) := ⟨fun _ => rfl, Nat.le_refl _, Nat.zero_le _, rfl, fun _ _ j v h => by simp at h⟩
/-- a row cut to nothing -/
theorem Sat.cut {w : World} {L : List Res} {e n c : Nat} {A : Option Addr} {xs : List Value} (H : Sat w (row e 1 (.slice A n c) n xs :: L)) : Sat w (row e 1 (.slice A 0 c) 0 [] :: L) := by
  refine H.weaken fun F hP => ⟨?_, ?_⟩
  · refine ⟨rfl, ?_⟩
    rcases hP.1.2 with ⟨h1, h2⟩ | ⟨g, cap, cur, h1, h3, h4, h5, h6, h7, h8⟩
    · cases h1; exact .inl ⟨rfl, rfl⟩
    · cases h1
      exact .inr ⟨g, _, cur, rfl, h3, h4, Nat.zero_le _, h6, h7, by simp⟩
  · exact fun k => (hP.2 k).trans (by cases A <;> simp [Value.ownBlock])
section
variable {P : Program} {ops : Array Oper} {a : Act} {o : Oper} {L : List Res} {n : Nat} {E : Env}
theorem y_cap {t e len cap : Nat} {A : Option Addr} {x : Operand} (S : Slots a n E) (ho : o.op = .call { callee := .builtin .cap, args := #[x], argTypes := #[t] }) (hx : ev E x = some (.slice A len cap)) (ht : P.underlying t = some (.slice e)) : Yl P L o a (.int .i64 cap) := fun w _ => by
  simp [execOp, ho, resolve, invoke, builtin, S.eval hx, Builtin.cap_, run_underlying ht, goInt]
instance Stp.cap (t e m c : Nat) (A : Option Addr) (x : Operand) [hx : Ev E x (.slice A m c)] [hu : Und P t (.slice e)] : Stp P L E (.call { callee := .builtin .cap, args := #[x], argTypes := #[t] }) (.int .i64 c) := ⟨fun S _ ho => y_cap S ho hx.h hu.h⟩
end
end Go.Cg
namespace Go.Cg
set_option linter.unusedVariables false
set_option linter.unusedSimpArgs false
theorem shift0 (A : Option Addr) (b : Bool) : shift A 0 b = A := by
  cases A with
  | none => cases b <;> rfl
  | some a => cases b <;> simp [shift, Addr.add]
end Go.Cg
namespace Go.Cg
set_option linter.unusedVariables false
set_option linter.unusedSimpArgs false
theorem SlOk.head8 {L : List Res} {A : Option Addr} {m c : Nat} {l : List UInt8} (h : SlOk L 1 A m c (u8s l)) (k : Nat) (hk : k ≤ m) : SlOk L 1 A k c (u8s (l.take k)) := by
  have := h.part8 0 k (Nat.zero_le _) hk
  rw [Nat.zero_mul, shift0] at this
  simpa using this
namespace Oc
set_option linter.unusedVariables false
set_option linter.unusedSimpArgs false
theorem get_lt (b : Dk.By) (i : Int) (k : Nat) : (get b i k).1 < 256 ^ k := by
  unfold get
  split
  · rename_i h
    have h1 := unle_lt ((b.drop i.toNat).take ((k : Int)).toNat)
    refine Nat.lt_of_lt_of_le h1 (Nat.pow_le_pow_right (by omega) (by simp; omega))
  · exact Nat.pow_pos (by omega)
theorem get_ok {b : Dk.By} {i k : Nat} (h1 : 1 ≤ k ∧ k ≤ 8) (h : i + k ≤ b.length) : get b i k = (unle ((b.drop i).take k), true) := by
  unfold get; rw [if_pos (by omega)]; simp
theorem get_no {b : Dk.By} {i k : Nat} (h : b.length < i + k) : get b i k = (0, false) := by
  unfold get; rw [if_neg (by omega)]
end Oc
end Go.Cg
namespace Go.Cg
set_option linter.unusedVariables false
set_option linter.unusedSimpArgs false
open Go.RowKit
open Dk (By)
/-! ### blocks of their own, listed -/
namespace Oc
set_option linter.unusedVariables false
set_option linter.unusedSimpArgs false
theorem enc_2 (d : Dk.By) : (enc d).2 = if 1000 < d.length then 1 else 0 := by unfold enc; split <;> rfl
theorem enc_l (d : Dk.By) : (enc d).1.length ≤ 1006 := by
  unfold enc; split
  · simp
  · simp [le_len]; omega
end Oc
end Go.Cg
namespace Go.Cg
set_option linter.unusedVariables false
set_option linter.unusedSimpArgs false
theorem SlOk.tail8 {L : List Res} {A : Option Addr} {m c : Nat} {l : List UInt8} (h : SlOk L 1 A m c (u8s l)) (i : Nat) (hi : i ≤ m) : SlOk L 1 (shift A (i * 1) (decide (c = i))) (m - i) (c - i) (u8s (l.drop i)) := by
  have := h.tail i hi
  rwa [u8s_drop] at this
end Go.Cg
namespace Go.Cg
set_option linter.unusedVariables false
set_option linter.unusedSimpArgs false
section
variable {P : Program} {ops : Array Oper} {a : Act} {o : Oper} {L : List Res} {n : Nat} {E : Env}
end
end Go.Cg
namespace Go.Cg
set_option linter.unusedVariables false
set_option linter.unusedSimpArgs false
section
variable {P : Program} {ops : Array Oper} {a : Act} {o : Oper} {L : List Res} {n : Nat} {E : Env}
end
end Go.Cg
namespace Go.Cg
set_option linter.unusedVariables false
set_option linter.unusedSimpArgs false
def fnv (l : List Value) : List Value := l
@[simp] theorem len_fnv (l : List Value) : (fnv l).length = l.length := rfl
end Go.Cg
namespace Go.Cg
set_option linter.unusedVariables false
set_option linter.unusedSimpArgs false
end Go.Cg
namespace Go.Cg
set_option linter.unusedVariables false
set_option linter.unusedSimpArgs false
section
variable {P : Program} {ops : Array Oper} {a : Act} {o : Oper} {L : List Res} {n : Nat} {E : Env}
end
end Go.Cg
