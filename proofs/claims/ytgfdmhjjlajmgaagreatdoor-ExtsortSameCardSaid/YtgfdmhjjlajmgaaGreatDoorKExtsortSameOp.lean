/- What comes in is opened: numbers, and slices that may be read. No condition. -/
import Derived.Test.YtgfdmhjjlajmgaaGreatDoorKExtsortSameMp
import Derived.WalkKit
import Derived.ProofKit
import Derived.OpenShut
import Derived.ShutString
import Derived.ChangeOld
import Derived.Below
import Derived.SizedLaws
import Derived.Carry
import Derived.Deep.Slices
import Derived.Lib.SmallJoins
namespace Go.Cg
set_option linter.unusedVariables false
set_option linter.unusedSimpArgs false
open Go.ChangeShapes Go.WideShapes Go.ChangeAt Go.RowKit Go.Lib Go.WideElems Go.Deep Go.Joins Go.Maps

theorem wf_u64 {n : Int} (h : (Lit.int .u64 n).wf = true) : ∃ m : Nat, n = m ∧ m < 18446744073709551616 := by
  simp [Lit.wf, IntKind.min, IntKind.max, IntKind.bits, IntKind.signed] at h
  exact ⟨n.toNat, by omega, by omega⟩
theorem wf_i64 {n : Int} (h : (Lit.int .i64 n).wf = true) : -9223372036854775808 ≤ n ∧ n ≤ 9223372036854775807 := by
  simp [Lit.wf, IntKind.min, IntKind.max, IntKind.bits, IntKind.signed] at h
  exact ⟨by omega, by omega⟩
section
variable {H : Type} {enc : TypeId × Value → H} {P : Program} {W : World} {base : Nat} {spare : Nat → Bool} {held : Bool}

theorem choose_list {α : Type} {p : Nat → α → Prop} : ∀ n : Nat, (∀ i, i < n → ∃ x, p i x) → ∃ l : List α, l.length = n ∧ ∀ i x, l[i]? = some x → p i x
  | 0, _ => ⟨[], rfl, fun i x h => by simp at h⟩
  | n + 1, h => by
    obtain ⟨l, hl, hp⟩ := choose_list n fun i hi => h i (by omega)
    obtain ⟨x, hx⟩ := h n (by omega)
    refine ⟨l ++ [x], by simp [hl], fun i y hy => ?_⟩
    rw [List.getElem?_append] at hy
    split at hy
    · exact hp i y hy
    · have hi : i - l.length = 0 := by
        have := (List.getElem?_eq_some_iff.1 hy).1
        simp at this; omega
      rw [hi] at hy
      simp only [List.getElem?_cons_zero, Option.some.injEq] at hy
      subst hy
      rw [show i = n from by omega]; exact hx

theorem old_cell {w : World} {a : Addr} {v : Value} (Hs : Sat w [old W]) (h : W.cell? a = some v) : a.spot = none ∧ w.cell? a = some v := by
  obtain ⟨F, _, hown⟩ := Hs.head
  have hblk : a.block < W.heap.size := by
    unfold World.cell? at h
    cases hb : W.heap[a.block]? with
    | none => simp [hb] at h
    | some _ => exact (Array.getElem?_eq_some_iff.1 hb).1
  refine ⟨?_, ?_⟩
  · unfold World.cell? at h
    cases hs : a.spot with
    | none => rfl
    | some _ => rw [hs] at h; revert h; cases W.heap[a.block]? with
      | none => simp
      | some o => cases o <;> simp
  · rw [World.cell?_of_block (hown.2.2 a.block hblk)]; exact h

end
end Go.Cg
