/- What comes in is opened: numbers, and slices that may be read. No condition. -/
import Derived.Test.YtgfdmhjjlajmgaaGreatDoorKUMp
import Derived.WalkKit
import Derived.ProofKit
import Derived.OpenShut
import Derived.ShutString
import Derived.ChangeOld
import Derived.Below
import Derived.SizedLaws
import Derived.Carry
import Derived.Deep.Slices
import Derived.Lib.SmallJoins
namespace Go.Cg
set_option linter.unusedVariables false
set_option linter.unusedSimpArgs false
open Go.ChangeShapes Go.WideShapes Go.ChangeAt Go.RowKit Go.Lib Go.WideElems Go.Deep Go.Joins Go.Maps

theorem wf_u64 {n : Int} (h : (Lit.int .u64 n).wf = true) : ∃ m : Nat, n = m ∧ m < 18446744073709551616 := by
  simp [Lit.wf, IntKind.min, IntKind.max, IntKind.bits, IntKind.signed] at h
  exact ⟨n.toNat, by omega, by omega⟩
theorem wf_i64 {n : Int} (h : (Lit.int .i64 n).wf = true) : -9223372036854775808 ≤ n ∧ n ≤ 9223372036854775807 := by
  simp [Lit.wf, IntKind.min, IntKind.max, IntKind.bits, IntKind.signed] at h
  exact ⟨by omega, by omega⟩
section
variable {H : Type} {enc : TypeId × Value → H} {P : Program} {W : World} {base : Nat} {spare : Nat → Bool} {held : Bool}

theorem choose_list {α : Type} {p : Nat → α → Prop} : ∀ n : Nat, (∀ i, i < n → ∃ x, p i x) → ∃ l : List α, l.length = n ∧ ∀ i x, l[i]? = some x → p i x
  | 0, _ => ⟨[], rfl, fun i x h => by simp at h⟩
  | n + 1, h => by
    obtain ⟨l, hl, hp⟩ := choose_list n fun i hi => h i (by omega)
    obtain ⟨x, hx⟩ := h n (by omega)
    refine ⟨l ++ [x], by simp [hl], fun i y hy => ?_⟩
    rw [List.getElem?_append] at hy
    split at hy
    · exact hp i y hy
    · have hi : i - l.length = 0 := by
        have := (List.getElem?_eq_some_iff.1 hy).1
        simp at this; omega
      rw [hi] at hy
      simp only [List.getElem?_cons_zero, Option.some.injEq] at hy
      subst hy
      rw [show i = n from by omega]; exact hx

/-- elements of one cell: what they are is told by 'R' -/
theorem open_row1 {t e : TypeId} {fuel : Nat} {v : Value} {x : DataW H × List MemPlace} {α : Type} {R : α → Value → Prop} {mk : α → Value} (hmk : ∀ a v, R a v → v = mk a) (ht : P.underlying t = some (.slice e)) (hc : P.cellsOf e = 1)
    (he : ∀ n v y, DataW.trod enc P W base spare held n e [v] = some y → ∃ a, R a v) (h : DataW.trod enc P W base spare held fuel t [v] = some x) :
    ∃ (A : Option Addr) (c : Nat) (l : List α), v = .slice A l.length c ∧ SlOk [old W] 1 A l.length c (l.map mk) ∧ ∀ a ∈ l, ∃ u, R a u := by
  rcases open_slice1 ht hc h with ⟨hcs, _⟩ | ⟨a, len, cap, m, n, V, D, Pl, hcs, _, hl, hm, hmm, _, hx⟩
  · simp only [List.cons.injEq, and_true] at hcs
    subst hcs
    exact ⟨none, 0, [], rfl, ⟨fun _ => rfl, Nat.le_refl _, Nat.zero_le _, rfl, Rd.nil _ _⟩, fun a h => by cases h⟩
  · simp only [List.cons.injEq, and_true] at hcs
    subst hcs
    have hlm : len ≤ m := by rw [hmm]; split <;> omega
    obtain ⟨l, hll, hlp⟩ := choose_list (p := fun i a => R a (V i)) len fun i hi => he n (V i) _ (hx i (by omega)).2
    refine ⟨some a, cap, l, by rw [hll], ⟨fun h => (by cases h), by omega, hm, by simp, ?_⟩, fun u hu => ?_⟩
    · intro w Hs j v hj
      rw [List.getElem?_map] at hj
      cases hlj : l[j]? with
      | none => simp [hlj] at hj
      | some u =>
        simp only [hlj, Option.map_some, Option.some.injEq] at hj
        have hjl : j < len := by rw [← hll]; exact (List.getElem?_eq_some_iff.1 hlj).1
        have hcell := (hx j (by omega)).1
        have hv := hmk _ _ (hlp j u hlj)
        obtain ⟨F, _, hown⟩ := Hs.head
        have hblk : a.block < W.heap.size := by
          have h0 := (hx j (by omega)).1
          have : (a.add j).block = a.block := by unfold Addr.add; split <;> rfl
          unfold World.cell? at h0
          rw [this] at h0
          cases hb : W.heap[a.block]? with
          | none => simp [hb] at h0
          | some _ => exact (Array.getElem?_eq_some_iff.1 hb).1
        have hsp : a.spot = none := by
          have h0 := (hx 0 (by omega)).1
          have : a.add 0 = a := rfl
          rw [this] at h0
          unfold World.cell? at h0
          cases hs : a.spot with
          | none => rfl
          | some _ => rw [hs] at h0; revert h0; cases W.heap[a.block]? with
            | none => simp
            | some o => cases o <;> simp
        refine ⟨a.block, a.off, by cases a; simp_all, ?_⟩
        have e1 : a.add j = ⟨a.block, a.off + j, none⟩ := by
          cases a with | mk b o s => simp at hsp; subst hsp; exact add_lit b o j
        rw [e1] at hcell
        have e2 : w.cell? ⟨a.block, a.off + j, none⟩ = W.cell? ⟨a.block, a.off + j, none⟩ := World.cell?_of_block (hown.2.2 a.block hblk)
        rw [e2, hcell, hv, hj]
    · obtain ⟨i, hi⟩ := List.getElem?_of_mem hu
      exact ⟨_, hlp i u hi⟩

theorem open_bools {t e : TypeId} {fuel : Nat} {v : Value} {x : DataW H × List MemPlace} (ht : P.underlying t = some (.slice e)) (he : P.underlying e = some .bool) (hc : P.cellsOf e = 1) (h : DataW.trod enc P W base spare held fuel t [v] = some x) :
    ∃ (A : Option Addr) (c : Nat) (l : List Bool), v = .slice A l.length c ∧ SlOk [old W] 1 A l.length c (bools l) := by
  obtain ⟨A, c, l, h1, h2, h3⟩ := open_row1 (R := fun (a : Bool) v => v = .bool a) (mk := Value.bool) (fun a v h => h) ht hc (fun n v y hy => by
    obtain ⟨z, hz, _⟩ := DataW.trod_bool he hy
    simp only [List.cons.injEq, and_true] at hz
    exact ⟨z, hz⟩) h
  exact ⟨A, c, l, h1, h2⟩
theorem old_cell {w : World} {a : Addr} {v : Value} (Hs : Sat w [old W]) (h : W.cell? a = some v) : a.spot = none ∧ w.cell? a = some v := by
  obtain ⟨F, _, hown⟩ := Hs.head
  have hblk : a.block < W.heap.size := by
    unfold World.cell? at h
    cases hb : W.heap[a.block]? with
    | none => simp [hb] at h
    | some _ => exact (Array.getElem?_eq_some_iff.1 hb).1
  refine ⟨?_, ?_⟩
  · unfold World.cell? at h
    cases hs : a.spot with
    | none => rfl
    | some _ => rw [hs] at h; revert h; cases W.heap[a.block]? with
      | none => simp
      | some o => cases o <;> simp
  · rw [World.cell?_of_block (hown.2.2 a.block hblk)]; exact h

end
end Go.Cg
