/- Plain laws of records: what is sorted is sorted in one way only. No condition. -/
import Derived.Test.YtgfdmhjjlajmgaaGreatDoorKURn
namespace Go.Cg.Rn
set_option linter.unusedVariables false
set_option linter.unusedSimpArgs false
open Go.Cg.Dk Go.Cg.Oc

theorem ltb_iff {a b : R} : ltb a b = true ↔ a.1 < b.1 ∨ a.1 = b.1 ∧ a.2 < b.2 := by simp [ltb]
theorem ltb_not {a b : R} : ltb a b = false ↔ ¬ (a.1 < b.1 ∨ a.1 = b.1 ∧ a.2 < b.2) := by simp [ltb]
theorem ltb_irr (a : R) : ltb a a = false := by rw [ltb_not]; omega
theorem ltb_tr {a b c : R} (h : ltb a b = true) (k : ltb b c = true) : ltb a c = true := by rw [ltb_iff] at *; omega
theorem ltb_ntr {a b c : R} (h : ltb a b = false) (k : ltb b c = false) : ltb a c = false := by rw [ltb_not] at *; omega
theorem ltb_one {a b : R} (h : ltb a b = false) (k : ltb b a = false) : a = b := by rw [ltb_not] at *; exact Prod.ext (by omega) (by omega)
theorem ltb_as {a b : R} (h : ltb a b = true) : ltb b a = false := by rw [ltb_iff] at h; rw [ltb_not]; omega
theorem cmp_lt (a b : R) : decide (cmp a b < 0) = ltb a b := by
  unfold cmp
  cases h : ltb a b
  · cases ltb b a <;> simp
  · simp
theorem ins_perm (r : R) : ∀ l, (ins r l).Perm (r :: l)
  | [] => List.Perm.refl _
  | x :: l => by
    unfold ins
    split
    · exact List.Perm.refl _
    · exact ((ins_perm r l).cons x).trans (List.Perm.swap r x l)
theorem sort_perm : ∀ l, (sort l).Perm l
  | [] => List.Perm.refl _
  | x :: l => (ins_perm x (sort l)).trans ((sort_perm l).cons x)
@[simp] theorem len_sort (l : List R) : (sort l).length = l.length := (sort_perm l).length_eq
/-- they rise -/
abbrev Up (l : List R) : Prop := l.Pairwise fun a b => ltb b a = false
theorem ins_up (r : R) : ∀ {l}, Up l → Up (ins r l)
  | [], _ => by simp [ins]
  | x :: l, h => by
    unfold ins
    obtain ⟨h1, h2⟩ := List.pairwise_cons.1 h
    split
    · rename_i hlt
      refine List.pairwise_cons.2 ⟨fun y hy => ?_, h⟩
      rcases List.mem_cons.1 hy with rfl | hy
      · exact ltb_as hlt
      · exact ltb_ntr (h1 y hy) (ltb_as hlt)
    · rename_i hlt
      refine List.pairwise_cons.2 ⟨fun y hy => ?_, ins_up r h2⟩
      rcases List.mem_cons.1 ((ins_perm r l).mem_iff.1 hy) with rfl | hy
      · simpa using hlt
      · exact h1 y hy
theorem sort_up : ∀ l, Up (sort l)
  | [] => List.Pairwise.nil
  | x :: l => ins_up x (sort_up l)
theorem up_one {l m : List R} (h : l.Perm m) (hl : Up l) (hm : Up m) : l = m :=
  h.eq_of_pairwise (fun _ _ _ _ h1 h2 => ltb_one h2 h1) hl hm
theorem sort_eq {l m : List R} (h : m.Perm l) (hm : Up m) : sort l = m := up_one ((sort_perm l).trans h.symm) (sort_up l) hm
theorem sort_of_perm {l m : List R} (h : l.Perm m) : sort l = sort m := sort_eq ((sort_perm m).trans h.symm) (sort_up m)
theorem merge_sort (l : List R) : (l.mergeSort fun x y => !(ltb y x)) = sort l := by
  refine (sort_eq (List.mergeSort_perm l _) ?_).symm
  have h := List.pairwise_mergeSort (le := fun x y => !(ltb y x)) (fun a b c h k => by simp only [Bool.not_eq_true'] at *; exact ltb_ntr k h) (fun a b => by
    cases h : ltb b a
    · simp
    · simp [ltb_as h]) l
  exact h.imp fun h => by simpa using h
theorem sort_app_one (l : List R) (r : R) : sort (l ++ [r]) = ins r (sort l) :=
  sort_eq (((ins_perm r (sort l)).trans ((sort_perm l).cons r)).trans (List.perm_append_comm (l₁ := [r]) (l₂ := l))) (ins_up r (sort_up l))
end Go.Cg.Rn
