/- Plain laws of folding: how long, how large. No condition. -/
import Derived.Test.YtgfdmhjjlajmgaaGreatDoorKUMg
namespace Go.Cg.Rn
set_option linter.unusedVariables false
set_option linter.unusedSimpArgs false
open Go.Cg.Dk Go.Cg.Oc

/-- keys and values fit -/
def Bd (l : List R) : Prop := ∀ z ∈ l, z.1 < 18446744073709551616 ∧ z.2 < 18446744073709551616
theorem Bd.nil : Bd [] := fun z h => by cases h
theorem Bd.perm {l m : List R} (h : Bd l) (p : m.Perm l) : Bd m := fun z hz => h z (p.mem_iff.1 hz)
theorem Bd.sort {l : List R} (h : Bd l) : Bd (sort l) := h.perm (sort_perm l)
theorem Bd.take {l : List R} (h : Bd l) (i : Nat) : Bd (l.take i) := fun z hz => h z (List.mem_of_mem_take hz)
theorem Bd.app {l m : List R} (h : Bd l) (k : Bd m) : Bd (l ++ m) := fun z hz => (List.mem_append.1 hz).elim (h z) (k z)
theorem Bd.at {l : List R} (h : Bd l) {i : Nat} (hi : i < l.length) : (l.getD i (0, 0)).1 < 18446744073709551616 ∧ (l.getD i (0, 0)).2 < 18446744073709551616 := by
  rw [List.getD_eq_getElem?_getD, List.getElem?_eq_getElem hi]; exact h _ (List.getElem_mem hi)
theorem comb_lt {how : Int} {a b : Nat} (ha : a < 18446744073709551616) (_ : b < 18446744073709551616) : comb how a b < 18446744073709551616 := by
  unfold comb; split <;> omega
theorem fput_len (how : Int) (l : List R) (r : R) : (fput how l r).length ≤ l.length + 1 := by
  unfold fput
  split
  · rename_i z hz
    have : 0 < l.length := by cases l with
      | nil => simp at hz
      | cons _ _ => simp
    split <;> (simp <;> omega)
  · simp
theorem fput_bd {how : Int} {l : List R} {r : R} (h : Bd l) (hr : r.1 < 18446744073709551616 ∧ r.2 < 18446744073709551616) : Bd (fput how l r) := by
  unfold fput
  split
  · rename_i z hz
    have hzl := h z (List.mem_of_getLast? hz)
    split
    · refine Bd.app (fun y hy => h y (List.dropLast_subset _ hy)) fun y hy => ?_
      rw [List.mem_singleton.1 hy]; exact ⟨hzl.1, comb_lt hzl.2 hr.2⟩
    · exact Bd.app h fun y hy => by rw [List.mem_singleton.1 hy]; exact hr
  · exact fun y hy => by rw [List.mem_singleton.1 hy]; exact hr
theorem fold_bd (how : Int) : ∀ l : List R, Bd l → Bd (fold how l) := by
  have key : ∀ (l m : List R), Bd l → Bd m → Bd (l.foldl (fput how) m) := by
    intro l
    induction l with
    | nil => exact fun m _ h => h
    | cons x l ih => exact fun m h k => ih _ (fun z hz => h z (List.mem_cons_of_mem _ hz)) (fput_bd k (h x List.mem_cons_self))
  exact fun l h => key l [] h Bd.nil
theorem fold_len (how : Int) (l : List R) : (fold how l).length ≤ l.length := by
  have key : ∀ (l m : List R), (l.foldl (fput how) m).length ≤ m.length + l.length := by
    intro l
    induction l with
    | nil => exact fun m => Nat.le_refl _
    | cons x l ih => intro m; have h1 := ih (fput how m x); have h2 := fput_len how m x; simp only [List.foldl_cons, List.length_cons]; omega
  have := key l []; simpa [fold] using this
theorem fold_take {how : Int} {l : List R} {i : Nat} (h : i < l.length) : fold how (l.take (i + 1)) = fput how (fold how (l.take i)) (l.getD i (0, 0)) := by
  have e : l.take (i + 1) = l.take i ++ [l.getD i (0, 0)] := by
    rw [List.take_add_one, List.getElem?_eq_getElem h, List.getD_eq_getElem?_getD, List.getElem?_eq_getElem h]; rfl
  rw [e, fold_snoc]
end Go.Cg.Rn
