/- Plain laws of a heap of heads, and of runs that are merged by it. No condition. -/
import Derived.Test.YtgfdmhjjlajmgaaGreatDoorKURq
namespace Go.Cg.Rn
set_option linter.unusedVariables false
set_option linter.unusedSimpArgs false
open Go.Cg.Dk Go.Cg.Oc

/-- a head: a record, and the run it is of -/
abbrev Hd := R × Nat
def hd0 : Hd := ((0, 0), 0)
def hlt (a b : Hd) : Bool := decide (a.1.1 < b.1.1 ∨ a.1.1 = b.1.1 ∧ (a.1.2 < b.1.2 ∨ a.1.2 = b.1.2 ∧ a.2 < b.2))
theorem hlt_iff {a b : Hd} : hlt a b = true ↔ a.1.1 < b.1.1 ∨ a.1.1 = b.1.1 ∧ (a.1.2 < b.1.2 ∨ a.1.2 = b.1.2 ∧ a.2 < b.2) := by simp [hlt]
theorem hlt_not {a b : Hd} : hlt a b = false ↔ ¬ (a.1.1 < b.1.1 ∨ a.1.1 = b.1.1 ∧ (a.1.2 < b.1.2 ∨ a.1.2 = b.1.2 ∧ a.2 < b.2)) := by simp [hlt]
theorem hlt_irr (a : Hd) : hlt a a = false := by rw [hlt_not]; omega
theorem hlt_ntr {a b c : Hd} (h : hlt a b = false) (k : hlt b c = false) : hlt a c = false := by rw [hlt_not] at *; omega
theorem hlt_as {a b : Hd} (h : hlt a b = true) : hlt b a = false := by rw [hlt_iff] at h; rw [hlt_not]; omega
theorem hlt_nlt {a b c : Hd} (h : hlt a b = false) (k : hlt c b = true) : hlt a c = false := by rw [hlt_not] at *; rw [hlt_iff] at k; omega
theorem hlt_rec {a b : Hd} (h : hlt a b = false) : ltb a.1 b.1 = false := by rw [hlt_not] at h; rw [ltb_not]; omega
abbrev hg (l : List Hd) (i : Nat) : Hd := l.getD i hd0
theorem hg_set {l : List Hd} {i j : Nat} {x : Hd} (h : i < l.length) : hg (l.set i x) j = if j = i then x else hg l j := by
  unfold hg
  rw [List.getD_eq_getElem?_getD, List.getD_eq_getElem?_getD, List.getElem?_set]
  by_cases e : i = j
  · subst e; simp [h]
  · rw [if_neg e, if_neg (fun h => e h.symm)]
def HeapOk (l : List Hd) : Prop := ∀ j, 0 < j → j < l.length → hlt (hg l j) (hg l ((j - 1) / 2)) = false
theorem HeapOk.nil : HeapOk [] := fun j _ h => absurd h (Nat.not_lt_zero _)
theorem HeapOk.least {l : List Hd} (h : HeapOk l) : ∀ j, j < l.length → hlt (hg l j) (hg l 0) = false := by
  intro j
  induction j using Nat.strongRecOn with
  | ind j ih =>
    intro hj
    by_cases h0 : j = 0
    · subst h0; exact hlt_irr _
    · exact hlt_ntr (h j (by omega) hj) (ih _ (by omega) (by omega))
/-- one place of a row put in for another -/
theorem swap_perm {l : List Hd} {i p : Nat} {x : Hd} (hi : i < l.length) (hp : p < l.length) (hne : p ≠ i) : ((l.set i (hg l p)).set p x).Perm (l.set i x) := by
  rw [List.perm_iff_count]
  intro c
  have e : hg l p = l[p] := by unfold hg; rw [List.getD_eq_getElem?_getD, List.getElem?_eq_getElem hp]; rfl
  rw [List.count_set (by simpa using hp), List.count_set hi, List.count_set hi]
  rw [List.getElem_set, ← e, ite_self]
  omega
theorem last_perm {hs : List Hd} {n : Nat} (hn : hs.length = n + 1) (h0 : 0 < n) : (hg hs 0 :: (hs.take n).set 0 (hg hs n)).Perm hs := by
  obtain ⟨a, q, rfl⟩ : ∃ a q, hs = a :: q := by cases hs with
    | nil => simp at hn
    | cons a q => exact ⟨a, q, rfl⟩
  obtain ⟨m, rfl⟩ : ∃ m, n = m + 1 := ⟨n - 1, by omega⟩
  have hq : q.length = m + 1 := by simpa using hn
  have e1 : q = q.take m ++ [q[m]] := by
    conv => lhs; rw [← List.take_append_drop m q]
    rw [List.drop_eq_getElem_cons (by omega), List.drop_eq_nil_of_le (by omega)]
  have e2 : hg (a :: q) (m + 1) = q[m] := by unfold hg; rw [List.getD_eq_getElem?_getD]; simp [hq]
  rw [e2]
  have e3 : ((a :: q).take (m + 1)).set 0 q[m] = q[m] :: q.take m := by simp
  rw [e3]
  refine List.Perm.cons _ ?_
  conv => rhs; rw [e1]
  exact (List.perm_append_comm (l₁ := [q[m]]))
/-- on the way up: x is to be at place i -/
structure UpEx (x : Hd) (i : Nat) (l : List Hd) : Prop where
  lt : i < l.length
  rest : ∀ j, 0 < j → j < l.length → j ≠ i → (j - 1) / 2 ≠ i → hlt (hg l j) (hg l ((j - 1) / 2)) = false
  above : ∀ j, 0 < j → j < l.length → (j - 1) / 2 = i → 0 < i → hlt (hg l j) (hg l ((i - 1) / 2)) = false
  below : ∀ j, 0 < j → j < l.length → (j - 1) / 2 = i → hlt (hg l j) x = false
theorem UpEx.start {hs : List Hd} {x : Hd} (h : HeapOk hs) : UpEx x hs.length (hs ++ [x]) := by
  refine ⟨by simp, fun j h0 hj hne _ => ?_, fun j h0 hj hp _ => ?_, fun j h0 hj hp => ?_⟩
  · simp at hj
    have e : ∀ k, k < hs.length → hg (hs ++ [x]) k = hg hs k := fun k hk => by
      unfold hg; rw [List.getD_eq_getElem?_getD, List.getD_eq_getElem?_getD, List.getElem?_append_left hk]
    rw [e _ (by omega), e _ (by omega)]
    exact h j h0 (by omega)
  · simp at hj; omega
  · simp at hj; omega
theorem UpEx.step {x : Hd} {i : Nat} {l : List Hd} (h : UpEx x i l) (h0 : 0 < i) (hx : hlt x (hg l ((i - 1) / 2)) = true) : UpEx x ((i - 1) / 2) (l.set i (hg l ((i - 1) / 2))) := by
  have hi := h.lt
  refine ⟨by simp; omega, fun j hj0 hj hne hp => ?_, fun j hj0 hj hp hpp => ?_, fun j hj0 hj hp => ?_⟩
  · rw [List.length_set] at hj
    rw [hg_set hi, hg_set hi]
    by_cases e : j = i
    · subst e; exact absurd rfl hp
    · rw [if_neg e]
      by_cases e2 : (j - 1) / 2 = i
      · rw [if_pos e2]; exact h.above j hj0 hj e2 h0
      · rw [if_neg e2]; exact h.rest j hj0 hj e e2
  · rw [List.length_set] at hj
    rw [hg_set hi, hg_set hi, if_neg (show ((i - 1) / 2 - 1) / 2 ≠ i by omega)]
    have hpar := h.rest ((i - 1) / 2) hpp (by omega) (by omega) (by omega)
    by_cases e : j = i
    · rw [if_pos e]; exact hpar
    · rw [if_neg e]
      have := h.rest j hj0 hj e (by omega)
      rw [hp] at this
      exact hlt_ntr this hpar
  · rw [List.length_set] at hj
    rw [hg_set hi]
    by_cases e : j = i
    · rw [if_pos e]; exact hlt_as hx
    · rw [if_neg e]
      have := h.rest j hj0 hj e (by omega)
      rw [hp] at this
      exact hlt_nlt this hx
theorem UpEx.done {x : Hd} {i : Nat} {l : List Hd} (h : UpEx x i l) (hx : 0 < i → hlt x (hg l ((i - 1) / 2)) = false) : HeapOk (l.set i x) := by
  have hi := h.lt
  intro j hj0 hj
  rw [List.length_set] at hj
  rw [hg_set hi, hg_set hi]
  by_cases e : j = i
  · subst e; rw [if_pos rfl, if_neg (by omega)]; exact hx hj0
  · rw [if_neg e]
    by_cases e2 : (j - 1) / 2 = i
    · rw [if_pos e2]; exact h.below j hj0 hj e2
    · rw [if_neg e2]; exact h.rest j hj0 hj e e2
/-- the place of the first of two below a place -/
def lst (l : List Hd) (i : Nat) : Int := if l.length ≤ 2 * i + 1 then -1 else if 2 * i + 2 < l.length ∧ hlt (hg l (2 * i + 2)) (hg l (2 * i + 1)) = true then ((2 * i + 2 : Nat) : Int) else ((2 * i + 1 : Nat) : Int)
theorem lst_none {l : List Hd} {i : Nat} (h : lst l i < 0) : l.length ≤ 2 * i + 1 := by
  unfold lst at h; split at h
  · assumption
  · split at h <;> omega
theorem lst_some {l : List Hd} {i : Nat} (h : 0 ≤ lst l i) : ∃ k : Nat, lst l i = (k : Int) ∧ k < l.length ∧ 0 < k ∧ (k - 1) / 2 = i ∧ ∀ j, 0 < j → j < l.length → (j - 1) / 2 = i → hlt (hg l j) (hg l k) = false := by
  unfold lst at h ⊢
  split at h
  · omega
  · rename_i hl
    rw [if_neg hl]
    split
    · rename_i hc
      refine ⟨2 * i + 2, rfl, by omega, by omega, by omega, fun j h0 hj hp => ?_⟩
      by_cases e : j = 2 * i + 2
      · subst e; exact hlt_irr _
      · have e2 : j = 2 * i + 1 := by omega
        subst e2; exact hlt_as hc.2
    · rename_i hc
      refine ⟨2 * i + 1, rfl, by omega, by omega, by omega, fun j h0 hj hp => ?_⟩
      by_cases e : j = 2 * i + 1
      · subst e; exact hlt_irr _
      · have e2 : j = 2 * i + 2 := by omega
        subst e2
        cases hh : hlt (hg l (2 * i + 2)) (hg l (2 * i + 1))
        · rfl
        · exact absurd ⟨hj, hh⟩ hc
/-- on the way down -/
structure DnEx (x : Hd) (i : Nat) (l : List Hd) : Prop where
  lt : i < l.length
  rest : ∀ j, 0 < j → j < l.length → j ≠ i → (j - 1) / 2 ≠ i → hlt (hg l j) (hg l ((j - 1) / 2)) = false
  above : ∀ j, 0 < j → j < l.length → (j - 1) / 2 = i → 0 < i → hlt (hg l j) (hg l ((i - 1) / 2)) = false
  self : 0 < i → hlt x (hg l ((i - 1) / 2)) = false
theorem DnEx.start {hs : List Hd} {x : Hd} {n : Nat} (h : HeapOk hs) (hn : n ≤ hs.length) (h0 : 0 < n) : DnEx x 0 (hs.take n) := by
  have hl : (hs.take n).length = n := by simp; omega
  have e : ∀ k, k < n → hg (hs.take n) k = hg hs k := fun k hk => by
    unfold hg; rw [List.getD_eq_getElem?_getD, List.getD_eq_getElem?_getD, List.getElem?_take, if_pos hk]
  refine ⟨by omega, fun j hj0 hj _ _ => ?_, fun j _ _ _ h => absurd h (Nat.lt_irrefl _), fun h => absurd h (Nat.lt_irrefl _)⟩
  rw [hl] at hj
  rw [e _ hj, e _ (by omega)]
  exact h j hj0 (by omega)
theorem DnEx.step {x : Hd} {i k : Nat} {l : List Hd} (h : DnEx x i l) (hk : k < l.length) (hk0 : 0 < k) (hp : (k - 1) / 2 = i) (hm : ∀ j, 0 < j → j < l.length → (j - 1) / 2 = i → hlt (hg l j) (hg l k) = false) (hx : hlt (hg l k) x = true) : DnEx x k (l.set i (hg l k)) := by
  have hi := h.lt
  refine ⟨by simpa using hk, fun j hj0 hj hne hpp => ?_, fun j hj0 hj hpj _ => ?_, fun _ => ?_⟩
  · rw [List.length_set] at hj
    rw [hg_set hi, hg_set hi]
    by_cases e : j = i
    · subst e; rw [if_pos rfl, if_neg (by omega)]; exact h.above k hk0 hk hp hj0
    · rw [if_neg e]
      by_cases e2 : (j - 1) / 2 = i
      · rw [if_pos e2]; exact hm j hj0 hj e2
      · rw [if_neg e2]; exact h.rest j hj0 hj e e2
  · rw [List.length_set] at hj
    rw [hg_set hi, hg_set hi, hp, if_pos rfl, if_neg (by omega)]
    have := h.rest j hj0 hj (by omega) (by omega)
    rwa [hpj] at this
  · rw [hg_set hi, hp, if_pos rfl]; exact hlt_as hx
theorem DnEx.done {x : Hd} {i : Nat} {l : List Hd} (h : DnEx x i l) (hx : ∀ j, 0 < j → j < l.length → (j - 1) / 2 = i → hlt (hg l j) x = false) : HeapOk (l.set i x) := by
  have hi := h.lt
  intro j hj0 hj
  rw [List.length_set] at hj
  rw [hg_set hi, hg_set hi]
  by_cases e : j = i
  · subst e; rw [if_pos rfl, if_neg (by omega)]; exact h.self hj0
  · rw [if_neg e]
    by_cases e2 : (j - 1) / 2 = i
    · rw [if_pos e2]; exact hx j hj0 hj e2
    · rw [if_neg e2]; exact h.rest j hj0 hj e e2
end Go.Cg.Rn
