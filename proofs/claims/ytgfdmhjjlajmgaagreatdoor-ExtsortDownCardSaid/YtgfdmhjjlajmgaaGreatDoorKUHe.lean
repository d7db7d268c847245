/- Plain laws of a heap of records, each of a row, of which the record alone tells the order; exact, as it is turned. No condition. -/
import Derived.Test.YtgfdmhjjlajmgaaGreatDoorKUMg
namespace Go.Cg.Sn
set_option linter.unusedVariables false
set_option linter.unusedSimpArgs false
open Go.Cg.Dk Go.Cg.Oc Go.Cg.Rn

/-- which stands ahead: the record alone -/
def slt (a b : Hd) : Bool := ltb a.1 b.1
theorem slt_irr (a : Hd) : slt a a = false := by unfold slt; rw [ltb_not]; omega
theorem slt_ntr {a b c : Hd} (h : slt a b = false) (k : slt b c = false) : slt a c = false := ltb_ntr h k
theorem slt_as {a b : Hd} (h : slt a b = true) : slt b a = false := by unfold slt at *; rw [ltb_iff] at h; rw [ltb_not]; omega
theorem slt_nlt {a b c : Hd} (h : slt a b = false) (k : slt c b = true) : slt a c = false := by unfold slt at *; rw [ltb_not] at *; rw [ltb_iff] at k; omega
theorem slt_rec {a b : Hd} (h : slt a b = false) : ltb a.1 b.1 = false := h
def HeapOk (l : List Hd) : Prop := ∀ j, 0 < j → j < l.length → slt (hg l j) (hg l ((j - 1) / 2)) = false
theorem HeapOk.nil : HeapOk [] := fun j _ h => absurd h (Nat.not_lt_zero _)
theorem HeapOk.least {l : List Hd} (h : HeapOk l) : ∀ j, j < l.length → slt (hg l j) (hg l 0) = false := by
  intro j
  induction j using Nat.strongRecOn with
  | ind j ih =>
    intro hj
    by_cases h0 : j = 0
    · subst h0; exact slt_irr _
    · exact slt_ntr (h j (by omega) hj) (ih _ (by omega) (by omega))
/-- one place of a row put in for another -/
theorem swap_perm {l : List Hd} {i p : Nat} {x : Hd} (hi : i < l.length) (hp : p < l.length) (hne : p ≠ i) : ((l.set i (hg l p)).set p x).Perm (l.set i x) := by
  rw [List.perm_iff_count]
  intro c
  have e : hg l p = l[p] := by unfold hg; rw [List.getD_eq_getElem?_getD, List.getElem?_eq_getElem hp]; rfl
  rw [List.count_set (by simpa using hp), List.count_set hi, List.count_set hi]
  rw [List.getElem_set, ← e, ite_self]
  omega
theorem last_perm {hs : List Hd} {n : Nat} (hn : hs.length = n + 1) (h0 : 0 < n) : (hg hs 0 :: (hs.take n).set 0 (hg hs n)).Perm hs := by
  obtain ⟨a, q, rfl⟩ : ∃ a q, hs = a :: q := by cases hs with
    | nil => simp at hn
    | cons a q => exact ⟨a, q, rfl⟩
  obtain ⟨m, rfl⟩ : ∃ m, n = m + 1 := ⟨n - 1, by omega⟩
  have hq : q.length = m + 1 := by simpa using hn
  have e1 : q = q.take m ++ [q[m]] := by
    conv => lhs; rw [← List.take_append_drop m q]
    rw [List.drop_eq_getElem_cons (by omega), List.drop_eq_nil_of_le (by omega)]
  have e2 : hg (a :: q) (m + 1) = q[m] := by unfold hg; rw [List.getD_eq_getElem?_getD]; simp [hq]
  rw [e2]
  have e3 : ((a :: q).take (m + 1)).set 0 q[m] = q[m] :: q.take m := by simp
  rw [e3]
  refine List.Perm.cons _ ?_
  conv => rhs; rw [e1]
  exact (List.perm_append_comm (l₁ := [q[m]]))
/-- on the way up: x is to be at place i -/
structure UpEx (x : Hd) (i : Nat) (l : List Hd) : Prop where
  lt : i < l.length
  rest : ∀ j, 0 < j → j < l.length → j ≠ i → (j - 1) / 2 ≠ i → slt (hg l j) (hg l ((j - 1) / 2)) = false
  above : ∀ j, 0 < j → j < l.length → (j - 1) / 2 = i → 0 < i → slt (hg l j) (hg l ((i - 1) / 2)) = false
  below : ∀ j, 0 < j → j < l.length → (j - 1) / 2 = i → slt (hg l j) x = false
theorem UpEx.start {hs : List Hd} {x : Hd} (h : HeapOk hs) : UpEx x hs.length (hs ++ [x]) := by
  refine ⟨by simp, fun j h0 hj hne _ => ?_, fun j h0 hj hp _ => ?_, fun j h0 hj hp => ?_⟩
  · simp at hj
    have e : ∀ k, k < hs.length → hg (hs ++ [x]) k = hg hs k := fun k hk => by
      unfold hg; rw [List.getD_eq_getElem?_getD, List.getD_eq_getElem?_getD, List.getElem?_append_left hk]
    rw [e _ (by omega), e _ (by omega)]
    exact h j h0 (by omega)
  · simp at hj; omega
  · simp at hj; omega
theorem UpEx.step {x : Hd} {i : Nat} {l : List Hd} (h : UpEx x i l) (h0 : 0 < i) (hx : slt x (hg l ((i - 1) / 2)) = true) : UpEx x ((i - 1) / 2) (l.set i (hg l ((i - 1) / 2))) := by
  have hi := h.lt
  refine ⟨by simp; omega, fun j hj0 hj hne hp => ?_, fun j hj0 hj hp hpp => ?_, fun j hj0 hj hp => ?_⟩
  · rw [List.length_set] at hj
    rw [hg_set hi, hg_set hi]
    by_cases e : j = i
    · subst e; exact absurd rfl hp
    · rw [if_neg e]
      by_cases e2 : (j - 1) / 2 = i
      · rw [if_pos e2]; exact h.above j hj0 hj e2 h0
      · rw [if_neg e2]; exact h.rest j hj0 hj e e2
  · rw [List.length_set] at hj
    rw [hg_set hi, hg_set hi, if_neg (show ((i - 1) / 2 - 1) / 2 ≠ i by omega)]
    have hpar := h.rest ((i - 1) / 2) hpp (by omega) (by omega) (by omega)
    by_cases e : j = i
    · rw [if_pos e]; exact hpar
    · rw [if_neg e]
      have := h.rest j hj0 hj e (by omega)
      rw [hp] at this
      exact slt_ntr this hpar
  · rw [List.length_set] at hj
    rw [hg_set hi]
    by_cases e : j = i
    · rw [if_pos e]; exact slt_as hx
    · rw [if_neg e]
      have := h.rest j hj0 hj e (by omega)
      rw [hp] at this
      exact slt_nlt this hx
theorem UpEx.done {x : Hd} {i : Nat} {l : List Hd} (h : UpEx x i l) (hx : 0 < i → slt x (hg l ((i - 1) / 2)) = false) : HeapOk (l.set i x) := by
  have hi := h.lt
  intro j hj0 hj
  rw [List.length_set] at hj
  rw [hg_set hi, hg_set hi]
  by_cases e : j = i
  · subst e; rw [if_pos rfl, if_neg (by omega)]; exact hx hj0
  · rw [if_neg e]
    by_cases e2 : (j - 1) / 2 = i
    · rw [if_pos e2]; exact h.below j hj0 hj e2
    · rw [if_neg e2]; exact h.rest j hj0 hj e e2
/-- the place of the first of two below a place -/
def lst (l : List Hd) (i : Nat) : Int := if l.length ≤ 2 * i + 1 then -1 else if 2 * i + 2 < l.length ∧ slt (hg l (2 * i + 2)) (hg l (2 * i + 1)) = true then ((2 * i + 2 : Nat) : Int) else ((2 * i + 1 : Nat) : Int)
theorem lst_none {l : List Hd} {i : Nat} (h : lst l i < 0) : l.length ≤ 2 * i + 1 := by
  unfold lst at h; split at h
  · assumption
  · split at h <;> omega
theorem lst_some {l : List Hd} {i : Nat} (h : 0 ≤ lst l i) : ∃ k : Nat, lst l i = (k : Int) ∧ k < l.length ∧ 0 < k ∧ (k - 1) / 2 = i ∧ ∀ j, 0 < j → j < l.length → (j - 1) / 2 = i → slt (hg l j) (hg l k) = false := by
  unfold lst at h ⊢
  split at h
  · omega
  · rename_i hl
    rw [if_neg hl]
    split
    · rename_i hc
      refine ⟨2 * i + 2, rfl, by omega, by omega, by omega, fun j h0 hj hp => ?_⟩
      by_cases e : j = 2 * i + 2
      · subst e; exact slt_irr _
      · have e2 : j = 2 * i + 1 := by omega
        subst e2; exact slt_as hc.2
    · rename_i hc
      refine ⟨2 * i + 1, rfl, by omega, by omega, by omega, fun j h0 hj hp => ?_⟩
      by_cases e : j = 2 * i + 1
      · subst e; exact slt_irr _
      · have e2 : j = 2 * i + 2 := by omega
        subst e2
        cases hh : slt (hg l (2 * i + 2)) (hg l (2 * i + 1))
        · rfl
        · exact absurd ⟨hj, hh⟩ hc
/-- on the way down -/
structure DnEx (x : Hd) (i : Nat) (l : List Hd) : Prop where
  lt : i < l.length
  rest : ∀ j, 0 < j → j < l.length → j ≠ i → (j - 1) / 2 ≠ i → slt (hg l j) (hg l ((j - 1) / 2)) = false
  above : ∀ j, 0 < j → j < l.length → (j - 1) / 2 = i → 0 < i → slt (hg l j) (hg l ((i - 1) / 2)) = false
  self : 0 < i → slt x (hg l ((i - 1) / 2)) = false
theorem DnEx.start {hs : List Hd} {x : Hd} {n : Nat} (h : HeapOk hs) (hn : n ≤ hs.length) (h0 : 0 < n) : DnEx x 0 (hs.take n) := by
  have hl : (hs.take n).length = n := by simp; omega
  have e : ∀ k, k < n → hg (hs.take n) k = hg hs k := fun k hk => by
    unfold hg; rw [List.getD_eq_getElem?_getD, List.getD_eq_getElem?_getD, List.getElem?_take, if_pos hk]
  refine ⟨by omega, fun j hj0 hj _ _ => ?_, fun j _ _ _ h => absurd h (Nat.lt_irrefl _), fun h => absurd h (Nat.lt_irrefl _)⟩
  rw [hl] at hj
  rw [e _ hj, e _ (by omega)]
  exact h j hj0 (by omega)
theorem DnEx.step {x : Hd} {i k : Nat} {l : List Hd} (h : DnEx x i l) (hk : k < l.length) (hk0 : 0 < k) (hp : (k - 1) / 2 = i) (hm : ∀ j, 0 < j → j < l.length → (j - 1) / 2 = i → slt (hg l j) (hg l k) = false) (hx : slt (hg l k) x = true) : DnEx x k (l.set i (hg l k)) := by
  have hi := h.lt
  refine ⟨by simpa using hk, fun j hj0 hj hne hpp => ?_, fun j hj0 hj hpj _ => ?_, fun _ => ?_⟩
  · rw [List.length_set] at hj
    rw [hg_set hi, hg_set hi]
    by_cases e : j = i
    · subst e; rw [if_pos rfl, if_neg (by omega)]; exact h.above k hk0 hk hp hj0
    · rw [if_neg e]
      by_cases e2 : (j - 1) / 2 = i
      · rw [if_pos e2]; exact hm j hj0 hj e2
      · rw [if_neg e2]; exact h.rest j hj0 hj e e2
  · rw [List.length_set] at hj
    rw [hg_set hi, hg_set hi, hp, if_pos rfl, if_neg (by omega)]
    have := h.rest j hj0 hj (by omega) (by omega)
    rwa [hpj] at this
  · rw [hg_set hi, hp, if_pos rfl]; exact slt_as hx
theorem DnEx.done {x : Hd} {i : Nat} {l : List Hd} (h : DnEx x i l) (hx : ∀ j, 0 < j → j < l.length → (j - 1) / 2 = i → slt (hg l j) x = false) : HeapOk (l.set i x) := by
  have hi := h.lt
  intro j hj0 hj
  rw [List.length_set] at hj
  rw [hg_set hi, hg_set hi]
  by_cases e : j = i
  · subst e; rw [if_pos rfl, if_neg (by omega)]; exact h.self hj0
  · rw [if_neg e]
    by_cases e2 : (j - 1) / 2 = i
    · rw [if_pos e2]; exact hx j hj0 hj e2
    · rw [if_neg e2]; exact h.rest j hj0 hj e e2
/-! ### exact -/
/-- x goes up from place i -/
def hup (x : Hd) (i : Nat) (l : List Hd) : List Hd := if 0 < i ∧ slt x (hg l ((i - 1) / 2)) = true then hup x ((i - 1) / 2) (l.set i (hg l ((i - 1) / 2))) else l.set i x
termination_by i
decreasing_by omega
def hpush (l : List Hd) (x : Hd) : List Hd := hup x l.length (l ++ [x])
theorem hup_go {x : Hd} {i : Nat} {l : List Hd} (h0 : 0 < i) (h : slt x (hg l ((i - 1) / 2)) = true) : hup x i l = hup x ((i - 1) / 2) (l.set i (hg l ((i - 1) / 2))) := by rw [hup, if_pos ⟨h0, h⟩]
theorem hup_end {x : Hd} {i : Nat} {l : List Hd} (h : 0 < i → slt x (hg l ((i - 1) / 2)) = false) : hup x i l = l.set i x := by
  rw [hup, if_neg]; rintro ⟨h0, h1⟩; rw [h h0] at h1; cases h1
theorem hup_len (x : Hd) : ∀ (i : Nat) (l : List Hd), (hup x i l).length = l.length := by
  intro i
  induction i using Nat.strongRecOn with
  | ind i ih =>
    intro l
    by_cases h : 0 < i ∧ slt x (hg l ((i - 1) / 2)) = true
    · rw [hup_go h.1 h.2, ih _ (by omega)]; simp
    · rw [hup, if_neg h]; simp
@[simp] theorem hpush_len (l : List Hd) (x : Hd) : (hpush l x).length = l.length + 1 := by unfold hpush; rw [hup_len]; simp
theorem hup_ok {x : Hd} : ∀ (i : Nat) (l : List Hd), UpEx x i l → HeapOk (hup x i l) ∧ (hup x i l).Perm (l.set i x) := by
  intro i
  induction i using Nat.strongRecOn with
  | ind i ih =>
    intro l hU
    by_cases h : 0 < i ∧ slt x (hg l ((i - 1) / 2)) = true
    · rw [hup_go h.1 h.2]
      obtain ⟨h1, h2⟩ := ih ((i - 1) / 2) (by omega) _ (hU.step h.1 h.2)
      exact ⟨h1, h2.trans (swap_perm hU.lt (by have := hU.lt; omega) (by omega))⟩
    · rw [hup, if_neg h]
      refine ⟨hU.done fun h0 => ?_, List.Perm.refl _⟩
      cases hh : slt x (hg l ((i - 1) / 2))
      · rfl
      · exact absurd ⟨h0, hh⟩ h
theorem hpush_ok {l : List Hd} (h : HeapOk l) (x : Hd) : HeapOk (hpush l x) ∧ (hpush l x).Perm (x :: l) := by
  obtain ⟨h1, h2⟩ := hup_ok (x := x) l.length (l ++ [x]) (UpEx.start h)
  refine ⟨h1, h2.trans ?_⟩
  rw [List.set_append_right _ _ (Nat.le_refl _), Nat.sub_self]
  exact List.perm_append_comm (l₁ := l) (l₂ := [x])
/-- x goes down from place i -/
def hdn (x : Hd) (i : Nat) (l : List Hd) : List Hd := if h : 0 ≤ lst l i ∧ slt (hg l (lst l i).toNat) x = true then hdn x (lst l i).toNat (l.set i (hg l (lst l i).toNat)) else l.set i x
termination_by l.length - i
decreasing_by
  obtain ⟨k, e, h1, h2, h3, _⟩ := lst_some h.1
  rw [e]; simp only [List.length_set, Int.toNat_natCast]; omega
def hpop (l : List Hd) : List Hd := if l.length ≤ 1 then [] else hdn (hg l (l.length - 1)) 0 (l.take (l.length - 1))
theorem hdn_go {x : Hd} {i k : Nat} {l : List Hd} (e : lst l i = (k : Int)) (h : slt (hg l k) x = true) : hdn x i l = hdn x k (l.set i (hg l k)) := by
  rw [hdn, dif_pos ⟨by omega, by rw [e]; exact h⟩, e]; rfl
theorem hdn_end {x : Hd} {i : Nat} {l : List Hd} (h : 0 ≤ lst l i → slt (hg l (lst l i).toNat) x = false) : hdn x i l = l.set i x := by
  rw [hdn, dif_neg]; rintro ⟨h0, h1⟩; rw [h h0] at h1; cases h1
theorem hdn_ok {x : Hd} : ∀ (n i : Nat) (l : List Hd), l.length - i = n → DnEx x i l → HeapOk (hdn x i l) ∧ (hdn x i l).Perm (l.set i x) := by
  intro n
  induction n using Nat.strongRecOn with
  | ind n ih =>
    intro i l hn hD
    by_cases h : 0 ≤ lst l i ∧ slt (hg l (lst l i).toNat) x = true
    · obtain ⟨k, e, h1, h2, h3, h4⟩ := lst_some h.1
      have hk := h.2
      rw [e] at hk
      have hk : slt (hg l k) x = true := hk
      rw [hdn_go e hk]
      have hlt := hD.lt
      obtain ⟨g1, g2⟩ := ih (l.length - k) (by omega) k (l.set i (hg l k)) (by simp) (hD.step h1 h2 h3 h4 hk)
      exact ⟨g1, g2.trans (swap_perm hD.lt h1 (by omega))⟩
    · rw [hdn, dif_neg h]
      refine ⟨hD.done fun j h0 h1 h2 => ?_, List.Perm.refl _⟩
      by_cases hz : 0 ≤ lst l i
      · obtain ⟨k, e, g1, g2, g3, g4⟩ := lst_some hz
        have hk : slt (hg l k) x = false := by
          cases hh : slt (hg l k) x
          · rfl
          · exact absurd ⟨hz, by rw [e]; exact hh⟩ h
        exact slt_ntr (g4 j h0 h1 h2) hk
      · have := lst_none (l := l) (i := i) (by omega); omega
theorem hdn_len (x : Hd) : ∀ (n i : Nat) (l : List Hd), l.length - i = n → (hdn x i l).length = l.length := by
  intro n
  induction n using Nat.strongRecOn with
  | ind n ih =>
    intro i l hn
    by_cases h : 0 ≤ lst l i ∧ slt (hg l (lst l i).toNat) x = true
    · obtain ⟨k, e, h1, h2, h3, _⟩ := lst_some h.1
      have hk := h.2
      rw [e] at hk
      rw [hdn_go e hk, ih (l.length - k) (by omega) k _ (by simp)]; simp
    · rw [hdn, dif_neg h]; simp
@[simp] theorem hpop_len (l : List Hd) : (hpop l).length = l.length - 1 := by
  unfold hpop; split
  · simp; omega
  · rw [hdn_len _ _ _ _ rfl]; simp
theorem hpop_ok {l : List Hd} (h : HeapOk l) (h0 : 0 < l.length) : HeapOk (hpop l) ∧ l.Perm (hg l 0 :: hpop l) := by
  unfold hpop
  by_cases h1 : l.length ≤ 1
  · rw [if_pos h1]
    obtain ⟨a, rfl⟩ := List.length_eq_one_iff.1 (show l.length = 1 by omega)
    exact ⟨HeapOk.nil, List.Perm.refl _⟩
  · rw [if_neg h1]
    obtain ⟨g1, g2⟩ := hdn_ok (x := hg l (l.length - 1)) _ 0 (l.take (l.length - 1)) rfl (DnEx.start h (by omega) (by omega))
    exact ⟨g1, ((g2.cons _).trans (last_perm (by omega) (by omega))).symm⟩
end Go.Cg.Sn
