/- Plain laws of the trace: the order in which edges are told does not matter. No condition. -/
import Derived.Test.YtfmpgdhmfjllnaaTx
namespace Go.Cg.Tr
open Go.Cg

theorem sat_eq (a b : Nat) : sat a b = min (a + b) top := by unfold sat; split <;> omega
theorem comb_comm (s : Bool) (a b : Nat) : comb s a b = comb s b a := by
  unfold comb
  split
  · rw [sat_eq, sat_eq, Nat.add_comm]
  · exact Nat.min_comm a b
theorem comb_swap (s : Bool) (y a b : Nat) : comb s (comb s y a) b = comb s (comb s y b) a := by
  unfold comb
  split
  · simp only [sat_eq]; omega
  · omega
def one (k : Int) (all : List E) (c : Cfg) (e : E) (m : Nat → Option Nat) : Nat → Option Nat := if sends k c.2 e.f then put (summed k) m e.t (msg k (c.1.getD e.f 0) (outs all e.f) e.w) else m
theorem put_swap (s : Bool) (m : Nat → Option Nat) (t x t' x' : Nat) : put s (put s m t x) t' x' = put s (put s m t' x') t x := by
  funext v
  unfold put
  by_cases h : t = t'
  · subst h
    by_cases hv : v = t
    · simp only [if_pos hv, if_true]
      cases m t with
      | none => simp [comb_comm s x x']
      | some y => simp [comb_swap s y x x']
    · simp only [if_neg hv]
  · have h' : ¬ t' = t := fun e => h e.symm
    by_cases hv : v = t
    · subst hv; simp [h, h']
    · by_cases hv' : v = t'
      · subst hv'; simp [h, h']
      · simp [hv, hv']
theorem one_swap (k : Int) (all : List E) (c : Cfg) (e e' : E) (m : Nat → Option Nat) : one k all c e' (one k all c e m) = one k all c e (one k all c e' m) := by
  unfold one
  by_cases h : sends k c.2 e.f = true
  · by_cases h' : sends k c.2 e'.f = true
    · simp only [h, h', if_true]; exact put_swap _ _ _ _ _ _
    · simp only [h, h', if_true, if_false]; rfl
  · by_cases h' : sends k c.2 e'.f = true
    · simp only [h, h', if_true, if_false]; rfl
    · simp only [h, h', if_false]; rfl
theorem came_cons (k : Int) (all : List E) (c : Cfg) (e : E) (l : List E) (m : Nat → Option Nat) : came k all c (e :: l) m = came k all c l (one k all c e m) := rfl
theorem came_perm (k : Int) (all : List E) (c : Cfg) {l l' : List E} (h : l.Perm l') : ∀ m, came k all c l m = came k all c l' m := by
  induction h with
  | nil => intro m; rfl
  | cons e _ ih => intro m; rw [came_cons, came_cons, ih]
  | swap e e' l => intro m; rw [came_cons, came_cons, came_cons, came_cons, one_swap]
  | trans _ _ ih1 ih2 => intro m; rw [ih1, ih2]
theorem came_all (k : Int) {a b : List E} (h : ∀ v, outs a v = outs b v) (c : Cfg) : ∀ (l : List E) (m : Nat → Option Nat), came k a c l m = came k b c l m
  | [], _ => rfl
  | e :: l, m => by
    rw [came_cons, came_cons, show one k a c e m = one k b c e m from by unfold one; rw [h]]
    exact came_all k h c l _
theorem outs_rev (l : List E) (v : Nat) : outs l.reverse v = outs l v := by
  unfold outs
  exact (List.reverse_perm l).countP_eq _
theorem step_rev (k : Int) (l : List E) (c : Cfg) : step k l.reverse c = step k l c := by
  unfold step
  have hn : ∀ v, nexts k l.reverse c v = nexts k l c v := fun v => by
    unfold nexts
    rw [came_all k (outs_rev l) c, came_perm k l c (List.reverse_perm l)]
  simp only [hn]
theorem iter_rev (k : Int) (l : List E) (c : Cfg) : ∀ j, iter k l.reverse j c = iter k l j c
  | 0 => rfl
  | j + 1 => by show step k l.reverse (iter k l.reverse j c) = step k l (iter k l j c); rw [iter_rev k l c j, step_rev]
theorem may_rev (k : Int) (s : Nat) (n : Int) (l : List E) : may k s n l.reverse = may k s n l := by
  unfold may graph
  simp only [List.length_reverse, List.mem_reverse]
theorem order_law (k : Int) (s : Nat) (n : Int) (l : List E) (j : Int) : traceR k s n l.reverse j = traceR k s n l j := by
  unfold traceR
  rw [may_rev, iter_rev]
theorem rev_snoc {l hl : List E} {i : Nat} (h : hl = (l.drop i).reverse) (hi : 0 < i) (hi' : i ≤ l.length) : hl ++ [l.getD (i - 1) e0] = (l.drop (i - 1)).reverse := by
  have e : l.drop (i - 1) = l.getD (i - 1) e0 :: l.drop i := by
    rw [List.drop_eq_getElem_cons (by omega : i - 1 < l.length), List.getD_eq_getElem?_getD, List.getElem?_eq_getElem (by omega : i - 1 < l.length)]
    rw [show i - 1 + 1 = i from by omega]; rfl
  rw [e, List.reverse_cons, h]
end Go.Cg.Tr
