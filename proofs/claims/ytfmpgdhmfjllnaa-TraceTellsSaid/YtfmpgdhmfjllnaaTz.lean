/- Plain laws of the trace that the document's own steps need. No condition. -/
import Derived.Test.YtfmpgdhmfjllnaaTy
namespace Go.Cg.Tr
open Go.Cg

def st1 (k : Int) (s v : Nat) : Nat := if k = 1 ∨ k = 3 then (if v = s then 0 else top) else if k = 2 then v else if k = 4 then 1048576 else 0
def st2 (k : Int) (s v : Nat) : Bool := if k = 1 ∨ k = 3 then decide (v = s) else true
theorem start_st (k : Int) (s n : Nat) : start k s n = ((List.range n).map (st1 k s), (List.range n).map (st2 k s)) := rfl
theorem range_snoc {α : Type} {f : Nat → α} {i : Nat} {x : α} (h : x = f i) : (List.range i).map f ++ [x] = (List.range (i + 1)).map f := by
  rw [List.range_succ, List.map_append, h]; rfl

/-- how many edges leave each vertex, so far -/
def outsR (l : List E) (m i : Nat) : List Int := (List.range m).map fun v => ((outs (l.take i) v : Nat) : Int)
@[simp] theorem len_outsR (l : List E) (m i : Nat) : (outsR l m i).length = m := by simp [outsR]
theorem outsR_at {l : List E} {m i v : Nat} (h : v < m) : (outsR l m i).getD v 0 = ((outs (l.take i) v : Nat) : Int) := getD_range_map _ _ _ _ h
theorem outsR_set {l : List E} {m i : Nat} (h : i < l.length) (hf : (l.getD i e0).f < m) : (outsR l m i).set (l.getD i e0).f ((outsR l m i).getD (l.getD i e0).f 0 + 1) = outsR l m (i + 1) := by
  rw [outsR_at hf]
  refine map_set_range _ _ _ _ _ ?_ fun v hv => ?_
  · rw [outs_snoc h]; simp
  · rw [outs_snoc h, if_neg hv, Nat.add_zero]
theorem outsR_zero (l : List E) (m : Nat) : List.replicate m 0 = outsR l m 0 := by
  rw [← map_const_range]; rfl
theorem outsR_all {l : List E} {m i v : Nat} (h : l.length ≤ i) (hv : v < m) : (outsR l m i).getD v 0 = ((outs l v : Nat) : Int) := by
  rw [outsR_at hv, List.take_of_length_le h]

/-- what has come to each vertex, so far -/
def sumR (k : Int) (es : List E) (c : Cfg) (m i : Nat) : List Nat := (List.range m).map fun v => (came k es c (es.take i) (fun _ => none) v).getD 0
def anyR (k : Int) (es : List E) (c : Cfg) (m i : Nat) : List Bool := (List.range m).map fun v => (came k es c (es.take i) (fun _ => none) v).isSome
@[simp] theorem len_sumR (k : Int) (es : List E) (c : Cfg) (m i : Nat) : (sumR k es c m i).length = m := by simp [sumR]
@[simp] theorem len_anyR (k : Int) (es : List E) (c : Cfg) (m i : Nat) : (anyR k es c m i).length = m := by simp [anyR]
theorem sumR_at {k : Int} {es : List E} {c : Cfg} {m i v : Nat} (h : v < m) : (sumR k es c m i).getD v 0 = (came k es c (es.take i) (fun _ => none) v).getD 0 := getD_range_map _ _ _ _ h
theorem anyR_at {k : Int} {es : List E} {c : Cfg} {m i v : Nat} (h : v < m) : (anyR k es c m i).getD v false = (came k es c (es.take i) (fun _ => none) v).isSome := getD_range_map _ _ _ _ h
theorem sumR_zero (k : Int) (es : List E) (c : Cfg) (m : Nat) : List.replicate m 0 = sumR k es c m 0 := by rw [← map_const_range]; rfl
theorem anyR_zero (k : Int) (es : List E) (c : Cfg) (m : Nat) : List.replicate m false = anyR k es c m 0 := by rw [← map_const_range]; rfl
theorem sumR_no {k : Int} {es : List E} {c : Cfg} {m i : Nat} (h : i < es.length) (hs : sends k c.2 (es.getD i e0).f = false) : sumR k es c m i = sumR k es c m (i + 1) ∧ anyR k es c m i = anyR k es c m (i + 1) := by
  unfold sumR anyR
  rw [take_snoc h]
  have e : ∀ v, came k es c (es.take i ++ [es.getD i e0]) (fun _ => none) v = came k es c (es.take i) (fun _ => none) v := fun v => by
    rw [came_append, if_neg (by rw [hs]; decide)]
  simp only [e, and_self]
theorem sumR_yes {k : Int} {es : List E} {c : Cfg} {m i : Nat} (h : i < es.length) (ht : (es.getD i e0).t < m) (hs : sends k c.2 (es.getD i e0).f = true) {o : Int} (ho : o = ((outs es (es.getD i e0).f : Nat) : Int)) {x : Nat}
    (hx : x = if (anyR k es c m i).getD (es.getD i e0).t false = true then comb (summed k) ((sumR k es c m i).getD (es.getD i e0).t 0) (msg k (c.1.getD (es.getD i e0).f 0) o (es.getD i e0).w) else msg k (c.1.getD (es.getD i e0).f 0) o (es.getD i e0).w) :
    (sumR k es c m i).set (es.getD i e0).t x = sumR k es c m (i + 1) ∧ (anyR k es c m i).set (es.getD i e0).t true = anyR k es c m (i + 1) := by
  have e : ∀ v, came k es c (es.take (i + 1)) (fun _ => none) v = if v = (es.getD i e0).t then some x else came k es c (es.take i) (fun _ => none) v := fun v => by
    rw [take_snoc h, came_append, if_pos hs]
    unfold put
    rw [anyR_at ht, sumR_at ht] at hx
    by_cases hv : v = (es.getD i e0).t
    · rw [if_pos hv, if_pos hv, hx, ho]
      cases came k es c (es.take i) (fun _ => none) (es.getD i e0).t with
      | none => simp
      | some y => simp
    · rw [if_neg hv, if_neg hv]
  unfold sumR anyR
  refine ⟨map_set_range _ _ _ _ _ ?_ fun v hv => ?_, map_set_range _ _ _ _ _ ?_ fun v hv => ?_⟩
  · rw [e, if_pos rfl]; rfl
  · rw [e, if_neg hv]
  · rw [e, if_pos rfl]; rfl
  · rw [e, if_neg hv]
theorem nextsR {k : Int} {es : List E} {vals : List Nat} {live : List Bool} {m i v : Nat} (h : es.length ≤ i) (hv : v < m) : nxt k (vals.getD v 0) ((sumR k es (vals, live) m i).getD v 0) ((anyR k es (vals, live) m i).getD v false) = nexts k es (vals, live) v := by
  rw [sumR_at hv, anyR_at hv, List.take_of_length_le h]; rfl
theorem sendsI_eq {k : Int} {live : List Bool} {f : Nat} (hq : quiet live = false) (hf : f < live.length) : sendsI k live (f : Int) = sends k live f := by
  unfold sendsI sends
  rw [if_neg (by omega)]
  by_cases hk : k = 4
  · simp [hk, hq]
  · simp [-List.getD_eq_getElem?_getD, hk]

theorem came_top {k : Int} {all : List E} {c : Cfg} (hv : ∀ x ∈ c.1, x ≤ 18446744073709551615) : ∀ (l : List E) (m : Nat → Option Nat), (∀ v x, m v = some x → x ≤ 18446744073709551615) → ∀ v x, came k all c l m v = some x → x ≤ 18446744073709551615 := by
  intro l
  induction l with
  | nil => exact fun m h => h
  | cons e l ih =>
    intro m h
    refine ih _ ?_
    split
    · intro v x hx
      unfold put at hx
      split at hx
      · cases hx
        have hm := msg_le (k := k) (getD_top hv e.f) (outs all e.f) e.w
        split
        · exact comb_le (h _ _ (by assumption))
        · exact hm
      · exact h v x hx
    · exact h
theorem sumR_top {k : Int} {es : List E} {c : Cfg} {m i v : Nat} (hv : ∀ x ∈ c.1, x ≤ 18446744073709551615) : (sumR k es c m i).getD v 0 ≤ 18446744073709551615 := by
  refine getD_top ?_ v
  intro x hx
  simp only [sumR, List.mem_map] at hx
  obtain ⟨u, _, rfl⟩ := hx
  cases hq : came k es c (es.take i) (fun _ => none) u with
  | none => exact Nat.zero_le _
  | some y => exact came_top hv _ _ (fun _ _ h => by cases h) u y hq
end Go.Cg.Tr
