/- Plain laws of the trace that walks need. No condition. -/
import Derived.Test.YtfmpgdhmfjllnaaMp
import Derived.Test.YtfmpgdhmfjllnaaTrLaws
namespace Go.Cg.Tr
open Go.Cg

theorem startR_no {k : Int} {s : Nat} {n : Int} {es : List E} (h : may k s n es = false) : startR k s n es = ([], []) := by unfold startR; rw [h]; rfl
theorem startR_yes {k : Int} {s m : Nat} {es : List E} (h : may k s m es = true) : startR k s m es = start k s m := by unfold startR; rw [h]; rfl
theorem map_set_range {α : Type} (f g : Nat → α) (m s : Nat) (x : α) (hx : g s = x) (h : ∀ v, v ≠ s → g v = f v) : ((List.range m).map f).set s x = (List.range m).map g := by
  apply List.ext_getElem?
  intro i
  simp only [List.getElem?_set, List.getElem?_map, List.length_map, List.length_range]
  by_cases hi : s = i
  · subst hi
    by_cases hl : s < m
    · simp [hl, hx]
    · simp [hl]
  · rw [if_neg hi]
    by_cases hl : i < m
    · simp [hl, h i (fun e => hi e.symm)]
    · simp [hl]
theorem startR_far {k : Int} {s m : Nat} {es : List E} (h : may k s m es = true) (hk : k = 1 ∨ k = 3) : startR k s m es = ((fill (sv k) (List.replicate m 0) m).set s 0, (fill (fun _ => sl k) (List.replicate m true) m).set s true) := by
  rw [startR_yes h, fill_full (by simp), fill_full (by simp)]
  unfold start
  refine Prod.ext ?_ ?_
  · exact (map_set_range _ _ _ _ _ (by simp [hk]) (fun v hv => by simp [hk, hv, sv])).symm
  · exact (map_set_range _ _ _ _ _ (by simp [hk]) (fun v hv => by simp [hk, hv, sl])).symm
theorem startR_near {k : Int} {s m : Nat} {es : List E} (h : may k s m es = true) (hk : ¬ (k = 1 ∨ k = 3)) : startR k s m es = (fill (sv k) (List.replicate m 0) m, fill (fun _ => sl k) (List.replicate m true) m) := by
  rw [startR_yes h, fill_full (by simp), fill_full (by simp)]
  unfold start
  have e : sv k = fun v => if k = 2 then v else if k = 4 then 1048576 else 0 := by funext v; simp [sv, hk]
  rw [e]
  simp only [sl, hk, if_false, decide_false, Bool.not_false]

/-! ### a step -/
theorem take_snoc {es : List E} {i : Nat} (h : i < es.length) : es.take (i + 1) = es.take i ++ [es.getD i e0] := by
  rw [List.getD_eq_getElem?_getD, List.getElem?_eq_getElem h, Option.getD_some, List.take_append_getElem]
theorem outs_snoc {es : List E} {i : Nat} (h : i < es.length) (v : Nat) : outs (es.take (i + 1)) v = outs (es.take i) v + (if v = (es.getD i e0).f then 1 else 0) := by
  rw [take_snoc h]
  unfold outs
  rw [List.countP_append]
  by_cases hv : v = (es.getD i e0).f
  · simp [-List.getD_eq_getElem?_getD, hv]
  · have : ¬ (es.getD i e0).f = v := fun e => hv e.symm
    simp [-List.getD_eq_getElem?_getD, hv, this]
theorem outs_le (es : List E) (v : Nat) : outs es v ≤ es.length := List.countP_le_length
theorem outs_put {lo : List (Nat × Int)} {es : List E} {i : Nat} (h : i < es.length) (H : ∀ v, (tlook lo v).getD 0 = ((outs (es.take i) v : Nat) : Int)) (v : Nat) :
    (tlook (tupd lo (es.getD i e0).f ((tlook lo (es.getD i e0).f).getD 0 + 1)) v).getD 0 = ((outs (es.take (i + 1)) v : Nat) : Int) := by
  rw [tlook_tupd, outs_snoc h]
  by_cases hv : v = (es.getD i e0).f
  · rw [if_pos hv, if_pos hv, hv, Option.getD_some, H]; omega
  · rw [if_neg hv, if_neg hv, H]; omega
theorem came_append (k : Int) (all : List E) (c : Cfg) (e : E) : ∀ (l : List E) (m : Nat → Option Nat), came k all c (l ++ [e]) m =
    (if sends k c.2 e.f then put (summed k) (came k all c l m) e.t (msg k (c.1.getD e.f 0) (outs all e.f) e.w) else came k all c l m)
  | [], m => rfl
  | x :: l, m => by
    show came k all c (l ++ [e]) _ = _
    rw [came_append k all c e l]; rfl
theorem came_no {k : Int} {c : Cfg} {es : List E} {lc : List (Nat × Nat)} {i : Nat} (h : i < es.length) (H : ∀ v, tlook lc v = came k es c (es.take i) (fun _ => none) v) (hs : sends k c.2 (es.getD i e0).f = false) (v : Nat) :
    tlook lc v = came k es c (es.take (i + 1)) (fun _ => none) v := by
  rw [take_snoc h, came_append, if_neg (by rw [hs]; decide)]; exact H v
theorem came_yes {k : Int} {c : Cfg} {es : List E} {lc : List (Nat × Nat)} {i : Nat} (h : i < es.length) (H : ∀ v, tlook lc v = came k es c (es.take i) (fun _ => none) v) (hs : sends k c.2 (es.getD i e0).f = true) {o : Int} (ho : o = ((outs es (es.getD i e0).f : Nat) : Int)) {x : Nat}
    (hx : x = if (tlook lc (es.getD i e0).t).isSome then comb (summed k) ((tlook lc (es.getD i e0).t).getD 0) (msg k (c.1.getD (es.getD i e0).f 0) o (es.getD i e0).w) else msg k (c.1.getD (es.getD i e0).f 0) o (es.getD i e0).w) (v : Nat) :
    tlook (tupd lc (es.getD i e0).t x) v = came k es c (es.take (i + 1)) (fun _ => none) v := by
  rw [take_snoc h, came_append, if_pos hs, tlook_tupd]
  unfold put
  rw [← H, ← H, hx, ho]
  cases hq : tlook lc (es.getD i e0).t with
  | none => simp
  | some y => simp
theorem tupd_top {N : Nat} {l : List (Nat × Nat)} (H : ∀ v x, tlook l v = some x → x ≤ N) {t y : Nat} (hy : y ≤ N) (v x : Nat) (h : tlook (tupd l t y) v = some x) : x ≤ N := by
  rw [tlook_tupd] at h
  split at h
  · cases h; exact hy
  · exact H v x h
theorem tlook_top {N : Nat} {l : List (Nat × Nat)} (H : ∀ v x, tlook l v = some x → x ≤ N) (v : Nat) : (tlook l v).getD 0 ≤ N := by
  cases hq : tlook l v with
  | none => exact Nat.zero_le _
  | some x => exact H v x hq
theorem getD_top {N : Nat} {l : List Nat} (H : ∀ x ∈ l, x ≤ N) (v : Nat) : l.getD v 0 ≤ N := by
  rw [List.getD_eq_getElem?_getD]
  cases hq : l[v]? with
  | none => exact Nat.zero_le _
  | some x => exact H x (List.mem_of_getElem? hq)
theorem sat_le (a b : Nat) : sat a b ≤ 18446744073709551615 := by
  unfold sat
  have ht : top = 18446744073709551615 := rfl
  split <;> omega
theorem comb_le {s : Bool} {a b : Nat} (ha : a ≤ 18446744073709551615) : comb s a b ≤ 18446744073709551615 := by
  unfold comb
  split
  · exact sat_le _ _
  · omega
theorem msg_le {k : Int} {x : Nat} (hx : x ≤ 18446744073709551615) (o : Int) (w : Nat) : msg k x o w ≤ 18446744073709551615 := by
  unfold msg
  have := sat_le x 1
  have := sat_le x w
  have := Nat.div_le_self x o.toNat
  repeat' split
  all_goals omega
theorem summed_eq (k : Int) : ((if summed k = true then (1 : Int) else 2) == 1) = summed k := by cases summed k <;> rfl
theorem sends_no {k : Int} {live : List Bool} {f : Nat} (h : (!decide (k = 4) && !live.getD f false) = true) : sends k live f = false := by
  simp only [Bool.and_eq_true, Bool.not_eq_true', decide_eq_false_iff_not] at h
  simp only [sends, h.2, Bool.or_false, beq_eq_false_iff_ne]
  exact h.1
theorem sends_yes {k : Int} {live : List Bool} {f : Nat} (h : (!decide (k = 4) && !live.getD f false) = false) : sends k live f = true := by
  unfold sends
  by_cases hk : k = 4
  · simp [hk]
  · simp [-List.getD_eq_getElem?_getD, hk] at h ⊢; exact h
theorem step_fill {k : Int} {es : List E} {vals : List Nat} {live : List Bool} (hq : quiet live = false) (hl : live.length = vals.length) :
    step k es (vals, live) = (fill (fun v => (nexts k es (vals, live) v).1) vals vals.length, fill (fun v => (nexts k es (vals, live) v).2) live vals.length) := by
  rw [fill_full (Nat.le_refl _), fill_full (by omega)]
  unfold step
  rw [if_neg (by simp [hq])]
theorem nexts_eq {k : Int} {es : List E} {vals : List Nat} {live : List Bool} {lc : List (Nat × Nat)} (H : ∀ v, tlook lc v = came k es (vals, live) es (fun _ => none) v) (v : Nat) :
    nxt k (vals.getD v 0) ((tlook lc v).getD 0) (tlook lc v).isSome = nexts k es (vals, live) v := by rw [H]; rfl
theorem step_top {k : Int} {es : List E} {c : Cfg} (hv : ∀ x ∈ c.1, x ≤ 18446744073709551615) : ∀ x ∈ (step k es c).1, x ≤ 18446744073709551615 := by
  have hc : ∀ (l : List E) (m : Nat → Option Nat), (∀ v x, m v = some x → x ≤ 18446744073709551615) → ∀ v x, came k es c l m v = some x → x ≤ 18446744073709551615 := by
    intro l
    induction l with
    | nil => exact fun m h => h
    | cons e l ih =>
      intro m h
      refine ih _ ?_
      split
      · intro v x hx
        unfold put at hx
        split at hx
        · cases hx
          have hm := msg_le (k := k) (getD_top hv e.f) (outs es e.f) e.w
          split
          · exact comb_le (h _ _ (by assumption))
          · exact hm
        · exact h v x hx
      · exact h
  intro x hx
  unfold step at hx
  split at hx
  · exact hv x hx
  · simp only [List.mem_map] at hx
    obtain ⟨v, _, rfl⟩ := hx
    unfold nexts
    have h1 := getD_top hv v
    have h2 : (came k es c es (fun _ => none) v).getD 0 ≤ 18446744073709551615 := by
      cases hq : came k es c es (fun _ => none) v with
      | none => exact Nat.zero_le _
      | some y => exact hc es _ (fun _ _ h => by cases h) v y hq
    generalize (came k es c es (fun _ => none) v).getD 0 = y at *
    generalize (came k es c es (fun _ => none) v).isSome = b at *
    unfold nxt
    cases b <;> simp only <;> (repeat' split) <;> simp only <;> first | omega | simp_all

theorem start_top_all (k : Int) (s n : Nat) (hn : n ≤ 1048576) : ∀ x ∈ (start k s n).1, x ≤ 18446744073709551615 := by
  intro x hx
  have ht : top = 18446744073709551615 := rfl
  simp only [start, List.mem_map, List.mem_range] at hx
  obtain ⟨v, hv, rfl⟩ := hx
  repeat' split
  all_goals omega
theorem iter_top {k : Int} {es : List E} {c : Cfg} (hv : ∀ x ∈ c.1, x ≤ 18446744073709551615) : ∀ d, ∀ x ∈ (iter k es d c).1, x ≤ 18446744073709551615
  | 0 => hv
  | d + 1 => step_top (iter_top hv d)
/-- what a step asks of a config on the way -/
theorem iter_side {k : Int} {s m : Nat} {es : List E} (h : may k s m es = true) (d : Nat) : (∀ e ∈ es, e.f < (iter k es d (start k s m)).1.length ∧ e.t < (iter k es d (start k s m)).1.length) ∧
    (iter k es d (start k s m)).2.length = (iter k es d (start k s m)).1.length ∧ (iter k es d (start k s m)).1.length = m ∧ m ≤ 1048576 ∧ es.length ≤ 1048576 ∧ ∀ x ∈ (iter k es d (start k s m)).1, x ≤ 18446744073709551615 := by
  obtain ⟨h0, h1, h2, h3, _⟩ := may_facts h
  obtain ⟨a, b⟩ := len_start k s m
  obtain ⟨a', b'⟩ := len_iter (k := k) (es := es) a b d
  refine ⟨fun e he => ?_, by rw [a', b'], a', by omega, h2, iter_top (start_top_all k s m (by omega)) d⟩
  have := h3 e he
  rw [a']; omega

theorem list_same {α : Type} (d : α) {l l' : List α} (h : l.length = l'.length) (he : ∀ j, j < l.length → l.getD j d = l'.getD j d) : l = l' := by
  apply List.ext_getElem h
  intro i h1 h2
  have := he i h1
  rwa [List.getD_eq_getElem?_getD, List.getD_eq_getElem?_getD, List.getElem?_eq_getElem h1, List.getElem?_eq_getElem h2] at this

/-! ### what the laws say, plainly -/
structure FewOk (es : List E) (m : Nat) (l : List E) : Prop where
  hm : m ≤ 60
  hl : l.length ≤ 40
  hg : graph m l = true
  sub : ∀ e ∈ l, e ∈ es
theorem FewOk.edges {es l : List E} {m : Nat} (h : FewOk es m l) : ∀ e ∈ l, e.f < m ∧ e.t < m := by
  intro e he
  have hg := h.hg
  unfold graph at hg
  rw [decide_eq_true_eq] at hg
  have := hg.2.2.2 e he
  omega
theorem FewOk.may {es l : List E} {m : Nat} (h : FewOk es m l) {k : Int} {s : Nat} (hk : 1 ≤ k ∧ k ≤ 5) (hs : (k = 1 ∨ k = 3) → s < m) : may k s m l = true := by
  have h1 := h.hm
  unfold Tr.may right
  rw [h.hg, Bool.true_and, decide_eq_true_eq]
  exact ⟨hk.1, hk.2, by omega, by omega, fun h' => by have := hs h'; omega⟩
theorem traceR_yes {k : Int} {s m : Nat} {es : List E} {j : Nat} (h : may k s m es = true) : traceR k s m es j = iter k es j (start k s m) := by
  unfold traceR; rw [h]; simp
/-- how many of the first i lead to v -/
def ind (l : List E) (i v : Nat) : Nat := (l.take i).countP (fun e => e.t == v)
theorem ind_snoc {l : List E} {i : Nat} (h : i < l.length) (v : Nat) : ind l (i + 1) v = ind l i v + (if (l.getD i e0).t = v then 1 else 0) := by
  unfold ind
  rw [take_snoc h, List.countP_append]
  by_cases hv : (l.getD i e0).t = v
  · simp [-List.getD_eq_getElem?_getD, hv]
  · simp [-List.getD_eq_getElem?_getD, hv]
theorem ind_le (l : List E) (i v : Nat) : ind l i v ≤ l.length := by
  unfold ind
  have := List.countP_le_length (p := fun e : E => e.t == v) (l := l.take i)
  simp only [List.length_take] at this; omega
theorem ind_all {l : List E} {i : Nat} (h : l.length ≤ i) (v : Nat) : ind l i v = l.countP (fun e => e.t == v) := by unfold ind; rw [List.take_of_length_le h]

theorem came5 (all : List E) (c : Cfg) : ∀ (l : List E) (m : Nat → Option Nat) (v : Nat), l.length ≤ 1048576 → (∀ e ∈ l, c.2.getD e.f false = true) → (∀ v x, m v = some x → x + l.length ≤ 18446744073709551615) → (came 5 all c l m v).getD 0 = (m v).getD 0 + l.countP (fun e => e.t == v)
  | [], m, v, _, _, _ => by simp [came]
  | e :: l, m, v, hl, hs, hb => by
    simp only [List.length_cons] at hl
    unfold came
    have h5 : sends 5 c.2 e.f = true := by unfold sends; rw [hs e (by simp)]; simp
    have ht : top = 18446744073709551615 := rfl
    rw [if_pos h5]
    have hput : ∀ v', put (summed 5) m e.t (msg 5 (c.1.getD e.f 0) (outs all e.f) e.w) v' = if v' = e.t then some ((m e.t).getD 0 + 1) else m v' := by
      intro v'
      unfold put
      by_cases hv : v' = e.t
      · rw [if_pos hv, if_pos hv]
        cases hm : m e.t with
        | none => simp [msg]
        | some y =>
          have := hb e.t y hm
          simp only [List.length_cons] at this
          have hle : y + 1 ≤ top := by omega
          simp [msg, comb, sat, summed, hle]
      · rw [if_neg hv, if_neg hv]
    rw [came5 all c l _ v (by omega) (fun e' he' => hs e' (by simp [he'])) (fun v' x hx => by
      rw [hput] at hx
      split at hx
      · cases hx
        cases hm : m e.t with
        | none => simp only [Option.getD_none]; omega
        | some y => have := hb e.t y hm; simp only [List.length_cons] at this; simp only [Option.getD_some]; omega
      · have := hb v' x hx; simp only [List.length_cons] at this; omega), hput]
    by_cases hv : v = e.t
    · rw [if_pos hv, hv]; simp; omega
    · have : ¬ e.t = v := fun h => hv h.symm
      rw [if_neg hv]; simp [this]

theorem nxt5_eq (x : Nat) (o : Option Nat) : nxt 5 x (o.getD 0) o.isSome = (o.getD 0, false) := by
  rw [nxt5 rfl]; cases o <;> simp
theorem start5_live (m v : Nat) (h : v < m) : (start 5 0 m).2.getD v false = true := by
  simp only [start]
  rw [getD_range_map _ _ _ _ h]; simp
theorem degree {es l : List E} {m : Nat} (h : FewOk es m l) : may 5 0 m l = true ∧ (traceR 5 0 m l 1).1.length = m ∧ quiet (traceR 5 0 m l 1).2 = true ∧ traceR 5 0 m l 7 = traceR 5 0 m l 1 ∧ ∀ v, v < m → (traceR 5 0 m l 1).1.getD v 0 = l.countP (fun e => e.t == v) := by
  have hmay : may 5 0 m l = true := h.may ⟨by decide, by decide⟩ (fun h => by rcases h with h | h <;> cases h)
  have e1 : traceR 5 0 m l 1 = iter 5 l 1 (start 5 0 m) := traceR_yes (j := 1) hmay
  have e7 : traceR 5 0 m l 7 = iter 5 l (1 + 6) (start 5 0 m) := traceR_yes (j := 7) hmay
  obtain ⟨a, b⟩ := len_start 5 0 m
  have hlen := (len_iter (k := 5) (es := l) a b 1).1
  have hes := h.edges
  have hl := h.hl
  have hcame : ∀ v, (came 5 l (start 5 0 m) l (fun _ => none) v).getD 0 = l.countP (fun e => e.t == v) := fun v => by
    rw [came5 l (start 5 0 m) l _ v (by omega) (fun e he => start5_live m _ (hes e he).1) (fun _ _ h => by cases h)]; simp
  have hs : quiet (start 5 0 m).2 = false → step 5 l (start 5 0 m) = ((List.range m).map fun v => l.countP (fun e => e.t == v), (List.range m).map fun _ => false) := by
    intro hq
    unfold step
    rw [if_neg (by simp [hq]), a]
    have hn : ∀ v, nexts 5 l (start 5 0 m) v = (l.countP (fun e => e.t == v), false) := fun v => by unfold nexts; rw [nxt5_eq, hcame]
    simp only [hn]
  have hq : quiet (iter 5 l 1 (start 5 0 m)).2 = true := by
    show quiet (step 5 l (start 5 0 m)).2 = true
    cases hq0 : quiet (start 5 0 m).2 with
    | true => rw [step_quiet hq0]; exact hq0
    | false =>
      rw [hs hq0, quiet_iff]
      intro v
      by_cases hv : v < m
      · rw [getD_range_map _ _ _ _ hv]
      · rw [getD_far _ _ _ (by simp; omega)]
  refine ⟨hmay, by rw [e1]; exact hlen, by rw [e1]; exact hq, by rw [e7, e1]; exact iter_stays hq 6, fun v hv => ?_⟩
  rw [e1]
  show (step 5 l (start 5 0 m)).1.getD v 0 = _
  cases hq0 : quiet (start 5 0 m).2 with
  | true => rw [quiet_iff] at hq0; have := hq0 v; rw [start5_live m v hv] at this; cases this
  | false => rw [hs hq0, getD_range_map _ _ _ _ hv]

theorem getD_dflt {α : Type} {l : List α} {v : Nat} (d d' : α) (h : v < l.length) : l.getD v d = l.getD v d' := by
  rw [List.getD_eq_getElem?_getD, List.getD_eq_getElem?_getD, List.getElem?_eq_getElem h]; rfl

/-! ### Hops -/
theorem hops_law {es l : List E} {m s : Nat} (h : FewOk es m l) (hs : s < m) : may 1 s m l = true ∧ (traceR 1 s m l ((m + 1 : Nat) : Int)).1.length = m ∧ quiet (traceR 1 s m l ((m + 1 : Nat) : Int)).2 = true ∧ (∀ x ∈ (traceR 1 s m l ((m + 1 : Nat) : Int)).1, x ≤ 18446744073709551615) ∧
    ∀ v, v < m → ((far l s m m).getD v 0 < 0 → (traceR 1 s m l ((m + 1 : Nat) : Int)).1.getD v 0 = 18446744073709551615) ∧ (0 ≤ (far l s m m).getD v 0 → (far l s m m).getD v 0 = ((traceR 1 s m l ((m + 1 : Nat) : Int)).1.getD v 0 : Int)) := by
  have hmay := h.may (k := 1) (s := s) ⟨by decide, by decide⟩ (fun _ => hs)
  have ht : top = 18446744073709551615 := rfl
  have hm := h.hm
  have e : traceR 1 s m l ((m + 1 : Nat) : Int) = trace 1 l (m + 1) (start 1 s m) := by rw [traceR_yes hmay, trace_eq]
  rw [e]
  obtain ⟨a, b⟩ := len_start 1 s m
  refine ⟨hmay, by rw [trace_eq]; exact (len_iter a b _).1, quiet_trace least1 h.edges (by omega) _ (by omega), by rw [trace_eq]; exact iter_top (start_top_all 1 s m (by omega)) _, fun v hv => ?_⟩
  rw [getD_dflt 0 (-1) (by rw [len_far]; exact hv)]
  exact hops hs h.edges (by omega) v hv
theorem farRound_append (k : Nat) (e : E) : ∀ (l : List E) (f : List Int), farRound k (l ++ [e]) f = if (farRound k l f).getD e.f (-1) = (k : Int) ∧ (farRound k l f).getD e.t (-1) < 0 then (farRound k l f).set e.t ((k : Int) + 1) else farRound k l f
  | [], f => rfl
  | x :: l, f => by
    show farRound k (l ++ [e]) _ = _
    rw [farRound_append k e l]; rfl
theorem farRound_yes {l : List E} {i k : Nat} {f : List Int} (h : i < l.length) (hf : (l.getD i e0).f < f.length) (ht : (l.getD i e0).t < f.length) (h1 : (farRound k (l.take i) f).getD (l.getD i e0).f 0 = (k : Int)) (h2 : (farRound k (l.take i) f).getD (l.getD i e0).t 0 < 0) :
    (farRound k (l.take i) f).set (l.getD i e0).t ((k : Int) + 1) = farRound k (l.take (i + 1)) f := by
  rw [getD_dflt 0 (-1) (by rw [len_farRound]; exact hf)] at h1
  rw [getD_dflt 0 (-1) (by rw [len_farRound]; exact ht)] at h2
  rw [take_snoc h, farRound_append, if_pos ⟨h1, h2⟩]
theorem farRound_no {l : List E} {i k : Nat} {f : List Int} (h : i < l.length) (hf : (l.getD i e0).f < f.length) (ht : (l.getD i e0).t < f.length) (hn : ¬ ((farRound k (l.take i) f).getD (l.getD i e0).f 0 = (k : Int) ∧ (farRound k (l.take i) f).getD (l.getD i e0).t 0 < 0)) :
    farRound k (l.take i) f = farRound k (l.take (i + 1)) f := by
  rw [getD_dflt 0 (-1) (by rw [len_farRound]; exact hf), getD_dflt 0 (-1) (by rw [len_farRound]; exact ht)] at hn
  rw [take_snoc h, farRound_append, if_neg hn]
theorem map_const_range {α : Type} (x : α) (m : Nat) : (List.range m).map (fun _ => x) = List.replicate m x := by
  apply List.ext_getElem?
  intro i
  by_cases h : i < m
  · simp [h]
  · simp [h]
theorem far_zero (l : List E) (s m : Nat) : (fill (fun _ => (-1 : Int)) (List.replicate m 0) m).set s 0 = far l s m 0 := by
  rw [fill_full (by simp), map_const_range]; rfl
end Go.Cg.Tr
