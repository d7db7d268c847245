/- What Hops, Least, Paths and Degree come to, in plain words. No condition. -/
import Derived.Test.YtfmpgdhmfjllnaaTr
namespace Go.Cg.Tr

theorem getD_set {α : Type} (l : List α) (i v : Nat) (x d : α) (hi : i < l.length) : (l.set i x).getD v d = if v = i then x else l.getD v d := by
  rw [List.getD_eq_getElem?_getD, List.getD_eq_getElem?_getD, List.getElem?_set]
  by_cases h : i = v
  · subst h; simp [hi]
  · rw [if_neg h, if_neg (fun e => h e.symm)]

/-! ### Hops -/
def farRound (k : Nat) : List E → List Int → List Int
  | [], far => far
  | e :: es, far => farRound k es (if far.getD e.f (-1) = (k : Int) ∧ far.getD e.t (-1) < 0 then far.set e.t ((k : Int) + 1) else far)
def far (es : List E) (s n : Nat) : Nat → List Int
  | 0 => (List.replicate n (-1)).set s 0
  | k + 1 => farRound k es (far es s n k)

theorem len_farRound (k : Nat) : ∀ (es : List E) (far : List Int), (farRound k es far).length = far.length
  | [], _ => rfl
  | e :: es, far => by rw [farRound, len_farRound k es]; split <;> simp
theorem len_far (es : List E) (s n : Nat) : ∀ k, (far es s n k).length = n
  | 0 => by simp [far]
  | k + 1 => by rw [far, len_farRound, len_far es s n k]

theorem farRound_old (k : Nat) : ∀ (es : List E) (far : List Int) (v : Nat), (∀ e ∈ es, e.t < far.length) → 0 ≤ far.getD v (-1) → (farRound k es far).getD v (-1) = far.getD v (-1)
  | [], _, _, _, _ => rfl
  | e :: es, far, v, hes, h => by
    rw [farRound]
    split
    · rename_i hc
      have ht := hes e (by simp)
      have e1 : (far.set e.t ((k : Int) + 1)).getD v (-1) = far.getD v (-1) := by
        rw [getD_set _ _ _ _ _ ht, if_neg]; intro e'; subst e'; omega
      rw [farRound_old k es _ v (fun e' he' => by simpa using hes e' (by simp [he'])) (by rw [e1]; exact h), e1]
    · exact farRound_old k es far v (fun e' he' => hes e' (by simp [he'])) h

/-- a round: who was not reached is, if an edge leads there from one that was reached just now -/
theorem farRound_new (k : Nat) : ∀ (es : List E) (far : List Int) (v : Nat), (∀ e ∈ es, e.t < far.length) → far.getD v (-1) < 0 →
    ((∃ e ∈ es, e.t = v ∧ far.getD e.f (-1) = (k : Int)) → (farRound k es far).getD v (-1) = (k : Int) + 1) ∧ ((∀ e ∈ es, e.t = v → far.getD e.f (-1) ≠ (k : Int)) → (farRound k es far).getD v (-1) = far.getD v (-1))
  | [], _, _, _, _ => ⟨fun ⟨_, h, _⟩ => by simp at h, fun _ => rfl⟩
  | e :: es, far, v, hes, h => by
    have ht := hes e (by simp)
    rw [farRound]
    by_cases hc : far.getD e.f (-1) = (k : Int) ∧ far.getD e.t (-1) < 0
    · rw [if_pos hc]
      by_cases hv : e.t = v
      · subst hv
        have e1 : (far.set e.t ((k : Int) + 1)).getD e.t (-1) = (k : Int) + 1 := by rw [getD_set _ _ _ _ _ ht, if_pos rfl]
        have hold := farRound_old k es (far.set e.t ((k : Int) + 1)) e.t (fun e' he' => by simpa using hes e' (by simp [he'])) (by rw [e1]; omega)
        rw [hold, e1]
        exact ⟨fun _ => rfl, fun hno => absurd hc.1 (hno e (by simp) rfl)⟩
      · have e1 : (far.set e.t ((k : Int) + 1)).getD v (-1) = far.getD v (-1) := by rw [getD_set _ _ _ _ _ ht, if_neg (fun e' => hv e'.symm)]
        have hk : ∀ u, ((far.set e.t ((k : Int) + 1)).getD u (-1) = (k : Int)) ↔ far.getD u (-1) = (k : Int) := by
          intro u
          rw [getD_set _ _ _ _ _ ht]
          split
          · rename_i hu; subst hu; constructor <;> intro hh <;> omega
          · exact Iff.rfl
        obtain ⟨r1, r2⟩ := farRound_new k es (far.set e.t ((k : Int) + 1)) v (fun e' he' => by simpa using hes e' (by simp [he'])) (by rw [e1]; exact h)
        refine ⟨fun ⟨e', he', h1, h2⟩ => ?_, fun hno => ?_⟩
        · rcases List.mem_cons.1 he' with rfl | he'
          · exact absurd h1 hv
          · exact r1 ⟨e', he', h1, (hk _).2 h2⟩
        · rw [r2 fun e' he' h1 h2 => hno e' (by simp [he']) h1 ((hk _).1 h2), e1]
    · rw [if_neg hc]
      obtain ⟨r1, r2⟩ := farRound_new k es far v (fun e' he' => hes e' (by simp [he'])) h
      refine ⟨fun ⟨e', he', h1, h2⟩ => ?_, fun hno => r2 fun e' he' => hno e' (by simp [he'])⟩
      rcases List.mem_cons.1 he' with rfl | he'
      · exact absurd ⟨h2, by rw [h1]; exact h⟩ hc
      · exact r1 ⟨e', he', h1, h2⟩

theorem least1 : least 1 := .inl rfl
theorem least2 : least 2 := .inr (.inl rfl)
theorem least3 : least 3 := .inr (.inr rfl)
theorem msg1 {x : Nat} (h : x + 1 ≤ top) (out : Int) (w : Nat) : msg 1 x out w = x + 1 := by simp [msg, sat, h]

theorem hops_inv {es : List E} {s n : Nat} (hs : s < n) (hes : ∀ e ∈ es, e.f < n ∧ e.t < n) (hn : n + 2 ≤ top) : ∀ j, j ≤ n → ∀ v, v < n →
    ((far es s n j).getD v (-1) < 0 → (far es s n j).getD v (-1) = -1 ∧ (iter 1 es j (start 1 s n)).1.getD v 0 = top ∧ (iter 1 es j (start 1 s n)).2.getD v false = false) ∧
    (0 ≤ (far es s n j).getD v (-1) → (far es s n j).getD v (-1) = ((iter 1 es j (start 1 s n)).1.getD v 0 : Int) ∧ (far es s n j).getD v (-1) ≤ j ∧ ((iter 1 es j (start 1 s n)).2.getD v false = true ↔ (far es s n j).getD v (-1) = j))
  | 0, _, v, hv => by
    simp only [far, iter, start]
    rw [getD_set _ _ _ _ _ (by simpa using hs), getD_range_map _ _ _ _ hv, getD_range_map _ _ _ _ hv]
    by_cases e : v = s
    · subst e; simp
    · simp [e, List.getD_eq_getElem?_getD, hv]
  | j + 1, hj, v, hv => by
    obtain ⟨hl1, hl2⟩ := len_iter (k := 1) (es := es) (len_start 1 s n).1 (len_start 1 s n).2 j
    have ih := hops_inv hs hes hn j (by omega)
    have hlen : ∀ e ∈ es, e.t < (far es s n j).length := fun e he => by rw [len_far]; exact (hes e he).2
    generalize hc : iter 1 es j (start 1 s n) = c at *
    show ((farRound j es (far es s n j)).getD v (-1) < 0 → _ ∧ (iter 1 es (j + 1) _).1.getD v 0 = top ∧ (iter 1 es (j + 1) _).2.getD v false = false) ∧ (0 ≤ (farRound j es (far es s n j)).getD v (-1) → _)
    rw [iter, hc]
    by_cases hq : quiet c.2 = true
    · rw [step_quiet hq]
      rw [quiet_iff] at hq
      have hsame : (far es s n (j + 1)).getD v (-1) = (far es s n j).getD v (-1) := by
        rw [far]
        by_cases h0 : 0 ≤ (far es s n j).getD v (-1)
        · exact farRound_old j es _ v hlen h0
        · refine (farRound_new j es _ v hlen (by omega)).2 fun e he ht hk => ?_
          have := ((ih e.f (hes e he).1).2 (by omega)).2.2.2 hk
          rw [hq] at this; cases this
      rw [← far, hsame]
      refine ⟨fun h => (ih v hv).1 h, fun h => ?_⟩
      obtain ⟨a, b, d⟩ := (ih v hv).2 h
      exact ⟨a, by omega, by rw [hq]; constructor <;> intro hh <;> first | cases hh | omega⟩
    · rcases step_cases least1 hl1 hl2 (es := es) hv with ⟨hlive, hlt, e, he, hse, ht, hm⟩ | ⟨hnl, hsame⟩
      · have hfe : (far es s n j).getD e.f (-1) = j := by
          have h0 : 0 ≤ (far es s n j).getD e.f (-1) := by
            by_cases h0 : 0 ≤ (far es s n j).getD e.f (-1)
            · exact h0
            · have := ((ih e.f (hes e he).1).1 (by omega)).2.2; rw [this] at hse; cases hse
          exact ((ih e.f (hes e he).1).2 h0).2.2.1 hse
        have hval : c.1.getD e.f 0 = j := by have := ((ih e.f (hes e he).1).2 (by omega)).1; omega
        rw [hval, msg1 (by omega)] at hm
        have hneg : (far es s n j).getD v (-1) < 0 := by
          by_cases h0 : 0 ≤ (far es s n j).getD v (-1)
          · have := ((ih v hv).2 h0); omega
          · omega
        have hnew := (farRound_new j es _ v hlen hneg).1 ⟨e, he, ht, hfe⟩
        rw [← far] at hnew ⊢
        rw [hnew]
        exact ⟨fun h => by omega, fun _ => ⟨by rw [hm]; omega, by omega, by rw [hlive]; simp⟩⟩
      · have hnl' : (step 1 es c).2.getD v false = false := by
          cases hb : (step 1 es c).2.getD v false with
          | false => rfl
          | true => exact absurd (hnl hb) hq
        rw [hsame, hnl']
        by_cases h0 : 0 ≤ (far es s n j).getD v (-1)
        · have hold := farRound_old j es _ v hlen h0
          rw [← far] at hold ⊢
          rw [hold]
          obtain ⟨a, b, d⟩ := (ih v hv).2 h0
          exact ⟨fun h => by omega, fun _ => ⟨a, by omega, by constructor <;> intro hh <;> first | cases hh | omega⟩⟩
        · obtain ⟨a, b, d⟩ := (ih v hv).1 (by omega)
          have hno := (farRound_new j es _ v hlen (by omega)).2 fun e he ht hk => by
            have hle := ((ih e.f (hes e he).1).2 (by omega)).2.2.2 hk
            have hval : c.1.getD e.f 0 = j := by have := ((ih e.f (hes e he).1).2 (by omega)).1; omega
            have h3 := step_le least1 hl1 hl2 he (hes e he).2 hle
            rw [hval, msg1 (by omega), ht, hsame, b] at h3
            omega
          rw [← far] at hno ⊢
          rw [hno]
          exact ⟨fun _ => ⟨a, b, rfl⟩, fun h => by omega⟩

theorem start_top {k : Int} (hk : least k) (s n : Nat) (hn : n ≤ top) (v : Nat) : (start k s n).1.getD v 0 ≤ top := by
  by_cases hv : v < n
  · simp only [start]
    rw [getD_range_map _ _ _ _ hv]
    rcases hk with rfl | rfl | rfl
    · rw [if_pos (.inl rfl)]; split <;> omega
    · simp; omega
    · rw [if_pos (.inr rfl)]; split <;> omega
  · rw [getD_far _ _ _ (by rw [(len_start k s n).1]; omega)]; omega

theorem quiet_trace {k : Int} (hk : least k) {es : List E} {s n : Nat} (hes : ∀ e ∈ es, e.f < n ∧ e.t < n) (hn : n ≤ top) (j : Nat) (hj : n ≤ j) : quiet (trace k es j (start k s n)).2 = true := by
  rw [trace_eq]
  exact quiet_at hk (len_start k s n).1 (len_start k s n).2 hes (start_top hk s n hn) j hj

theorem trace_done {k : Int} (hk : least k) {es : List E} {s n : Nat} (hes : ∀ e ∈ es, e.f < n ∧ e.t < n) (hn : n ≤ top) : trace k es (n + 1) (start k s n) = iter k es n (start k s n) := by
  rw [trace_eq, iter, step_quiet]
  exact quiet_at hk (len_start k s n).1 (len_start k s n).2 hes (start_top hk s n hn) n (Nat.le_refl _)

/-- Hops: what it comes to -/
theorem hops {es : List E} {s n : Nat} (hs : s < n) (hes : ∀ e ∈ es, e.f < n ∧ e.t < n) (hn : n + 2 ≤ top) (v : Nat) (hv : v < n) :
    ((far es s n n).getD v (-1) < 0 → (trace 1 es (n + 1) (start 1 s n)).1.getD v 0 = top) ∧ (0 ≤ (far es s n n).getD v (-1) → (far es s n n).getD v (-1) = ((trace 1 es (n + 1) (start 1 s n)).1.getD v 0 : Int)) := by
  rw [trace_done least1 hes (by omega)]
  obtain ⟨a, b⟩ := hops_inv hs hes hn n (Nat.le_refl _) v hv
  exact ⟨fun h => (a h).2.1, fun h => (b h).1⟩

/-! ### Least -/
def leadRound : List E → List Bool → List Bool
  | [], l => l
  | e :: es, l => leadRound es (l.set e.t (l.getD e.t false || l.getD e.f false))
def lead (es : List E) (s n : Nat) : Nat → List Bool
  | 0 => (List.replicate n false).set s true
  | k + 1 => leadRound es (lead es s n k)

theorem len_leadRound : ∀ (es : List E) (l : List Bool), (leadRound es l).length = l.length
  | [], _ => rfl
  | e :: es, l => by rw [leadRound, len_leadRound es]; simp
theorem len_lead (es : List E) (s n : Nat) : ∀ k, (lead es s n k).length = n
  | 0 => by simp [lead]
  | k + 1 => by rw [lead, len_leadRound, len_lead es s n k]

theorem leadRound_up : ∀ (es : List E) (l : List Bool) (v : Nat), (∀ e ∈ es, e.t < l.length) → l.getD v false = true → (leadRound es l).getD v false = true
  | [], _, _, _, h => h
  | e :: es, l, v, hes, h => by
    rw [leadRound]
    refine leadRound_up es _ v (fun e' he' => by simpa using hes e' (by simp [he'])) ?_
    rw [getD_set _ _ _ _ _ (hes e (by simp))]
    split
    · rename_i hv; subst hv; rw [h]; rfl
    · exact h

/-- what holds of the one that leads holds of those it leads to, where edges hand it on -/
theorem leadRound_holds {p : Nat → Prop} : ∀ (es : List E) (l : List Bool), (∀ e ∈ es, e.t < l.length) → (∀ e ∈ es, p e.f → p e.t) → (∀ v, l.getD v false = true → p v) → ∀ v, (leadRound es l).getD v false = true → p v
  | [], _, _, _, h => h
  | e :: es, l, hes, hp, h => by
    rw [leadRound]
    refine leadRound_holds es _ (fun e' he' => by simpa using hes e' (by simp [he'])) (fun e' he' => hp e' (by simp [he'])) fun v hv => ?_
    rw [getD_set _ _ _ _ _ (hes e (by simp))] at hv
    split at hv
    · rename_i hvt
      subst hvt
      rcases Bool.or_eq_true_iff.1 hv with hv | hv
      · exact h _ hv
      · exact hp e (by simp) (h _ hv)
    · exact h v hv

theorem lead_holds {p : Nat → Prop} {es : List E} {s n : Nat} (hs : s < n) (hes : ∀ e ∈ es, e.t < n) (hp : ∀ e ∈ es, p e.f → p e.t) (h0 : p s) : ∀ (k v : Nat), (lead es s n k).getD v false = true → p v
  | 0, v, h => by
    rw [lead, getD_set _ _ _ _ _ (by simpa using hs)] at h
    split at h
    · rename_i e; rw [e]; exact h0
    · rw [List.getD_eq_getElem?_getD, List.getElem?_replicate] at h; split at h <;> simp at h
  | k + 1, v, h => leadRound_holds es _ (fun e he => by rw [len_lead]; exact hes e he) hp (lead_holds hs hes hp h0 k) v h

theorem count_le_length (l : List Bool) : l.count true ≤ l.length := List.count_le_length

theorem count_set : ∀ (l : List Bool) (i : Nat), i < l.length → l.getD i false = false → (l.set i true).count true = l.count true + 1
  | [], _, h, _ => by simp at h
  | b :: l, 0, _, h => by simp at h; subst h; simp
  | b :: l, i + 1, h, hf => by
    have := count_set l i (by simpa using h) (by simpa using hf)
    simp only [List.set_cons_succ, List.count_cons, this]; omega

theorem set_same : ∀ (l : List Bool) (i : Nat), i < l.length → l.set i (l.getD i false) = l
  | [], _, h => by simp at h
  | b :: l, 0, _ => by simp
  | b :: l, i + 1, h => by
    simp only [List.set_cons_succ, List.getD_cons_succ]
    rw [set_same l i (by simpa using h)]

theorem one_count (l : List Bool) (i : Nat) (x : Bool) (hi : i < l.length) : l.count true ≤ (l.set i (l.getD i false || x)).count true ∧ ((l.set i (l.getD i false || x)).count true = l.count true → l.set i (l.getD i false || x) = l ∧ (x = true → l.getD i false = true)) := by
  cases hb : l.getD i false with
  | true =>
    have := set_same l i hi
    rw [hb] at this
    simp [this]
  | false =>
    cases x with
    | false =>
      have := set_same l i hi
      rw [hb] at this
      simp [this]
    | true =>
      have := count_set l i hi hb
      simp only [Bool.or_true, this]
      exact ⟨by omega, fun h => by omega⟩

theorem leadRound_count : ∀ (es : List E) (l : List Bool), (∀ e ∈ es, e.t < l.length) → l.count true ≤ (leadRound es l).count true ∧ ((leadRound es l).count true = l.count true → leadRound es l = l ∧ ∀ e ∈ es, l.getD e.f false = true → l.getD e.t false = true)
  | [], l, _ => by simp [leadRound]
  | e :: es, l, hes => by
    rw [leadRound]
    obtain ⟨a1, a2⟩ := one_count l e.t (l.getD e.f false) (hes e (by simp))
    obtain ⟨b1, b2⟩ := leadRound_count es (l.set e.t (l.getD e.t false || l.getD e.f false)) (fun e' he' => by simpa using hes e' (by simp [he']))
    refine ⟨by omega, fun h => ?_⟩
    obtain ⟨c1, c2⟩ := a2 (by omega)
    obtain ⟨d1, d2⟩ := b2 (by omega)
    rw [c1] at d1 d2 ⊢
    exact ⟨d1, fun e' he' => by
      rcases List.mem_cons.1 he' with rfl | he'
      · exact c2
      · exact d2 e' he'⟩

/-- behind as many rounds as there are vertices all that follows is told -/
theorem lead_closed {es : List E} {s n : Nat} (hs : s < n) (hes : ∀ e ∈ es, e.t < n) : ∀ e ∈ es, (lead es s n n).getD e.f false = true → (lead es s n n).getD e.t false = true := by
  have hlen : ∀ k, ∀ e ∈ es, e.t < (lead es s n k).length := fun k e he => by rw [len_lead]; exact hes e he
  have key : ∀ k, k + 1 ≤ (lead es s n k).count true ∨ (leadRound es (lead es s n k) = lead es s n k ∧ ∀ e ∈ es, (lead es s n k).getD e.f false = true → (lead es s n k).getD e.t false = true) := by
    intro k
    induction k with
    | zero =>
      left
      have : ((List.replicate n false).set s true).count true = (List.replicate n false).count true + 1 := count_set _ s (by simpa using hs) (by rw [List.getD_eq_getElem?_getD]; simp [hs])
      rw [lead, this]; omega
    | succ k ih =>
      rcases ih with h | ⟨h1, h2⟩
      · obtain ⟨a, b⟩ := leadRound_count es (lead es s n k) (hlen k)
        by_cases e : (leadRound es (lead es s n k)).count true = (lead es s n k).count true
        · obtain ⟨c1, c2⟩ := b e
          right
          rw [lead, c1]
          exact ⟨c1, c2⟩
        · left; rw [lead]; omega
      · right; rw [lead, h1]; exact ⟨h1, h2⟩
  rcases key n with h | h
  · have := count_le_length (lead es s n n)
    rw [len_lead] at this
    omega
  · exact h.2

theorem msg2 (x : Nat) (out : Int) (w : Nat) : msg 2 x out w = x := by simp [msg]

/-- Least: what it comes to -/
theorem least_tells {es : List E} {s n : Nat} (hs : s < n) (hes : ∀ e ∈ es, e.f < n ∧ e.t < n) (hn : n ≤ top) (v : Nat) (hv : v < n) :
    ((lead es s n n).getD v false = true → (trace 2 es (n + 1) (start 2 0 n)).1.getD v 0 ≤ s) ∧ ((lead es s n n).getD v false = false → (trace 2 es (n + 1) (start 2 0 n)).1.getD v 0 ≠ s) := by
  rw [trace_done least2 hes hn]
  have hl := len_start 2 0 n
  have hst : ∀ u, u < n → (start 2 0 n).1.getD u 0 = u := fun u hu => by simp only [start]; rw [getD_range_map _ _ _ _ hu]; simp
  have hlive : ∀ u, u < n → (start 2 0 n).2.getD u false = true := fun u hu => by simp only [start]; rw [getD_range_map _ _ _ _ hu]; simp
  refine ⟨fun h => ?_, fun h e => ?_⟩
  · have hq := quiet_at least2 hl.1 hl.2 hes (start_top least2 0 n hn) n (Nat.le_refl _)
    have hea := eased_iter least2 hl.1 hl.2 hes (fun e he hnl => by rw [hlive _ (hes e he).1] at hnl; cases hnl) n
    refine lead_holds (p := fun u => (iter 2 es n (start 2 0 n)).1.getD u 0 ≤ s) hs (fun e he => (hes e he).2) (fun e he hp => ?_) ?_ n v h
    · have := hea e he ((quiet_iff _).1 hq _)
      rw [msg2] at this
      omega
    · have := iter_down least2 hl.1 hl.2 s (es := es) (Nat.zero_le n)
      rw [iter, hst s hs] at this
      exact this
  · have key : ∀ j u, u < n → (iter 2 es j (start 2 0 n)).1.getD u 0 = s → (lead es s n n).getD u false = true := by
      intro j
      induction j with
      | zero =>
        intro u hu e
        rw [iter, hst u hu] at e
        subst e
        have : ∀ k, (lead es u n k).getD u false = true := by
          intro k
          induction k with
          | zero => rw [lead, getD_set _ _ _ _ _ (by simpa using hs), if_pos rfl]
          | succ k ih => exact leadRound_up es _ u (fun e he => by rw [len_lead]; exact (hes e he).2) ih
        exact this n
      | succ j ih =>
        intro u hu e
        obtain ⟨a, b⟩ := len_iter (k := 2) (es := es) hl.1 hl.2 j
        rw [iter] at e
        rcases step_cases least2 a b (es := es) hu with ⟨_, _, x, hx, _, ht, hm⟩ | ⟨_, hsame⟩
        · rw [msg2] at hm
          have := ih x.f (hes x hx).1 (by rw [← hm]; exact e)
          rw [← ht]
          exact lead_closed hs (fun e he => (hes e he).2) x hx this
        · exact ih u hu (by rw [← hsame]; exact e)
    rw [key n v hv e] at h; cases h

/-! ### Paths -/
theorem msg3 (x : Nat) (out : Int) (w : Nat) : msg 3 x out w = sat x w := by simp [msg]

theorem paths_inv {es : List E} {s n : Nat} (hs : s < n) (hes : ∀ e ∈ es, e.f < n ∧ e.t < n) (hw : ∀ e ∈ es, e.w < 4294967296) : ∀ j, ∀ v, v < n →
    ((iter 3 es j (start 3 s n)).1.getD v 0 ≠ top → (iter 3 es j (start 3 s n)).1.getD v 0 ≤ j * 4294967296 ∧ (v = s ∨ ∃ e ∈ es, e.t = v ∧ (iter 3 es j (start 3 s n)).1.getD e.f 0 + e.w ≤ (iter 3 es j (start 3 s n)).1.getD v 0))
  | 0, v, hv, h => by
    have hst : (start 3 s n).1.getD v 0 = if v = s then 0 else top := by simp only [start]; rw [getD_range_map _ _ _ _ hv]; simp
    rw [iter, hst] at h ⊢
    split at h
    · rename_i e; rw [if_pos e]; exact ⟨by omega, .inl e⟩
    · exact absurd rfl h
  | j + 1, v, hv, h => by
    have ih := paths_inv hs hes hw j
    obtain ⟨a, b⟩ := len_iter (k := 3) (es := es) (len_start 3 s n).1 (len_start 3 s n).2 j
    rw [iter] at h ⊢
    rcases step_cases least3 a b (es := es) hv with ⟨_, hlt, x, hx, _, ht, hm⟩ | ⟨_, hsame⟩
    · rw [msg3] at hm
      have htop := iter_down least3 (len_start 3 s n).1 (len_start 3 s n).2 v (es := es) (Nat.zero_le j)
      have hle : (iter 3 es j (start 3 s n)).1.getD v 0 ≤ top := by
        refine Nat.le_trans htop ?_
        have hst : (start 3 s n).1.getD v 0 = if v = s then 0 else top := by simp only [start]; rw [getD_range_map _ _ _ _ hv]; simp
        rw [iter, hst]; split <;> omega
      unfold sat at hm
      split at hm
      · have hx0 : (iter 3 es j (start 3 s n)).1.getD x.f 0 ≠ top := by
          intro e; rw [e] at hm; omega
        have h1 := (ih x.f (hes x hx).1 hx0).1
        have h2 := hw x hx
        refine ⟨by omega, .inr ⟨x, hx, ht, ?_⟩⟩
        have h3 := step_down least3 a b (es := es) x.f
        omega
      · omega
    · rw [hsame] at h ⊢
      obtain ⟨h1, h2⟩ := ih v hv h
      refine ⟨Nat.le_trans h1 (Nat.mul_le_mul_right _ (Nat.le_succ j)), h2.imp id fun ⟨e, he, ht, hle⟩ => ⟨e, he, ht, ?_⟩⟩
      have h3 := step_down least3 a b (es := es) e.f
      omega

/-- Paths: what it comes to -/
theorem paths {es : List E} {s n : Nat} (hs : s < n) (hes : ∀ e ∈ es, e.f < n ∧ e.t < n) (hw : ∀ e ∈ es, e.w < 4294967296) (hn : n ≤ 1048576) :
    let vals := (trace 3 es (n + 1) (start 3 s n)).1
    vals.getD s 0 = 0 ∧ (∀ e ∈ es, vals.getD e.f 0 ≠ top → vals.getD e.f 0 + e.w ≤ 4503599627370496 + 4294967296 ∧ vals.getD e.t 0 ≤ vals.getD e.f 0 + e.w) ∧
    (∀ v, v < n → vals.getD v 0 ≠ top → v = s ∨ ∃ e ∈ es, e.t = v ∧ vals.getD e.f 0 ≠ top ∧ vals.getD v 0 = vals.getD e.f 0 + e.w) ∧ (∀ v, v < n → vals.getD v 0 ≤ top) := by
  have hn' : n ≤ top := by unfold top; omega
  intro vals
  have hv0 : vals = (iter 3 es n (start 3 s n)).1 := by show (trace 3 es (n + 1) (start 3 s n)).1 = _; rw [trace_done least3 hes hn']
  clear_value vals
  subst hv0
  have hl := len_start 3 s n
  have hq := quiet_at least3 hl.1 hl.2 hes (start_top least3 s n hn') n (Nat.le_refl _)
  have hst : ∀ v, v < n → (start 3 s n).1.getD v 0 = if v = s then 0 else top := fun v hv => by simp only [start]; rw [getD_range_map _ _ _ _ hv]; simp
  have hsl : ∀ v, v < n → (start 3 s n).2.getD v false = decide (v = s) := fun v hv => by simp only [start]; rw [getD_range_map _ _ _ _ hv]; simp
  have hea := eased_iter least3 hl.1 hl.2 hes (fun e he hnl => by
    rw [hsl _ (hes e he).1] at hnl
    have hne : ¬ e.f = s := by simpa using hnl
    rw [hst _ (hes e he).1, if_neg hne, msg3]
    refine Nat.le_trans (start_top least3 s n hn' e.t) ?_
    unfold sat; split <;> omega) n
  have hdown := fun v => iter_down least3 hl.1 hl.2 v (es := es) (Nat.zero_le n)
  have hle : ∀ e ∈ es, (iter 3 es n (start 3 s n)).1.getD e.f 0 ≠ top → (iter 3 es n (start 3 s n)).1.getD e.f 0 + e.w ≤ 4503599627370496 + 4294967296 ∧ (iter 3 es n (start 3 s n)).1.getD e.t 0 ≤ (iter 3 es n (start 3 s n)).1.getD e.f 0 + e.w := by
    intro e he h
    have h1 := (paths_inv hs hes hw n e.f (hes e he).1 h).1
    have h2 := hw e he
    have h3 := hea e he ((quiet_iff _).1 hq _)
    rw [msg3] at h3
    unfold sat at h3
    have h4 : n * 4294967296 ≤ 1048576 * 4294967296 := Nat.mul_le_mul_right _ hn
    refine ⟨by omega, ?_⟩
    split at h3
    · exact h3
    · rename_i hgt; unfold top at hgt; omega
  refine ⟨?_, hle, fun v hv h => ?_, fun v hv => ?_⟩
  · have := hdown s
    rw [iter, hst s hs, if_pos rfl] at this
    omega
  · rcases (paths_inv hs hes hw n v hv h).2 with h1 | ⟨e, he, ht, h2⟩
    · exact .inl h1
    · have hle0 : (iter 3 es n (start 3 s n)).1.getD v 0 ≤ top := Nat.le_trans (hdown v) (start_top least3 s n hn' v)
      have hne : (iter 3 es n (start 3 s n)).1.getD e.f 0 ≠ top := by intro e0; rw [e0] at h2; omega
      have h3 := (hle e he hne).2
      rw [ht] at h3
      exact .inr ⟨e, he, ht, hne, by omega⟩
  · exact Nat.le_trans (hdown v) (start_top least3 s n hn' v)
end Go.Cg.Tr
