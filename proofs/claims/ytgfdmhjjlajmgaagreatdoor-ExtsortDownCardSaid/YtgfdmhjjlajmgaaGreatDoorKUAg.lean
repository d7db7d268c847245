/- Plain laws: what is combined does not hang on the order. No condition. -/
import Derived.Test.YtgfdmhjjlajmgaaGreatDoorKUBx
namespace Go.Cg.Rn
set_option linter.unusedVariables false
set_option linter.unusedSimpArgs false
open Go.Cg.Dk Go.Cg.Oc

theorem comb_comm (how : Int) (a b : Nat) : comb how a b = comb how b a := by unfold comb; split <;> omega
theorem comb_assoc (how : Int) (a b c : Nat) : comb how (comb how a b) c = comb how a (comb how b c) := by unfold comb; split <;> omega
def oc (how : Int) : Option Nat → Option Nat → Option Nat
  | none, y => y
  | some a, none => some a
  | some a, some b => some (comb how a b)
@[simp] theorem oc_none (how : Int) (x : Option Nat) : oc how x none = x := by cases x <;> rfl
@[simp] theorem none_oc (how : Int) (x : Option Nat) : oc how none x = x := rfl
theorem oc_assoc (how : Int) (x y z : Option Nat) : oc how (oc how x y) z = oc how x (oc how y z) := by
  cases x <;> cases y <;> cases z <;> simp [oc, comb_assoc]
theorem oc_comm (how : Int) (x y : Option Nat) : oc how x y = oc how y x := by
  cases x <;> cases y <;> simp [oc, comb_comm]
/-- all values of a key -/
def agg (how : Int) : List R → Nat → Option Nat
  | [], _ => none
  | r :: l, k => if r.1 = k then oc how (some r.2) (agg how l k) else agg how l k
theorem agg_app (how : Int) (k : Nat) : ∀ l m : List R, agg how (l ++ m) k = oc how (agg how l k) (agg how m k)
  | [], m => rfl
  | r :: l, m => by
    rw [List.cons_append, agg, agg, agg_app how k l m]
    split
    · rw [oc_assoc]
    · rfl
theorem agg_perm {how : Int} {k : Nat} {l m : List R} (h : l.Perm m) : agg how l k = agg how m k := by
  induction h with
  | nil => rfl
  | cons x _ ih => rw [agg, agg, ih]
  | swap x y l =>
    rw [agg, agg, agg, agg]
    by_cases h1 : x.1 = k <;> by_cases h2 : y.1 = k
    · simp only [if_pos h1, if_pos h2]; rw [← oc_assoc, ← oc_assoc, oc_comm how (some y.2)]
    · simp only [if_pos h1, if_neg h2]
    · simp only [if_neg h1, if_pos h2]
    · simp only [if_neg h1, if_neg h2]
  | trans _ _ h1 h2 => exact h1.trans h2
theorem agg_no {how : Int} {k : Nat} : ∀ {l : List R}, (∀ z ∈ l, z.1 ≠ k) → agg how l k = none
  | [], _ => rfl
  | r :: l, h => by rw [agg, if_neg (h r List.mem_cons_self)]; exact agg_no fun z hz => h z (List.mem_cons_of_mem _ hz)
theorem agg_one (how : Int) (r : R) (k : Nat) : agg how [r] k = if r.1 = k then some r.2 else none := by
  rw [agg]; split <;> rfl
theorem agg_fput {how : Int} (hh : how ≠ 0) (l : List R) (r : R) (k : Nat) : agg how (fput how l r) k = agg how (l ++ [r]) k := by
  unfold fput
  cases hl : l.getLast? with
  | none => rw [List.getLast?_eq_none_iff.1 hl]; rfl
  | some z =>
    simp only
    obtain ⟨q, rfl⟩ := List.getLast?_eq_some_iff.1 hl
    split
    · rename_i hk
      rw [List.dropLast_concat, agg_app, agg_app, agg_app, agg_one, agg_one, agg_one, oc_assoc, ← hk.2]
      by_cases e : z.1 = k
      · rw [if_pos e, if_pos e, if_pos e]; rfl
      · rw [if_neg e, if_neg e, if_neg e]; rfl
    · rfl
theorem agg_fold {how : Int} (hh : how ≠ 0) (l : List R) (k : Nat) : agg how (fold how l) k = agg how l k := by
  have key : ∀ (l m : List R), agg how (l.foldl (fput how) m) k = agg how (m ++ l) k := by
    intro l
    induction l with
    | nil => intro m; simp
    | cons x l ih => intro m; rw [List.foldl_cons, ih, agg_app, agg_fput hh, ← agg_app, List.append_assoc]; rfl
  exact key l []
/-- keys rise -/
abbrev KUp (l : List R) : Prop := l.Pairwise fun a b => a.1 < b.1
theorem fput_keys {how : Int} {l : List R} {r z : R} (h : z ∈ fput how l r) : z.1 = r.1 ∨ ∃ y ∈ l, y.1 = z.1 := by
  unfold fput at h
  cases hl : l.getLast? with
  | none => rw [hl] at h; exact .inl (by rw [List.mem_singleton.1 h])
  | some x =>
    rw [hl] at h
    simp only at h
    split at h
    · rename_i hk
      rcases List.mem_append.1 h with h | h
      · exact .inr ⟨z, List.dropLast_subset _ h, rfl⟩
      · rw [List.mem_singleton.1 h]; exact .inl hk.2
    · rcases List.mem_append.1 h with h | h
      · exact .inr ⟨z, h, rfl⟩
      · rw [List.mem_singleton.1 h]; exact .inl rfl
theorem fput_kup {how : Int} (hh : how ≠ 0) {l : List R} {r : R} (h : KUp l) (hr : ∀ z ∈ l, z.1 ≤ r.1) : KUp (fput how l r) := by
  unfold fput
  cases hl : l.getLast? with
  | none => simp
  | some z =>
    simp only
    obtain ⟨q, rfl⟩ := List.getLast?_eq_some_iff.1 hl
    obtain ⟨h1, _, h3⟩ := List.pairwise_append.1 h
    have hz : z.1 ≤ r.1 := hr z (by simp)
    have hqz : ∀ a ∈ q, a.1 < z.1 := fun a ha => h3 a ha z (by simp)
    split
    · rw [List.dropLast_concat]
      exact List.pairwise_append.2 ⟨h1, by simp, fun a ha b hb => by rw [List.mem_singleton.1 hb]; exact hqz a ha⟩
    · rename_i hk
      have hlt : z.1 < r.1 := by
        rcases Nat.lt_or_ge z.1 r.1 with h | h
        · exact h
        · exact absurd ⟨hh, by omega⟩ hk
      refine List.pairwise_append.2 ⟨h, by simp, fun a ha b hb => ?_⟩
      rw [List.mem_singleton.1 hb]
      rcases List.mem_append.1 ha with ha | ha
      · exact Nat.lt_trans (hqz a ha) hlt
      · rw [List.mem_singleton.1 ha]; exact hlt
theorem fold_kup {how : Int} (hh : how ≠ 0) {l : List R} (h : Up l) : KUp (fold how l) := by
  have key : ∀ (l m : List R), Up l → KUp m → (∀ a ∈ m, ∀ b ∈ l, a.1 ≤ b.1) → KUp (l.foldl (fput how) m) := by
    intro l
    induction l with
    | nil => exact fun m _ h _ => h
    | cons x l ih =>
      intro m hu hm hle
      obtain ⟨h1, h2⟩ := List.pairwise_cons.1 hu
      refine ih _ h2 (fput_kup hh hm fun z hz => hle z hz x List.mem_cons_self) fun a ha b hb => ?_
      have hxb : x.1 ≤ b.1 := by have := h1 b hb; rw [ltb_not] at this; omega
      rcases fput_keys ha with e | ⟨y, hy, e⟩
      · rw [e]; exact hxb
      · rw [← e]; exact hle y hy b (List.mem_cons_of_mem _ hb)
  exact key l [] h List.Pairwise.nil (fun a ha => by cases ha)
theorem kup_one {how : Int} : ∀ {l m : List R}, KUp l → KUp m → (∀ k, agg how l k = agg how m k) → l = m
  | [], [], _, _, _ => rfl
  | x :: l, [], _, _, h => by
    have h2 : oc how (some x.2) (agg how l x.1) = none := by have := h x.1; simpa [agg] using this
    cases hx : agg how l x.1 <;> rw [hx] at h2 <;> cases h2
  | [], y :: m, _, _, h => by
    have h2 : none = oc how (some y.2) (agg how m y.1) := by have := h y.1; simpa [agg] using this
    cases hx : agg how m y.1 <;> rw [hx] at h2 <;> cases h2
  | x :: l, y :: m, hl, hm, h => by
    obtain ⟨l1, l2⟩ := List.pairwise_cons.1 hl
    obtain ⟨m1, m2⟩ := List.pairwise_cons.1 hm
    have lx : agg how l x.1 = none := agg_no fun z hz => by have := l1 z hz; omega
    have my : agg how m y.1 = none := agg_no fun z hz => by have := m1 z hz; omega
    have hxy : x.1 = y.1 := by
      rcases Nat.lt_trichotomy x.1 y.1 with hlt | e | hlt
      · have h1 := h x.1
        rw [agg, if_pos rfl, lx, agg_no (l := y :: m) (fun z hz => by rcases List.mem_cons.1 hz with rfl | hz; (omega); (have := m1 z hz; omega))] at h1
        cases h1
      · exact e
      · have h1 := h y.1
        rw [agg_no (l := x :: l) (fun z hz => by rcases List.mem_cons.1 hz with rfl | hz; (omega); (have := l1 z hz; omega)), agg, if_pos rfl, my] at h1
        cases h1
    have hv : x.2 = y.2 := by
      have h1 := h x.1
      rw [agg, if_pos rfl, lx, agg, if_pos hxy.symm, hxy, my] at h1
      exact Option.some.inj h1
    have e : x = y := Prod.ext hxy hv
    subst e
    have et : l = m := kup_one l2 m2 fun k => by
      by_cases e : x.1 = k
      · rw [← e, lx, my]
      · have := h k; rwa [agg, agg, if_neg e, if_neg e] at this
    rw [et]
theorem fold_eq {how : Int} (hh : how ≠ 0) {l m : List R} (h : ∀ k, agg how l k = agg how m k) : fold how (sort l) = fold how (sort m) :=
  kup_one (how := how) (fold_kup hh (sort_up l)) (fold_kup hh (sort_up m)) fun k => by rw [agg_fold hh, agg_fold hh, agg_perm (sort_perm l), agg_perm (sort_perm m), h k]
theorem fold_self {how : Int} (hh : how ≠ 0) {l : List R} (h : KUp l) : fold how (sort l) = l :=
  kup_one (how := how) (fold_kup hh (sort_up l)) h fun k => by rw [agg_fold hh, agg_perm (sort_perm l)]
/-! ### the table in memory -/
theorem tlook_none {k : Nat} : ∀ {l : List R}, tlook l k = none → ∀ z ∈ l, z.1 ≠ k
  | [], _, z, hz => by cases hz
  | p :: l, h, z, hz => by
    unfold tlook at h; split at h
    · cases h
    · rename_i hk
      rcases List.mem_cons.1 hz with rfl | hz
      · exact fun e => hk e.symm
      · exact tlook_none h z hz
theorem tlook_mem {k v : Nat} : ∀ {l : List R}, tlook l k = some v → k ∈ l.map (·.1)
  | [], h => by simp [tlook] at h
  | p :: l, h => by
    unfold tlook at h; split at h
    · rename_i hk; simp [hk]
    · simp [tlook_mem h]
end Go.Cg.Rn
