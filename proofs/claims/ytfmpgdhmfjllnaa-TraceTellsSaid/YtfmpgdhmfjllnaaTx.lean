/- Plain laws of the trace: shares, falls, what stays, in which order edges are told. No condition. -/
import Derived.Test.YtfmpgdhmfjllnaaTw
import Derived.Laws.BitsLemmas
namespace Go.Cg.Tr
open Go.Cg

theorem mask7 {P : Program} {t : TypeId} (n : Int) (w : World) : (binOp .and t (.int .i64 n) (.int .i64 7)).run P w = .ok (.int .i64 (n % 8)) w := by
  have h : bits .and .i64 n 7 = n % 8 := by
    have h0 : (BitVec.ofInt 64 7).toNat = 2 ^ 3 - 1 := by decide
    have key : (BitVec.ofInt 64 n &&& BitVec.ofInt 64 7).toNat = (n % ((2 ^ 64 : Nat) : Int)).toNat % 2 ^ 3 := by
      rw [BitVec.toNat_and, BitVec.toNat_ofInt, h0, Nat.and_two_pow_sub_one_eq_mod]
    show IntKind.i64.wrap ((BitVec.ofInt 64 n &&& BitVec.ofInt 64 7).toNat : Nat) = n % 8
    rw [key, IntKind.wrap_i64]
    omega
  rw [binOp_and, intBits_and, h, Sem.run_pure]
theorem mask16 {P : Program} {t : TypeId} (n : Int) (w : World) : (binOp .and t (.int .i64 n) (.int .i64 65535)).run P w = .ok (.int .i64 (n % 65536)) w := by
  have h : bits .and .i64 n 65535 = n % 65536 := by
    have h0 : (BitVec.ofInt 64 65535).toNat = 2 ^ 16 - 1 := by decide
    have key : (BitVec.ofInt 64 n &&& BitVec.ofInt 64 65535).toNat = (n % ((2 ^ 64 : Nat) : Int)).toNat % 2 ^ 16 := by
      rw [BitVec.toNat_and, BitVec.toNat_ofInt, h0, Nat.and_two_pow_sub_one_eq_mod]
    show IntKind.i64.wrap ((BitVec.ofInt 64 n &&& BitVec.ofInt 64 65535).toNat : Nat) = n % 65536
    rw [key, IntKind.wrap_i64]
    omega
  rw [binOp_and, intBits_and, h, Sem.run_pure]

/-! ### Rank -/
theorem came_none (k : Int) (all : List E) (c : Cfg) (v : Nat) : ∀ (l : List E) (m : Nat → Option Nat), (∀ e ∈ l, e.t ≠ v) → m v = none → came k all c l m v = none
  | [], _, _, h => h
  | e :: l, m, he, h => by
    unfold came
    refine came_none k all c v l _ (fun e' h' => he e' (by simp [h'])) ?_
    split
    · unfold put
      rw [if_neg (fun hv => he e (by simp) hv.symm)]; exact h
    · exact h
theorem start4_live (m v : Nat) (h : v < m) : (start 4 0 m).2.getD v false = true := by
  simp only [start]
  rw [getD_range_map _ _ _ _ h]; simp
theorem rank_step {l : List E} {c : Cfg} (hq : quiet c.2 = false) (v : Nat) (hv : v < c.1.length) : 157284 ≤ (step 4 l c).1.getD v 0 ∧ (l.countP (fun e => e.t == v) = 0 → (step 4 l c).1.getD v 0 = 157284) := by
  unfold step
  rw [if_neg (by simp [hq])]
  simp only
  rw [getD_range_map _ _ _ _ hv]
  unfold nexts
  rw [nxt4 rfl]
  refine ⟨by simp only; omega, fun h0 => ?_⟩
  have hn : came 4 l c l (fun _ => none) v = none := came_none 4 l c v l _ (fun e he ht => by
    rw [List.countP_eq_zero] at h0
    exact h0 e he (by simp [ht])) rfl
  rw [hn]; simp
theorem rank_inv {l : List E} {m : Nat} : ∀ (j : Nat) (v : Nat), v < m → 157284 ≤ (iter 4 l (j + 1) (start 4 0 m)).1.getD v 0 ∧ (l.countP (fun e => e.t == v) = 0 → (iter 4 l (j + 1) (start 4 0 m)).1.getD v 0 = 157284) := by
  intro j
  obtain ⟨a, b⟩ := len_start 4 0 m
  induction j with
  | zero =>
    intro v hv
    refine rank_step ?_ v (by rw [show iter 4 l 0 (start 4 0 m) = start 4 0 m from rfl, a]; exact hv)
    cases hq : quiet (iter 4 l 0 (start 4 0 m)).2 with
    | false => rfl
    | true => rw [quiet_iff] at hq; have := hq v; rw [show iter 4 l 0 (start 4 0 m) = start 4 0 m from rfl, start4_live m v hv] at this; cases this
  | succ j ih =>
    intro v hv
    cases hq : quiet (iter 4 l (j + 1) (start 4 0 m)).2 with
    | true => rw [show iter 4 l (j + 1 + 1) (start 4 0 m) = step 4 l (iter 4 l (j + 1) (start 4 0 m)) from rfl, step_quiet hq]; exact ih v hv
    | false => exact rank_step hq v (by rw [(len_iter a b (j + 1)).1]; exact hv)
theorem rank_law {es l : List E} {m : Nat} (h : FewOk es m l) (j : Nat) : may 4 0 m l = true ∧ (traceR 4 0 m l ((j + 1 : Nat) : Int)).1.length = m ∧ ∀ v, v < m → 157284 ≤ (traceR 4 0 m l ((j + 1 : Nat) : Int)).1.getD v 0 ∧ (l.countP (fun e => e.t == v) = 0 → (traceR 4 0 m l ((j + 1 : Nat) : Int)).1.getD v 0 = 157284) := by
  have hmay := h.may (k := 4) (s := 0) ⟨by decide, by decide⟩ (fun h => by rcases h with h | h <;> cases h)
  rw [traceR_yes hmay]
  obtain ⟨a, b⟩ := len_start 4 0 m
  exact ⟨hmay, (len_iter a b _).1, rank_inv j⟩

/-! ### Falls -/
theorem falls_law {es l : List E} {m s : Nat} (h : FewOk es m l) {k : Int} (hk : 1 ≤ k ∧ k ≤ 3) (hs : s < m) (j : Nat) : may k s m l = true ∧ (traceR k s m l (j : Int)).1.length = m ∧ (traceR k s m l ((j + 1 : Nat) : Int)).1.length = m ∧ (traceR k s m l ((j + 1 : Nat) : Int)).2.length = m ∧
    ∀ v, v < m → (traceR k s m l ((j + 1 : Nat) : Int)).1.getD v 0 ≤ (traceR k s m l (j : Int)).1.getD v 0 ∧ (quiet (traceR k s m l (j : Int)).2 = false → (traceR k s m l ((j + 1 : Nat) : Int)).2.getD v false = decide ((traceR k s m l ((j + 1 : Nat) : Int)).1.getD v 0 < (traceR k s m l (j : Int)).1.getD v 0)) := by
  have hmay := h.may (k := k) (s := s) ⟨hk.1, by omega⟩ (fun _ => hs)
  have hl : least k := by unfold least; omega
  rw [traceR_yes hmay, traceR_yes hmay]
  obtain ⟨a, b⟩ := len_start k s m
  obtain ⟨a1, b1⟩ := len_iter (k := k) (es := l) a b j
  obtain ⟨a2, b2⟩ := len_iter (k := k) (es := l) a b (j + 1)
  refine ⟨hmay, a1, a2, b2, fun v hv => ⟨step_down hl a1 b1 v, fun hq => ?_⟩⟩
  rcases step_cases hl a1 b1 (es := l) hv with ⟨h1, h2, _⟩ | ⟨h1, h2⟩
  · show (step k l (iter k l j (start k s m))).2.getD v false = decide ((step k l (iter k l j (start k s m))).1.getD v 0 < _)
    rw [h1, decide_eq_true h2]
  · show (step k l (iter k l j (start k s m))).2.getD v false = decide ((step k l (iter k l j (start k s m))).1.getD v 0 < _)
    rw [decide_eq_false (by omega)]
    cases hx : (step k l (iter k l j (start k s m))).2.getD v false with
    | false => rfl
    | true => rw [h1 hx] at hq; cases hq

/-! ### Least, Paths -/
theorem least_law {es l : List E} {m : Nat} (h : FewOk es m l) : may 2 0 m l = true ∧ (traceR 2 0 m l ((m + 1 : Nat) : Int)).1.length = m ∧ quiet (traceR 2 0 m l ((m + 1 : Nat) : Int)).2 = true ∧
    ∀ s, s < m → ∀ v, v < m → ((lead l s m m).getD v false = true → (traceR 2 0 m l ((m + 1 : Nat) : Int)).1.getD v 0 ≤ s) ∧ ((lead l s m m).getD v false = false → (traceR 2 0 m l ((m + 1 : Nat) : Int)).1.getD v 0 ≠ s) := by
  have hmay := h.may (k := 2) (s := 0) ⟨by decide, by decide⟩ (fun h => by rcases h with h | h <;> cases h)
  have ht : top = 18446744073709551615 := rfl
  have hm := h.hm
  have e : traceR 2 0 m l ((m + 1 : Nat) : Int) = trace 2 l (m + 1) (start 2 0 m) := by rw [traceR_yes hmay, trace_eq]
  rw [e]
  obtain ⟨a, b⟩ := len_start 2 0 m
  exact ⟨hmay, by rw [trace_eq]; exact (len_iter a b _).1, quiet_trace least2 h.edges (by omega) _ (by omega), fun s hs v hv => least_tells hs h.edges (by omega) v hv⟩
theorem leadRound_append (e : E) : ∀ (l : List E) (f : List Bool), leadRound (l ++ [e]) f = (leadRound l f).set e.t ((leadRound l f).getD e.t false || (leadRound l f).getD e.f false)
  | [], f => rfl
  | x :: l, f => by
    show leadRound (l ++ [e]) _ = _
    rw [leadRound_append e l]; rfl
theorem leadRound_snoc {l : List E} {i : Nat} {f : List Bool} (h : i < l.length) : leadRound (l.take (i + 1)) f = (leadRound (l.take i) f).set (l.getD i e0).t ((leadRound (l.take i) f).getD (l.getD i e0).t false || (leadRound (l.take i) f).getD (l.getD i e0).f false) := by
  rw [take_snoc h, leadRound_append]
theorem paths_law {es l : List E} {m s : Nat} (h : FewOk es m l) (hw : ∀ e ∈ l, e.w < 4294967296) (hs : s < m) : may 3 s m l = true ∧ (traceR 3 s m l ((m + 1 : Nat) : Int)).1.length = m ∧ quiet (traceR 3 s m l ((m + 1 : Nat) : Int)).2 = true ∧
    (traceR 3 s m l ((m + 1 : Nat) : Int)).1.getD s 0 = 0 ∧ (∀ e ∈ l, (traceR 3 s m l ((m + 1 : Nat) : Int)).1.getD e.f 0 ≠ 18446744073709551615 → (traceR 3 s m l ((m + 1 : Nat) : Int)).1.getD e.f 0 + e.w ≤ 4503599627370496 + 4294967296 ∧ (traceR 3 s m l ((m + 1 : Nat) : Int)).1.getD e.t 0 ≤ (traceR 3 s m l ((m + 1 : Nat) : Int)).1.getD e.f 0 + e.w) ∧
    (∀ v, v < m → (traceR 3 s m l ((m + 1 : Nat) : Int)).1.getD v 0 ≠ 18446744073709551615 → v = s ∨ ∃ e ∈ l, e.t = v ∧ (traceR 3 s m l ((m + 1 : Nat) : Int)).1.getD e.f 0 ≠ 18446744073709551615 ∧ (traceR 3 s m l ((m + 1 : Nat) : Int)).1.getD v 0 = (traceR 3 s m l ((m + 1 : Nat) : Int)).1.getD e.f 0 + e.w) ∧
    (∀ v, v < m → (traceR 3 s m l ((m + 1 : Nat) : Int)).1.getD v 0 ≤ 18446744073709551615) := by
  have hmay := h.may (k := 3) (s := s) ⟨by decide, by decide⟩ (fun _ => hs)
  have ht : top = 18446744073709551615 := rfl
  have hm := h.hm
  have e : traceR 3 s m l ((m + 1 : Nat) : Int) = trace 3 l (m + 1) (start 3 s m) := by rw [traceR_yes hmay, trace_eq]
  have hp := paths hs h.edges hw (by omega : m ≤ 1048576)
  simp only [ht] at hp
  rw [e]
  obtain ⟨a, b⟩ := len_start 3 s m
  exact ⟨hmay, by rw [trace_eq]; exact (len_iter a b _).1, quiet_trace least3 h.edges (by omega) _ (by omega), hp⟩

theorem ind_pos {l : List E} {i : Nat} (h : i < l.length) (v : Nat) : (decide (0 < ind l i v) || decide ((((l.getD i e0).t : Nat) : Int) = (v : Int))) = decide (0 < ind l (i + 1) v) := by
  rw [ind_snoc h, Bool.eq_iff_iff]
  simp only [Bool.or_eq_true, decide_eq_true_eq]
  by_cases hv : (l.getD i e0).t = v
  · rw [if_pos hv]; omega
  · rw [if_neg hv]; omega
theorem by_skip {l : List E} {i s m : Nat} {X : List Nat} {bl : List Bool} (h : i < l.length)
    (H : ∀ v, v < m → (v = s ∨ ∃ e ∈ l.take i, e.t = v ∧ X.getD e.f 0 ≠ 18446744073709551615 ∧ X.getD v 0 = X.getD e.f 0 + e.w) → bl.getD v false = true)
    (hn : ¬ (X.getD (l.getD i e0).f 0 ≠ 18446744073709551615 ∧ X.getD (l.getD i e0).t 0 = X.getD (l.getD i e0).f 0 + (l.getD i e0).w)) :
    ∀ v, v < m → (v = s ∨ ∃ e ∈ l.take (i + 1), e.t = v ∧ X.getD e.f 0 ≠ 18446744073709551615 ∧ X.getD v 0 = X.getD e.f 0 + e.w) → bl.getD v false = true := by
  intro v hv h'
  rcases h' with h' | ⟨e, he, h1, h2, h3⟩
  · exact H v hv (.inl h')
  · rw [take_snoc h, List.mem_append] at he
    rcases he with he | he
    · exact H v hv (.inr ⟨e, he, h1, h2, h3⟩)
    · rw [List.mem_singleton] at he
      subst he
      exact absurd ⟨h2, by rw [h1]; exact h3⟩ hn
theorem by_set {l : List E} {i s m : Nat} {X : List Nat} {bl : List Bool} (h : i < l.length) (hl : bl.length = m) (ht : (l.getD i e0).t < m)
    (H : ∀ v, v < m → (v = s ∨ ∃ e ∈ l.take i, e.t = v ∧ X.getD e.f 0 ≠ 18446744073709551615 ∧ X.getD v 0 = X.getD e.f 0 + e.w) → bl.getD v false = true) :
    ∀ v, v < m → (v = s ∨ ∃ e ∈ l.take (i + 1), e.t = v ∧ X.getD e.f 0 ≠ 18446744073709551615 ∧ X.getD v 0 = X.getD e.f 0 + e.w) → (bl.set (l.getD i e0).t true).getD v false = true := by
  intro v hv h'
  rw [getD_set _ _ _ _ _ (by omega)]
  by_cases hvt : v = (l.getD i e0).t
  · rw [if_pos hvt]
  · rw [if_neg hvt]
    rcases h' with h' | ⟨e, he, h1, h2, h3⟩
    · exact H v hv (.inl h')
    · rw [take_snoc h, List.mem_append] at he
      rcases he with he | he
      · exact H v hv (.inr ⟨e, he, h1, h2, h3⟩)
      · rw [List.mem_singleton] at he
        subst he
        exact absurd h1.symm hvt

theorem traceR_top (k : Int) (s : Nat) (n : Int) (es : List E) (j : Int) : ∀ x ∈ (traceR k s n es j).1, x ≤ 18446744073709551615 := by
  unfold traceR
  split
  · rename_i h
    simp only [Bool.and_eq_true] at h
    obtain ⟨h0, h1, _⟩ := may_facts h.1
    exact iter_top (start_top_all k s n.toNat (by omega)) _
  · intro x hx; cases hx
theorem stays_law {es l : List E} {m : Nat} (h : FewOk es m l) (k : Int) (s J : Nat) : (may k s m l = true → stepOk k s m l ((traceR k s m l (J : Int)).1, (traceR k s m l (J : Int)).2) = true ∧
    traceR k s m l ((J + 1 : Nat) : Int) = stepR k s m l ((traceR k s m l (J : Int)).1, (traceR k s m l (J : Int)).2) ∧ (quiet (traceR k s m l (J : Int)).2 = true → traceR k s m l (J : Int) = traceR k s m l ((J + 1 : Nat) : Int))) ∧
    (may k s m l = false → stepOk k s m l ((traceR k s m l (J : Int)).1, (traceR k s m l (J : Int)).2) = false) := by
  refine ⟨fun hm => ?_, fun hm => by unfold stepOk; rw [hm]; rfl⟩
  rw [traceR_yes hm, traceR_yes hm]
  obtain ⟨a, b⟩ := len_start k s m
  obtain ⟨a1, b1⟩ := len_iter (k := k) (es := l) a b J
  have hso : stepOk k s m l ((iter k l J (start k s m)).1, (iter k l J (start k s m)).2) = true := by
    unfold stepOk; rw [hm]; simp [a1, b1]
  refine ⟨hso, ?_, fun hq => ?_⟩
  · unfold stepR; rw [hso]; rfl
  · exact (step_quiet hq).symm
end Go.Cg.Tr
