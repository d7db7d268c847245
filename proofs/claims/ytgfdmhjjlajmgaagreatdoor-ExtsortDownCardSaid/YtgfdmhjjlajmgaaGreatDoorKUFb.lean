/- Plain laws of files of records of many blocks, on a disk that is up, or falls on the way. No condition. -/
import Derived.Test.YtgfdmhjjlajmgaaGreatDoorKUBq
namespace Go.Cg.Rn
set_option linter.unusedVariables false
set_option linter.unusedSimpArgs false
open Go.Cg.Dk Go.Cg.Oc Go.Cg.Cl

/-! ### the text of a file -/
/-- whole blocks, and what is left behind them -/
def full (l : List R) : By := if 50 ≤ l.length then F1 (l.take 50) ++ full (l.drop 50) else []
termination_by l.length
decreasing_by simp; omega
def rest (l : List R) : List R := if 50 ≤ l.length then rest (l.drop 50) else l
termination_by l.length
decreasing_by simp; omega
def FB (l : List R) : By := full l ++ (if rest l = [] then [] else F1 (rest l))
theorem full_lt {l : List R} (h : l.length < 50) : full l = [] := by rw [full, if_neg (by omega)]
theorem rest_lt {l : List R} (h : l.length < 50) : rest l = l := by rw [rest, if_neg (by omega)]
theorem full_ge {l : List R} (h : 50 ≤ l.length) : full l = F1 (l.take 50) ++ full (l.drop 50) := by rw [full, if_pos h]
theorem rest_ge {l : List R} (h : 50 ≤ l.length) : rest l = rest (l.drop 50) := by rw [rest, if_pos h]
theorem FB_ge {l : List R} (h : 50 ≤ l.length) : FB l = F1 (l.take 50) ++ FB (l.drop 50) := by
  unfold FB; rw [full_ge h, rest_ge h, List.append_assoc]
theorem FB_lt {l : List R} (h : l.length < 50) (h0 : l ≠ []) : FB l = F1 l := by
  unfold FB; rw [full_lt h, rest_lt h, if_neg h0]; rfl
@[simp] theorem FB_nil : FB [] = [] := by unfold FB; rw [full_lt (by simp), rest_lt (by simp), if_pos rfl]; rfl
@[simp] theorem full_nil : full [] = [] := full_lt (by simp)
@[simp] theorem rest_nil : rest [] = [] := rest_lt (by simp)
theorem ind50 {p : List R → Prop} (h1 : ∀ l : List R, l.length < 50 → p l) (h2 : ∀ l : List R, 50 ≤ l.length → p (l.drop 50) → p l) : ∀ l, p l := by
  intro l
  obtain ⟨k, hk⟩ : ∃ k, k = l.length := ⟨_, rfl⟩
  induction k using Nat.strongRecOn generalizing l with
  | ind k ih =>
    by_cases h : l.length < 50
    · exact h1 l h
    · exact h2 l (by omega) (ih (l.length - 50) (by omega) (l.drop 50) (by simp))
theorem rest_len (l : List R) : (rest l).length = l.length % 50 := by
  induction l using ind50 with
  | h1 l h => rw [rest_lt h, Nat.mod_eq_of_lt h]
  | h2 l h ih => rw [rest_ge h, ih, List.length_drop]; omega
theorem full_len (l : List R) : (full l).length = 806 * (l.length / 50) := by
  induction l using ind50 with
  | h1 l h => rw [full_lt h, Nat.div_eq_of_lt h]; rfl
  | h2 l h ih => rw [full_ge h, List.length_append, ih, F1_len (by simp; omega), List.length_take, List.length_drop]; omega
theorem FB_len (l : List R) : (FB l).length = 806 * (l.length / 50) + (if l.length % 50 = 0 then 0 else 16 * (l.length % 50) + 6) := by
  have h1 := rest_len l
  unfold FB
  rw [List.length_append, full_len]
  by_cases h : rest l = []
  · rw [if_pos h, if_pos (by rw [← h1, h]; rfl)]; rfl
  · have h0 : l.length % 50 ≠ 0 := by rw [← h1]; exact fun e => h (List.eq_nil_of_length_eq_zero e)
    rw [if_neg h, if_neg h0, F1_len (by omega), h1]
theorem snoc_lt {l : List R} {r : R} (h : (rest l).length < 49) : full (l ++ [r]) = full l ∧ rest (l ++ [r]) = rest l ++ [r] := by
  induction l using ind50 with
  | h1 l hl =>
    rw [rest_lt hl] at h ⊢
    rw [full_lt hl, full_lt (by simp; omega), rest_lt (by simp; omega)]; exact ⟨rfl, rfl⟩
  | h2 l hl ih =>
    rw [rest_ge hl] at h
    obtain ⟨e1, e2⟩ := ih h
    have ed : (l ++ [r]).drop 50 = l.drop 50 ++ [r] := List.drop_append_of_le_length hl
    have et : (l ++ [r]).take 50 = l.take 50 := List.take_append_of_le_length hl
    rw [full_ge (l := l ++ [r]) (by rw [List.length_append]; omega), rest_ge (l := l ++ [r]) (by rw [List.length_append]; omega), ed, et, e1, e2, full_ge hl, rest_ge hl]; exact ⟨rfl, rfl⟩
theorem snoc_eq {l : List R} {r : R} (h : (rest l).length = 49) : full (l ++ [r]) = full l ++ F1 (rest l ++ [r]) ∧ rest (l ++ [r]) = [] := by
  induction l using ind50 with
  | h1 l hl =>
    rw [rest_lt hl] at h ⊢
    have h5 : (l ++ [r]).length = 50 := by simp; omega
    rw [full_lt hl, full_ge (by omega), rest_ge (by omega), List.take_of_length_le (by omega), List.drop_of_length_le (by omega), full_nil, rest_nil]; simp
  | h2 l hl ih =>
    rw [rest_ge hl] at h
    obtain ⟨e1, e2⟩ := ih h
    have ed : (l ++ [r]).drop 50 = l.drop 50 ++ [r] := List.drop_append_of_le_length hl
    have et : (l ++ [r]).take 50 = l.take 50 := List.take_append_of_le_length hl
    rw [full_ge (l := l ++ [r]) (by rw [List.length_append]; omega), rest_ge (l := l ++ [r]) (by rw [List.length_append]; omega), ed, et, e1, e2, full_ge hl, rest_ge hl, List.append_assoc]; exact ⟨rfl, rfl⟩
/-! ### written, record by record -/
/-- a file on its way -/
structure Wr (fs : Fs) (n : Nm) (l : List R) (t : By) : Prop where
  get : fget fs n = some ⟨full l, []⟩
  text : t = rtext (rest l)
/-- what a crash leaves of a file on its way -/
structure Part (n : Nm) (c : Nat) (fs fs' : Fs) : Prop where
  off : ∀ m, m ≠ n → fget fs' m = fget fs m
  ris : rising fs'
  few : ∀ f, fget fs' n = some f → f.syn = [] ∧ sectors f.now.length ≤ c
theorem Wr.part {fs : Fs} {n : Nm} {l : List R} {t : By} {c : Nat} (h : Wr fs n l t) (hr : rising fs) (hc : sectors (full l).length ≤ c) : Part n c fs fs := ⟨fun _ _ => rfl, hr, fun f hf => by rw [h.get] at hf; cases hf; exact ⟨rfl, hc⟩⟩
theorem Part.vac {fs : Fs} {n : Nm} {c : Nat} (hr : rising fs) (h : fget fs n = none) : Part n c fs fs := ⟨fun _ _ => rfl, hr, fun f hf => by rw [h] at hf; cases hf⟩
theorem Part.back {fs f1 f2 : Fs} {n : Nm} {c : Nat} (h : Part n c f1 f2) (hf : ∀ m, m ≠ n → fget f1 m = fget fs m) : Part n c fs f2 := ⟨fun m hm => by rw [h.off m hm, hf m hm], h.ris, h.few⟩
theorem Part.le {fs f2 : Fs} {n : Nm} {c c' : Nat} (h : Part n c fs f2) (hc : c ≤ c') : Part n c' fs f2 := ⟨h.off, h.ris, fun f hf => ⟨(h.few f hf).1, Nat.le_trans (h.few f hf).2 hc⟩⟩
theorem sec_fF (l m : List R) : sectors (full l).length ≤ sectors (FB (l ++ m)).length := by
  rw [full_len, FB_len]; unfold sectors; simp only [List.length_append]; split <;> omega
section
variable {d : Disk} (hu : d.down = false) (o : Int) (a : Nat) {fs : Fs}
include hu
theorem append_full (ha : a ≠ 1) {n : Nm} {f : Fl} (b : By) (hn : fget fs n = some f) (hr : d.room < used fs + (sectors (f.now.length + b.length) - sectors f.now.length)) : (dk d o a fs).append n b = (dk d (nx o) (a - 1) fs, 6) := by
  unfold Disk.append; simp only; rw [mk_begin hu _ _ _ ha]
  rw [if_neg (by rw [mk_down hu]; decide), show fget (dk d (nx o) (a - 1) fs).files n = some f from hn]
  simp only
  rw [if_pos (by show d.room < used fs + _; exact hr)]
/-- one more: the disk falls; there is no room; it is there -/
theorem wput_go (hris : rising fs) {n : Nm} {l : List R} {t : By} (h : Wr fs n l t) (r : R) :
    (1 ≤ a ∧ ∃ o', wput n r t (dk d o a fs) = (dn d o' (tornAll fs d.keep), [], 7)) ∨
    (∃ o' a', wput n r t (dk d o a fs) = (dk d o' a' fs, [], 6) ∧ (a = 0 → a' = 0) ∧ d.room < used fs + sectors (full (l ++ [r])).length - sectors (full l).length) ∨
    ∃ o' a' fs', wput n r t (dk d o a fs) = (dk d o' a' fs', rtext (rest (l ++ [r])), 0) ∧ (a = 0 → a' = 0) ∧ rising fs' ∧ Wr fs' n (l ++ [r]) (rtext (rest (l ++ [r]))) ∧ (∀ m, m ≠ n → fget fs' m = fget fs m) ∧ used fs' + sectors (full l).length = used fs + sectors (full (l ++ [r])).length ∧ fs'.length ≤ fs.length := by
  have hl := rest_len l
  have ht : t ++ rb r = rtext (rest l ++ [r]) := by rw [h.text, rtext_app]; simp [rtext]
  by_cases h9 : (rest l).length < 49
  · right; right
    obtain ⟨e1, e2⟩ := snoc_lt (r := r) h9
    refine ⟨o, a, fs, ?_, id, hris, ⟨by rw [e1]; exact h.get, rfl⟩, fun _ _ => rfl, by rw [e1], Nat.le_refl _⟩
    rw [wput_lt (by rw [ht, rtext_len]; simp; omega), ht, e2]
  · have h9 : (rest l).length = 49 := by omega
    obtain ⟨e1, e2⟩ := snoc_eq (r := r) h9
    have hne : rtext (rest l ++ [r]) ≠ [] := by intro e; have := congrArg List.length e; rw [rtext_len] at this; simp at this
    have hw : wput n r t (dk d o a fs) = (((dk d o a fs).append n (F1 (rest l ++ [r]))).1, [], ((dk d o a fs).append n (F1 (rest l ++ [r]))).2) := by
      rw [wput_ge (by rw [ht, rtext_len]; simp; omega), ht]
      unfold wout; rw [if_neg hne]; rfl
    rw [hw]
    have hfl : (full (l ++ [r])).length = (full l).length + (F1 (rest l ++ [r])).length := by rw [e1]; simp
    have hsm : sectors (full l).length ≤ sectors ((full l).length + (F1 (rest l ++ [r])).length) := by unfold sectors; omega
    by_cases a1 : a = 1
    · subst a1
      left
      rw [append_fall hu]
      exact ⟨by omega, _, rfl⟩
    by_cases hroom : d.room < used fs + (sectors ((full l).length + (F1 (rest l ++ [r])).length) - sectors (full l).length)
    · right; left
      rw [append_full hu _ _ a1 _ h.get hroom]
      refine ⟨_, a - 1, rfl, by omega, ?_⟩
      rw [hfl]; omega
    · right; right
      rw [append_up hu _ _ _ a1 _ h.get (by simp only; omega)]
      refine ⟨_, a - 1, Dk.fput fs n ⟨full l ++ F1 (rest l ++ [r]), []⟩, by rw [e2]; rfl, by omega, rising_fput hris _ _, ⟨by rw [fget_fput, if_pos rfl, e1], rfl⟩, fun m hm => by rw [fget_fput, if_neg hm], ?_, len_fput_old h.get⟩
      have := used_fput_old (g := ⟨full l ++ F1 (rest l ++ [r]), []⟩) hris h.get
      simp only at this
      rw [e1]; exact this
/-- shut -/
theorem wclose_go (hris : rising fs) {n : Nm} {l : List R} {t : By} (h : Wr fs n l t) :
    (1 ≤ a ∧ ∃ o' fs', wclose n t (dk d o a fs) = (dn d o' (tornAll fs' d.keep), 7) ∧ Part n (sectors (FB l).length) fs fs') ∨
    (∃ o' a', wclose n t (dk d o a fs) = (dk d o' a' fs, 6) ∧ (a = 0 → a' = 0) ∧ d.room < used fs + sectors (FB l).length - sectors (full l).length) ∨
    ∃ o' a' fs', wclose n t (dk d o a fs) = (dk d o' a' fs', 0) ∧ (a = 0 → a' = 0) ∧ rising fs' ∧ (∀ m, fget fs' m = if m = n then some ⟨FB l, FB l⟩ else fget fs m) ∧ used fs' + sectors (full l).length = used fs + sectors (FB l).length ∧ fs'.length ≤ fs.length := by
  have sync : ∀ (o : Int) (a : Nat) (f2 : Fs), rising f2 → fget f2 n = some ⟨FB l, []⟩ → (∀ m, m ≠ n → fget f2 m = fget fs m) → used f2 + sectors (full l).length = used fs + sectors (FB l).length → f2.length ≤ fs.length →
      (a = 1 ∧ ∃ o' fs', (dk d o a f2).sync n = (dn d o' (tornAll fs' d.keep), 7) ∧ Part n (sectors (FB l).length) fs fs') ∨
      ∃ o' fs', (dk d o a f2).sync n = (dk d o' (a - 1) fs', 0) ∧ rising fs' ∧ (∀ m, fget fs' m = if m = n then some ⟨FB l, FB l⟩ else fget fs m) ∧ used fs' + sectors (full l).length = used fs + sectors (FB l).length ∧ fs'.length ≤ fs.length := by
    intro o a f2 r2 g2 k2 u2 c2
    by_cases a1 : a = 1
    · subst a1; left
      rw [sync_fall hu]; exact ⟨rfl, _, f2, rfl, k2, r2, fun f hf => by rw [g2] at hf; cases hf; exact ⟨rfl, Nat.le_refl _⟩⟩
    · right
      rw [sync_up hu _ _ _ a1 g2]
      refine ⟨_, Dk.fput f2 n ⟨FB l, FB l⟩, rfl, rising_fput r2 _ _, fun m => ?_, ?_, Nat.le_trans (len_fput_old g2) c2⟩
      · rw [fget_fput]
        by_cases e : m = n
        · rw [if_pos e, if_pos e]
        · rw [if_neg e, if_neg e, k2 m e]
      · have := used_fput_old (g := ⟨FB l, FB l⟩) r2 g2
        simp only [] at this; omega
  by_cases hr : rest l = []
  · have ht : t = [] := by rw [h.text, hr]; rfl
    have e : FB l = full l := by unfold FB; rw [if_pos hr, List.append_nil]
    have hw : wclose n t (dk d o a fs) = (dk d o a fs).sync n := by unfold wclose; rw [if_pos ht]
    rw [hw]
    rcases sync o a fs hris (by rw [e]; exact h.get) (fun _ _ => rfl) (by rw [e]) (Nat.le_refl _) with ⟨h1, o', fs', h2, h3⟩ | ⟨o', fs', h2, h3, h4, h5, h6⟩
    · exact .inl ⟨by omega, o', fs', h2, h3⟩
    · exact .inr (.inr ⟨o', a - 1, fs', h2, by omega, h3, h4, h5, h6⟩)
  · have hl := rest_len l
    have hne : t ≠ [] := by
      rw [h.text]; intro e; have := congrArg List.length e; rw [rtext_len] at this
      have h0 : (rest l).length ≠ 0 := fun e => hr (List.eq_nil_of_length_eq_zero e)
      rw [List.length_nil] at this; omega
    have e : FB l = full l ++ F1 (rest l) := by unfold FB; rw [if_neg hr]
    have hw : wclose n t (dk d o a fs) = if ((dk d o a fs).append n (F1 (rest l))).2 ≠ 0 then (dk d o a fs).append n (F1 (rest l)) else ((dk d o a fs).append n (F1 (rest l))).1.sync n := by
      unfold wclose; rw [if_neg hne, h.text]; rfl
    have hfl : (FB l).length = (full l).length + (F1 (rest l)).length := by rw [e]; simp
    have hsm : sectors (full l).length ≤ sectors ((full l).length + (F1 (rest l)).length) := by unfold sectors; omega
    rw [hw]
    by_cases a1 : a = 1
    · subst a1; left
      rw [append_fall hu, if_pos (by simp)]
      exact ⟨by omega, _, fs, rfl, h.part hris (by have := sec_fF l []; rwa [List.append_nil] at this)⟩
    by_cases hroom : d.room < used fs + (sectors ((full l).length + (F1 (rest l)).length) - sectors (full l).length)
    · right; left
      rw [append_full hu _ _ a1 _ h.get hroom, if_pos (by simp)]
      refine ⟨_, a - 1, rfl, by omega, ?_⟩
      rw [hfl]; omega
    · rw [append_up hu _ _ _ a1 _ h.get (by simp only; omega), if_neg (by simp)]
      simp only
      have hus := used_fput_old (g := ⟨full l ++ F1 (rest l), []⟩) hris h.get
      simp only at hus
      rcases sync (nx o) (a - 1) (Dk.fput fs n ⟨full l ++ F1 (rest l), []⟩) (rising_fput hris _ _) (by rw [fget_fput, if_pos rfl, e]) (fun m hm => by rw [fget_fput, if_neg hm]) (by rw [e]; exact hus) (len_fput_old h.get) with ⟨h1, o', fs', h2, h3⟩ | ⟨o', fs', h2, h3, h4, h5, h6⟩
      · exact .inl ⟨by omega, o', fs', h2, h3⟩
      · exact .inr (.inr ⟨o', a - 1 - 1, fs', h2, by omega, h3, h4, h5, h6⟩)
/-- many of them -/
theorem wputs_go (U : Nat) {n : Nm} : ∀ (l p : List R) (o : Int) (a : Nat) (fs : Fs) (t : By), rising fs → Wr fs n p t → used fs = U + sectors (full p).length →
    (1 ≤ a ∧ ∃ o' fs' t', wputs n l t (dk d o a fs) = (dn d o' (tornAll fs' d.keep), t', 7) ∧ Part n (sectors (FB (p ++ l)).length) fs fs') ∨
    (∃ o' a' fs' t', wputs n l t (dk d o a fs) = (dk d o' a' fs', t', 6) ∧ (a = 0 → a' = 0) ∧ rising fs' ∧ (∃ f, fget fs' n = some f) ∧ (∀ m, m ≠ n → fget fs' m = fget fs m) ∧ fs'.length ≤ fs.length ∧ d.room < U + sectors (FB (p ++ l)).length) ∨
    ∃ o' a' fs' t', wputs n l t (dk d o a fs) = (dk d o' a' fs', t', 0) ∧ (a = 0 → a' = 0) ∧ rising fs' ∧ Wr fs' n (p ++ l) t' ∧ (∀ m, m ≠ n → fget fs' m = fget fs m) ∧ used fs' = U + sectors (full (p ++ l)).length ∧ fs'.length ≤ fs.length
  | [], p, o, a, fs, t, hr, h, hU => .inr (.inr ⟨o, a, fs, t, rfl, id, hr, by rw [List.append_nil]; exact h, fun _ _ => rfl, by rw [List.append_nil]; exact hU, Nat.le_refl _⟩)
  | r :: l, p, o, a, fs, t, hr, h, hU => by
    rw [wputs]
    rcases wput_go hu o a hr h r with ⟨h1, o', h2⟩ | ⟨o', a', h2, h3, h4⟩ | ⟨o', a', fs', h2, h3, h4, h5, h6, h7, h8⟩
    · left; rw [h2, if_pos (by simp)]; exact ⟨h1, o', fs, [], rfl, h.part hr (sec_fF _ _)⟩
    · right; left; rw [h2, if_pos (by simp)]
      refine ⟨o', a', fs, [], rfl, h3, hr, ⟨_, h.get⟩, fun _ _ => rfl, Nat.le_refl _, ?_⟩
      have e1 : sectors (full (p ++ [r])).length ≤ sectors (FB (p ++ r :: l)).length := by
        rw [full_len, FB_len]; unfold sectors; simp only [List.length_append, List.length_cons, List.length_nil]; split <;> omega
      omega
    · rw [h2, if_neg (by simp)]
      have ea : p ++ r :: l = p ++ [r] ++ l := by simp
      rw [ea]
      rcases wputs_go U l (p ++ [r]) o' a' fs' _ h4 h5 (by omega) with ⟨k1, o2, f2, t2, k2, k3⟩ | ⟨o2, a2, f2, t2, k2, k3, k4, k5, k6, k7, k8⟩ | ⟨o2, a2, f2, t2, k2, k3, k4, k5, k6, k7, k8⟩
      · exact .inl ⟨by omega, o2, f2, t2, k2, k3.back h6⟩
      · exact .inr (.inl ⟨o2, a2, f2, t2, k2, fun e => k3 (h3 e), k4, k5, fun m hm => by rw [k6 m hm, h6 m hm], by omega, k8⟩)
      · exact .inr (.inr ⟨o2, a2, f2, t2, k2, fun e => k3 (h3 e), k4, k5, fun m hm => by rw [k6 m hm, h6 m hm], k7, by omega⟩)
/-- a file -/
theorem write_all {fs : Fs} (o : Int) (a : Nat) (hris : rising fs) {n : Nm} (hm : may n = true) (hn : fget fs n = none) (l : List R) :
    (1 ≤ a ∧ ∃ o' fs', write n l (dk d o a fs) = (dn d o' (tornAll fs' d.keep), 7) ∧ Part n (sectors (FB l).length) fs fs') ∨
    (∃ o' a' fs', write n l (dk d o a fs) = (dk d o' a' fs', 6) ∧ (a = 0 → a' = 0) ∧ rising fs' ∧ (∃ f, fget fs' n = some f) ∧ (∀ m, m ≠ n → fget fs' m = fget fs m) ∧ fs'.length ≤ fs.length + 1 ∧ d.room < used fs + sectors (FB l).length) ∨
    ∃ o' a' fs', write n l (dk d o a fs) = (dk d o' a' fs', 0) ∧ (a = 0 → a' = 0) ∧ rising fs' ∧ (∀ m, fget fs' m = if m = n then some ⟨FB l, FB l⟩ else fget fs m) ∧ used fs' = used fs + sectors (FB l).length ∧ fs'.length ≤ fs.length + 1 := by
  by_cases a1 : a = 1
  · subst a1; left
    rw [write_bad (by rw [create_fall hu]; simp), create_fall hu]
    exact ⟨by omega, _, fs, rfl, .vac hris hn⟩
  have hc := create_up hu o a fs a1 hm hn
  obtain ⟨f2, hf2⟩ : ∃ f2, f2 = Dk.fput fs n ⟨[], []⟩ := ⟨_, rfl⟩
  rw [← hf2] at hc
  have g2 : fget f2 n = some ⟨[], []⟩ := by rw [hf2, fget_fput, if_pos rfl]
  have k2 : ∀ m, m ≠ n → fget f2 m = fget fs m := fun m hm => by rw [hf2, fget_fput, if_neg hm]
  have u2 : used f2 = used fs := by rw [hf2, used_fput_new hn]; simp [sectors]
  have r2 : rising f2 := by rw [hf2]; exact rising_fput hris _ _
  have c2 : f2.length ≤ fs.length + 1 := by rw [hf2]; exact len_fput _ _ _
  have s0 : sectors 0 = 0 := rfl
  rcases wputs_go hu (used fs) (n := n) l [] (nx o) (a - 1) f2 [] r2 ⟨by rw [g2, full_nil], by simp [rtext]⟩ (by rw [u2]; simp [sectors]) with ⟨k1, o3, f3, t3, k3, k4⟩ | ⟨o3, a3, f3, t3, k3, k4, k5, k6, k7, k8, k9⟩ | ⟨o3, a3, f3, t3, k3, k4, k5, k6, k7, k8, k9⟩
  · left
    rw [write_stop (by rw [hc]) (by rw [hc, k3]; simp), hc, k3]
    exact ⟨by omega, o3, f3, rfl, k4.back k2⟩
  · right; left
    rw [write_stop (by rw [hc]) (by rw [hc, k3]; simp), hc, k3]
    exact ⟨o3, a3, f3, rfl, fun e => k4 (by omega), k5, k6, fun m hm => by rw [k7 m hm, k2 m hm], by omega, by simpa using k9⟩
  · rw [List.nil_append] at k6 k8
    rw [write_done (by rw [hc]) (by rw [hc, k3]), hc, k3]
    simp only
    rcases wclose_go hu o3 a3 k5 k6 with ⟨j1, o4, f4, j2, j3⟩ | ⟨o4, a4, j2, j3, j4⟩ | ⟨o4, a4, f4, j2, j3, j4, j5, j6, j7⟩
    · exact .inl ⟨by omega, o4, f4, j2, j3.back fun m hm => by rw [k7 m hm, k2 m hm]⟩
    · exact .inr (.inl ⟨o4, a4, f3, j2, fun e => j3 (k4 (by omega)), k5, ⟨_, k6.get⟩, fun m hm => by rw [k7 m hm, k2 m hm], by omega, by omega⟩)
    · refine .inr (.inr ⟨o4, a4, f4, j2, fun e => j3 (k4 (by omega)), j4, fun m => ?_, by omega, by omega⟩)
      rw [j5]
      by_cases e : m = n
      · rw [if_pos e, if_pos e]
      · rw [if_neg e, if_neg e, k7 m e, k2 m e]
end
end Go.Cg.Rn
