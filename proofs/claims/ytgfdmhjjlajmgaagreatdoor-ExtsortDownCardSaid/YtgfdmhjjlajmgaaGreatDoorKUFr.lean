/- Plain laws of files of records: read again, record by record. No condition. -/
import Derived.Test.YtgfdmhjjlajmgaaGreatDoorKUFb
namespace Go.Cg.Rn
set_option linter.unusedVariables false
set_option linter.unusedSimpArgs false
open Go.Cg.Dk Go.Cg.Oc Go.Cg.Cl

/-! ### what bytes tell -/
def pin (b : By) (p : Nat) (sh : Bool) : (By × Nat × Bool) × Nat :=
  let x := dec ((b.drop p).take (min 1006 (b.length - p)))
  if x.2.2 ≠ 0 then (([], p, sh), x.2.2) else
  if x.1.length = 0 ∨ x.1.length % 16 ≠ 0 ∨ 800 < x.1.length ∨ sh = true then (([], p, sh), 2) else ((x.1, p + x.2.1, decide (x.1.length < 800)), 0)
def pnext (b : By) (s : Rs) : Rs × Option R × Nat :=
  if s.2.1 = [] ∧ s.1 < b.length then
    if (pin b s.1 s.2.2).2 ≠ 0 then (s, none, (pin b s.1 s.2.2).2)
    else (((pin b s.1 s.2.2).1.2.1, (pin b s.1 s.2.2).1.1.drop 16, (pin b s.1 s.2.2).1.2.2), some (recOf (pin b s.1 s.2.2).1.1), 0)
  else if s.2.1 = [] then (s, none, 0) else ((s.1, s.2.1.drop 16, s.2.2), some (recOf s.2.1), 0)
theorem rnext_pure {d : Disk} (hu : d.down = false) (o : Int) (a : Nat) {fs : Fs} {n : Nm} {f : Fl} (hn : fget fs n = some f) (s : Rs) :
    (1 ≤ a ∧ ∃ o', rnext n f.now.length s (dk d o a fs) = (dn d o' (tornAll fs d.keep), s, none, 7)) ∨ ∃ o' a', rnext n f.now.length s (dk d o a fs) = (dk d o' a' fs, pnext f.now s) ∧ (a = 0 → a' = 0) := by
  by_cases hc : s.2.1 = [] ∧ s.1 < f.now.length
  · by_cases a1 : a = 1
    · subst a1; left
      have h1 : (dk d o 1 fs).readAt n s.1 (min 1006 ((f.now.length : Int) - s.1)) = (dn d (nx o) (tornAll fs d.keep), [], 7) := by
        unfold Disk.readAt; simp only; rw [mk_fall hu, if_pos dn_down]
      have h2 := rin_e1 (n := n) (sz := f.now.length) (p := s.1) (sh := s.2.2) (d := dk d o 1 fs) (by rw [h1]; simp)
      rw [h1] at h2
      rw [rnext_C hc.1 hc.2 (by rw [h2]; simp), h2]
      exact ⟨Nat.le_refl _, _, rfl⟩
    · right
      have h1 : (dk d o a fs).readAt n s.1 (min 1006 ((f.now.length : Int) - s.1)) = (dk d (nx o) (a - 1) fs, (f.now.drop s.1).take (min 1006 (f.now.length - s.1)), 0) := by
        have hc2 := hc.2
        unfold Disk.readAt; simp only; rw [mk_begin hu _ _ _ a1]
        rw [if_neg (by rw [mk_down hu]; decide), show fget (dk d (nx o) (a - 1) fs).files n = some f from hn]
        simp only
        rw [if_pos (by omega)]
        congr 3
        omega
      refine ⟨nx o, a - 1, ?_, by omega⟩
      have hr : rin n f.now.length s.1 s.2.2 (dk d o a fs) = (dk d (nx o) (a - 1) fs, pin f.now s.1 s.2.2) := by
        unfold rin pin; simp only; rw [h1]; simp only
        rw [if_neg (by simp)]
        split
        · rfl
        · split <;> rfl
      unfold rnext pnext
      rw [if_pos hc, if_pos hc, hr]
      simp only
      split <;> rfl
  · right
    refine ⟨o, a, ?_, id⟩
    unfold rnext pnext
    rw [if_neg hc, if_neg hc]
    split <;> rfl
/-- what comes from here: records, and what ends them -/
def Rds (b : By) : Rs → List R → Nat → Prop
  | s, [], e => pnext b s = (s, none, e)
  | s, r :: l, e => ∃ s', pnext b s = (s', some r, 0) ∧ Rds b s' l e
theorem FB_cons {l : List R} (h : l ≠ []) : FB l = F1 (l.take 50) ++ FB (l.drop 50) := by
  by_cases h5 : 50 ≤ l.length
  · exact FB_ge h5
  · rw [FB_lt (by omega) h, List.take_of_length_le (by omega), List.drop_of_length_le (by omega), FB_nil, List.append_nil]
theorem pin_ok {b : By} {p : Nat} {l : List R} (hp : p < b.length) (hb : b.drop p = FB l) (hl : l ≠ []) : pin b p false = ((rtext (l.take 50), p + (F1 (l.take 50)).length, decide (l.length < 50)), 0) := by
  have h1 : 1 ≤ (l.take 50).length ∧ (l.take 50).length ≤ 50 := by
    have := List.length_pos_iff.2 hl
    simp; omega
  have hlen := F1_len h1.2
  have hFB : (FB l).length = b.length - p := by rw [← hb]; simp
  have hx : dec ((b.drop p).take (min 1006 (b.length - p))) = (rtext (l.take 50), 16 * (l.take 50).length + 6, 0) := by
    rw [hb, FB_cons hl, List.take_append]
    rw [FB_cons hl, List.length_append] at hFB
    rw [List.take_of_length_le (by omega)]
    have := dec_enc (t := rtext (l.take 50)) (by rw [rtext_len]; omega) ((FB (l.drop 50)).take (min 1006 (b.length - p) - (F1 (l.take 50)).length))
    rw [rtext_len] at this; exact this
  unfold pin
  simp only
  rw [hx, if_neg (by simp), if_neg (by rw [rtext_len]; rintro (hh | hh | hh | hh) <;> first | omega | cases hh), hlen]
  simp only [rtext_len]
  congr 3
  exact decide_eq_decide.2 (by simp; omega)
/-- a reader over a file of records -/
structure RdAt (b : By) (s : Rs) (m r : List R) : Prop where
  text : s.2.1 = rtext m
  drop : b.drop s.1 = FB r
  le : s.1 ≤ b.length
  short : s.2.2 = true → r = []
theorem FB_pos {l : List R} (h : l ≠ []) : 0 < (FB l).length := by
  rw [FB_cons h, List.length_append, F1_len (by simp; omega)]; omega
theorem rds_at {b : By} : ∀ (l m r : List R) (s : Rs), l = m ++ r → Bd l → RdAt b s m r → Rds b s l 0
  | [], m, r, s, e, _, h => by
    obtain ⟨rfl, rfl⟩ : m = [] ∧ r = [] := by simpa using e.symm
    show pnext b s = (s, none, 0)
    have h1 := congrArg List.length h.drop
    rw [FB_nil, List.length_drop, List.length_nil] at h1
    unfold pnext
    have ht : s.2.1 = [] := h.text
    rw [if_neg (by omega), if_pos ht]
  | x :: l, [], r, s, e, hb, h => by
    rw [List.nil_append] at e; subst e
    have hlen := FB_pos (l := x :: l) (by simp)
    have hp : s.1 < b.length := by
      have h1 := congrArg List.length h.drop
      rw [List.length_drop] at h1; omega
    have hs : s.2.2 = false := by
      cases hh : s.2.2 with
      | false => rfl
      | true => exact absurd (h.short hh) (by simp)
    have ht : s.2.1 = [] := h.text
    have hi := pin_ok hp h.drop (by simp)
    have hx := hb x List.mem_cons_self
    have etk : (x :: l).take 50 = x :: l.take 49 := rfl
    have edr : (x :: l).drop 50 = l.drop 49 := rfl
    refine ⟨(s.1 + (F1 ((x :: l).take 50)).length, rtext (l.take 49), decide ((x :: l).length < 50)), ?_, ?_⟩
    · unfold pnext
      rw [if_pos ⟨ht, hp⟩, hs, hi, if_neg (by simp)]
      simp only [etk, rtext_cons]
      rw [recOf_rb hx, drop_rb]
    · refine rds_at l (l.take 49) (l.drop 49) _ (List.take_append_drop 49 l).symm (fun z hz => hb z (List.mem_cons_of_mem _ hz)) ⟨rfl, ?_, ?_, fun hh => ?_⟩
      · show b.drop (s.1 + _) = _
        rw [← List.drop_drop, h.drop, FB_cons (by simp), edr, List.drop_left' rfl]
      · show s.1 + _ ≤ _
        have h1 := congrArg List.length h.drop
        rw [FB_cons (by simp), List.length_drop, List.length_append] at h1; omega
      · have : (x :: l).length < 50 := by simpa using hh
        exact List.drop_of_length_le (by simp at this; omega)
  | x :: l, y :: m, r, s, e, hb, h => by
    rw [List.cons_append, List.cons.injEq] at e
    obtain ⟨rfl, e⟩ := e
    have hx := hb x List.mem_cons_self
    have hne : s.2.1 ≠ [] := by rw [h.text, rtext_cons]; intro e; have := congrArg List.length e; simp at this
    refine ⟨(s.1, rtext m, s.2.2), ?_, rds_at l m r _ e (fun z hz => hb z (List.mem_cons_of_mem _ hz)) ⟨rfl, h.drop, h.le, h.short⟩⟩
    unfold pnext
    rw [if_neg (fun hh => hne hh.1), if_neg hne, h.text, rtext_cons, recOf_rb hx, drop_rb]
theorem rds_FB {l : List R} (hb : Bd l) : Rds (FB l) (0, [], false) l 0 := rds_at l [] l _ rfl hb ⟨rfl, rfl, Nat.zero_le _, fun h => by cases h⟩
/-! ### all of them -/
theorem rloop_all {d : Disk} (hu : d.down = false) {fs : Fs} {n : Nm} {f : Fl} (hn : fget fs n = some f) {e : Nat} : ∀ (l acc : List R) (k : Nat) (s : Rs) (o : Int) (a : Nat), Rds f.now s l e → l.length < k →
    (1 ≤ a ∧ ∃ o', rloop n f.now.length k s acc (dk d o a fs) = (dn d o' (tornAll fs d.keep), [], 7)) ∨ ∃ o' a', rloop n f.now.length k s acc (dk d o a fs) = (dk d o' a' fs, if e = 0 then acc ++ l else [], e) ∧ (a = 0 → a' = 0)
  | [], acc, 0, s, o, a, _, hk => absurd hk (Nat.not_lt_zero _)
  | x :: l, acc, 0, s, o, a, _, hk => absurd hk (Nat.not_lt_zero _)
  | [], acc, k + 1, s, o, a, h, _ => by
    have h : pnext f.now s = (s, none, e) := h
    rw [rloop]
    rcases rnext_pure hu o a hn s with ⟨h1, o', h2⟩ | ⟨o', a', h2, h3⟩
    · left; rw [h2, if_pos (by simp)]; exact ⟨h1, o', rfl⟩
    · right
      rw [h2, h]
      by_cases he : e = 0
      · subst he; rw [if_neg (by simp), if_pos rfl, List.append_nil]; exact ⟨o', a', rfl, h3⟩
      · rw [if_pos (by simpa using he), if_neg he]; exact ⟨o', a', rfl, h3⟩
  | x :: l, acc, k + 1, s, o, a, h, hk => by
    obtain ⟨s', h, hh⟩ := h
    rw [rloop]
    rcases rnext_pure hu o a hn s with ⟨h1, o', h2⟩ | ⟨o', a', h2, h3⟩
    · left; rw [h2, if_pos (by simp)]; exact ⟨h1, o', rfl⟩
    · rw [h2, h, if_neg (by simp)]
      simp only
      rcases rloop_all hu hn l (acc ++ [x]) k s' o' a' hh (by simpa using hk) with ⟨k1, o2, k2⟩ | ⟨o2, a2, k2, k3⟩
      · exact .inl ⟨by omega, o2, k2⟩
      · exact .inr ⟨o2, a2, by rw [k2]; simp, fun e => k3 (h3 e)⟩
theorem read_all {d : Disk} (hu : d.down = false) (o : Int) (a : Nat) {fs : Fs} {n : Nm} {f : Fl} (hn : fget fs n = some f) {l : List R} (hf : f.now = FB l) (hb : Bd l) :
    (1 ≤ a ∧ ∃ o', read n (dk d o a fs) = (dn d o' (tornAll fs d.keep), [], 7)) ∨ ∃ o' a', read n (dk d o a fs) = (dk d o' a' fs, l, 0) ∧ (a = 0 → a' = 0) := by
  by_cases a1 : a = 1
  · subst a1; left
    have h1 : (dk d o 1 fs).size n = (dn d (nx o) (tornAll fs d.keep), 0, 7) := by unfold Disk.size; simp only; rw [mk_fall hu, if_pos dn_down]
    rw [read_bad (by rw [h1]; simp), h1]
    exact ⟨Nat.le_refl _, _, rfl⟩
  · have h1 := size_up hu o a fs a1 hn
    rw [read_go (by rw [h1]), h1]
    simp only
    have hk : l.length < rleft f.now.length (0, [], false) + 1 := by
      unfold rleft; simp only [List.length_nil]; rw [hf, FB_len]; split <;> omega
    rcases rloop_all hu hn l [] _ (0, [], false) (nx o) (a - 1) (by rw [hf]; exact rds_FB hb) hk with ⟨k1, o2, k2⟩ | ⟨o2, a2, k2, k3⟩
    · exact .inl ⟨by omega, o2, k2⟩
    · exact .inr ⟨o2, a2, by rw [k2]; simp, fun e => k3 (by omega)⟩
end Go.Cg.Rn
