/- Plain laws of files of records: a writer's and a reader's steps. No condition. -/
import Derived.Test.YtgfdmhjjlajmgaaGreatDoorKURf
namespace Go.Cg.Rn
set_option linter.unusedVariables false
set_option linter.unusedSimpArgs false
open Go.Cg.Dk Go.Cg.Oc

@[simp] theorem rb_len (r : R) : (rb r).length = 16 := by simp [rb, le_len]
theorem put_rb (t : By) (r : R) : Oc.put (Oc.put t 8 r.1) 8 r.2 = t ++ rb r := by
  have e : ∀ (b : By) (n : Nat), Oc.put b 8 n = b ++ le 8 n := fun b n => rfl
  rw [e, e, rb, List.append_assoc]
/-- what is there goes out -/
def wout (n : Nm) (t : By) (d : Disk) : Disk × Nat := if t = [] then (d, 0) else d.append n (enc t).1
theorem wput_lt {n : Nm} {r : R} {t : By} {d : Disk} (h : (t ++ rb r).length < 800) : wput n r t d = (d, t ++ rb r, 0) := by unfold wput; rw [if_pos h]
theorem wput_ge {n : Nm} {r : R} {t : By} {d : Disk} (h : ¬ (t ++ rb r).length < 800) : wput n r t d = ((wout n (t ++ rb r) d).1, [], (wout n (t ++ rb r) d).2) := by
  unfold wput wout
  rw [if_neg h, if_neg (by intro e; have := congrArg List.length e; simp at this)]
theorem wclose_out (n : Nm) (t : By) (d : Disk) : wclose n t d = if (wout n t d).2 ≠ 0 then wout n t d else (wout n t d).1.sync n := by
  unfold wclose wout
  split
  · rw [if_neg (by simp)]
  · rfl
theorem wout_cnt (n : Nm) (t : By) (d : Disk) : (wout n t d).1.files.length ≤ d.files.length := by
  unfold wout; split
  · exact Nat.le_refl _
  · exact len_append _ _ _
theorem wput_cnt (n : Nm) (r : R) (t : By) (d : Disk) : (wput n r t d).1.files.length ≤ d.files.length := by
  by_cases h : (t ++ rb r).length < 800
  · rw [wput_lt h]; exact Nat.le_refl _
  · rw [wput_ge h]; exact wout_cnt _ _ _
theorem wput_small (n : Nm) (r : R) (t : By) (d : Disk) : (wput n r t d).2.1.length < 800 := by
  by_cases h : (t ++ rb r).length < 800
  · rw [wput_lt h]; exact h
  · rw [wput_ge h]; simp
theorem wputs_cnt (n : Nm) : ∀ (l : List R) (t : By) (d : Disk), (wputs n l t d).1.files.length ≤ d.files.length
  | [], _, _ => Nat.le_refl _
  | r :: l, t, d => by
    unfold wputs; split
    · exact wput_cnt _ _ _ _
    · exact Nat.le_trans (wputs_cnt n l _ _) (wput_cnt _ _ _ _)
theorem wputs_app (n : Nm) : ∀ (l m : List R) (t : By) (d : Disk), wputs n (l ++ m) t d = if (wputs n l t d).2.2 ≠ 0 then wputs n l t d else wputs n m (wputs n l t d).2.1 (wputs n l t d).1
  | [], m, t, d => by simp [wputs]
  | r :: l, m, t, d => by
    rw [List.cons_append, wputs, wputs]
    by_cases h : (wput n r t d).2.2 ≠ 0
    · rw [if_pos h, if_pos h, if_pos h]
    · rw [if_neg h, if_neg h, wputs_app n l m]
theorem wputs_one (n : Nm) (r : R) (t : By) (d : Disk) : wputs n [r] t d = wput n r t d := by
  simp only [wputs]
  split
  · rfl
  · rename_i h; rw [show (0 : Nat) = (wput n r t d).2.2 from by omega]
theorem wputs_snoc {n : Nm} {l : List R} {r : R} {t : By} {d : Disk} (h : (wputs n l t d).2.2 = 0) : wputs n (l ++ [r]) t d = wput n r (wputs n l t d).2.1 (wputs n l t d).1 := by
  rw [wputs_app, if_neg (by omega), wputs_one]
theorem take_snoc {l : List R} {i : Nat} (h : i < l.length) : l.take (i + 1) = l.take i ++ [l.getD i (0, 0)] := by
  rw [List.take_add_one, List.getElem?_eq_getElem h, List.getD_eq_getElem?_getD, List.getElem?_eq_getElem h]; rfl
theorem wputs_take {n : Nm} {l : List R} {i : Nat} {t : By} {d : Disk} (hi : i < l.length) (h : (wputs n (l.take i) t d).2.2 = 0) : wputs n (l.take (i + 1)) t d = wput n (l.getD i (0, 0)) (wputs n (l.take i) t d).2.1 (wputs n (l.take i) t d).1 := by
  rw [take_snoc hi, wputs_snoc h]
theorem wputs_stop {n : Nm} {l : List R} {i : Nat} {t : By} {d : Disk} (hi : i < l.length) (h : (wputs n (l.take (i + 1)) t d).2.2 ≠ 0) : wputs n l t d = wputs n (l.take (i + 1)) t d := by
  conv => lhs; rw [← List.take_append_drop (i + 1) l]
  rw [wputs_app, if_pos h]
theorem write_bad {n : Nm} {l : List R} {d : Disk} (h : (d.create n).2 ≠ 0) : write n l d = d.create n := by unfold write; rw [if_pos h]
theorem write_stop {n : Nm} {l : List R} {d : Disk} (h : (d.create n).2 = 0) (h2 : (wputs n l [] (d.create n).1).2.2 ≠ 0) : write n l d = ((wputs n l [] (d.create n).1).1, (wputs n l [] (d.create n).1).2.2) := by unfold write; rw [if_neg (by omega), if_pos h2]
theorem write_done {n : Nm} {l : List R} {d : Disk} (h : (d.create n).2 = 0) (h2 : (wputs n l [] (d.create n).1).2.2 = 0) : write n l d = wclose n (wputs n l [] (d.create n).1).2.1 (wputs n l [] (d.create n).1).1 := by unfold write; rw [if_neg (by omega), if_neg (by omega)]
theorem wclose_cnt (n : Nm) (t : By) (d : Disk) : (wclose n t d).1.files.length ≤ d.files.length := by
  rw [wclose_out]; split
  · exact wout_cnt _ _ _
  · exact Nat.le_trans (len_sync _ _) (wout_cnt _ _ _)
theorem write_cnt (n : Nm) (l : List R) (d : Disk) : (write n l d).1.files.length ≤ d.files.length + 1 := by
  unfold write; split
  · exact len_create _ _
  · split
    · exact Nat.le_trans (wputs_cnt _ _ _ _) (len_create _ _)
    · exact Nat.le_trans (wclose_cnt _ _ _) (Nat.le_trans (wputs_cnt _ _ _ _) (len_create _ _))
/-! ### reading -/
/-- the next record: where it stands, a text, whether the block was short -/
abbrev Rs := Nat × By × Bool
def rnext (n : Nm) (sz : Nat) (s : Rs) (d : Disk) : Disk × Rs × Option R × Nat :=
  if s.2.1 = [] ∧ s.1 < sz then
    if (rin n sz s.1 s.2.2 d).2.2 ≠ 0 then ((rin n sz s.1 s.2.2 d).1, s, none, (rin n sz s.1 s.2.2 d).2.2)
    else ((rin n sz s.1 s.2.2 d).1, ((rin n sz s.1 s.2.2 d).2.1.2.1, (rin n sz s.1 s.2.2 d).2.1.1.drop 16, (rin n sz s.1 s.2.2 d).2.1.2.2), some (recOf (rin n sz s.1 s.2.2 d).2.1.1), 0)
  else if s.2.1 = [] then (d, s, none, 0) else (d, (s.1, s.2.1.drop 16, s.2.2), some (recOf s.2.1), 0)
theorem rnext_A {n : Nm} {sz : Nat} {s : Rs} {d : Disk} (h : s.2.1 ≠ []) : rnext n sz s d = (d, (s.1, s.2.1.drop 16, s.2.2), some (recOf s.2.1), 0) := by
  unfold rnext; rw [if_neg (fun k => h k.1), if_neg h]
theorem rnext_B {n : Nm} {sz : Nat} {s : Rs} {d : Disk} (h : s.2.1 = []) (h2 : ¬ s.1 < sz) : rnext n sz s d = (d, s, none, 0) := by
  unfold rnext; rw [if_neg (fun k => h2 k.2), if_pos h]
theorem rnext_C {n : Nm} {sz : Nat} {s : Rs} {d : Disk} (h : s.2.1 = []) (h2 : s.1 < sz) (h3 : (rin n sz s.1 s.2.2 d).2.2 ≠ 0) : rnext n sz s d = ((rin n sz s.1 s.2.2 d).1, s, none, (rin n sz s.1 s.2.2 d).2.2) := by
  unfold rnext; rw [if_pos ⟨h, h2⟩, if_pos h3]
theorem rnext_D {n : Nm} {sz : Nat} {s : Rs} {d : Disk} (h : s.2.1 = []) (h2 : s.1 < sz) (h3 : (rin n sz s.1 s.2.2 d).2.2 = 0) : rnext n sz s d = ((rin n sz s.1 s.2.2 d).1, ((rin n sz s.1 s.2.2 d).2.1.2.1, (rin n sz s.1 s.2.2 d).2.1.1.drop 16, (rin n sz s.1 s.2.2 d).2.1.2.2), some (recOf (rin n sz s.1 s.2.2 d).2.1.1), 0) := by
  unfold rnext; rw [if_pos ⟨h, h2⟩, if_neg (by omega)]
/-- many of them: what is left, and what is there -/
def rloop (n : Nm) (sz : Nat) : Nat → Rs → List R → Disk → Disk × List R × Nat
  | 0, _, l, d => (d, l, 0)
  | k + 1, s, l, d =>
    if (rnext n sz s d).2.2.2 ≠ 0 then ((rnext n sz s d).1, [], (rnext n sz s d).2.2.2) else
    match (rnext n sz s d).2.2.1 with
    | none => ((rnext n sz s d).1, l, 0)
    | some r => rloop n sz k (rnext n sz s d).2.1 (l ++ [r]) (rnext n sz s d).1
def rleft (sz : Nat) (s : Rs) : Nat := 801 * (sz - s.1) + s.2.1.length
def read (n : Nm) (d : Disk) : Disk × List R × Nat :=
  if (d.size n).2.2 ≠ 0 then ((d.size n).1, [], (d.size n).2.2) else rloop n (d.size n).2.1 (rleft (d.size n).2.1 (0, [], false) + 1) (0, [], false) [] (d.size n).1
theorem rin_cnt (n : Nm) (sz p : Nat) (sh : Bool) (d : Disk) : (rin n sz p sh d).1.files.length = d.files.length := by
  unfold rin; simp only
  split
  · exact len_readAt _ _ _ _
  · split
    · exact len_readAt _ _ _ _
    · split
      · exact len_readAt _ _ _ _
      · exact len_readAt _ _ _ _
theorem dec_facts0 {b : By} (h : (dec b).2.2 = 0) : (dec b).1.length + 6 = (dec b).2.1 ∧ (dec b).2.1 ≤ b.length := by
  have := dec_facts (b := b) (t := (dec b).1) (n := (dec b).2.1) (by rw [← h])
  exact ⟨this.1, this.2.1⟩
/-- what a block that is read tells -/
theorem rin_ok {n : Nm} {sz p : Nat} {sh : Bool} {d : Disk} (h : (rin n sz p sh d).2.2 = 0) : let a := d.readAt n p (min 1006 ((sz : Int) - p))
    a.2.2 = 0 ∧ (dec a.2.1).2.2 = 0 ∧ (dec a.2.1).1.length ≠ 0 ∧ (dec a.2.1).1.length % 16 = 0 ∧ (dec a.2.1).1.length ≤ 800 ∧ sh = false ∧ rin n sz p sh d = (a.1, ((dec a.2.1).1, p + (dec a.2.1).2.1, decide ((dec a.2.1).1.length < 800)), 0) := by
  intro a
  unfold rin at h ⊢
  simp only at h ⊢
  split at h
  · rename_i h1; exact absurd h h1
  · rename_i h1
    split at h
    · rename_i h2; exact absurd h h2
    · rename_i h2
      split at h
      · simp at h
      · rename_i h3
        rw [if_neg h1, if_neg h2, if_neg h3]
        simp only [not_or] at h3
        exact ⟨by simpa using h1, by simpa using h2, h3.1, by simpa using h3.2.1, Nat.le_of_not_lt h3.2.2.1, by simpa using h3.2.2.2, rfl⟩
theorem rin_text {n : Nm} {sz p : Nat} {sh : Bool} {d : Disk} (h : (rin n sz p sh d).2.2 = 0) : (rin n sz p sh d).2.1.1.length % 16 = 0 ∧ 16 ≤ (rin n sz p sh d).2.1.1.length ∧ (rin n sz p sh d).2.1.1.length ≤ 800 ∧ (rin n sz p sh d).2.1.2.1 = p + ((rin n sz p sh d).2.1.1.length + 6) := by
  obtain ⟨_, h2, h3, h4, h5, _, e⟩ := rin_ok h
  have h6 := dec_facts0 h2
  rw [e]
  simp only
  omega
theorem rin_e1 {n : Nm} {sz p : Nat} {sh : Bool} {d : Disk} (h : (d.readAt n p (min 1006 ((sz : Int) - p))).2.2 ≠ 0) : rin n sz p sh d = ((d.readAt n p (min 1006 ((sz : Int) - p))).1, ([], p, sh), (d.readAt n p (min 1006 ((sz : Int) - p))).2.2) := by
  unfold rin; simp only; rw [if_pos h]
theorem rin_e2 {n : Nm} {sz p : Nat} {sh : Bool} {d : Disk} (h0 : (d.readAt n p (min 1006 ((sz : Int) - p))).2.2 = 0) (h : (dec (d.readAt n p (min 1006 ((sz : Int) - p))).2.1).2.2 ≠ 0) : rin n sz p sh d = ((d.readAt n p (min 1006 ((sz : Int) - p))).1, ([], p, sh), (dec (d.readAt n p (min 1006 ((sz : Int) - p))).2.1).2.2) := by
  unfold rin; simp only; rw [if_neg (by omega), if_pos h]
theorem rin_e3 {n : Nm} {sz p : Nat} {sh : Bool} {d : Disk} {x : By} (hx : x = (dec (d.readAt n p (min 1006 ((sz : Int) - p))).2.1).1) (h0 : (d.readAt n p (min 1006 ((sz : Int) - p))).2.2 = 0) (h1 : (dec (d.readAt n p (min 1006 ((sz : Int) - p))).2.1).2.2 = 0) (h : x.length = 0 ∨ x.length % 16 ≠ 0 ∨ 800 < x.length ∨ sh = true) : rin n sz p sh d = ((d.readAt n p (min 1006 ((sz : Int) - p))).1, ([], p, sh), 2) := by
  subst hx; unfold rin; simp only; rw [if_neg (by omega), if_neg (by omega), if_pos h]
theorem rin_e4 {n : Nm} {sz p : Nat} {sh : Bool} {d : Disk} {x : By} (hx : x = (dec (d.readAt n p (min 1006 ((sz : Int) - p))).2.1).1) (h0 : (d.readAt n p (min 1006 ((sz : Int) - p))).2.2 = 0) (h1 : (dec (d.readAt n p (min 1006 ((sz : Int) - p))).2.1).2.2 = 0) (h : ¬ (x.length = 0 ∨ x.length % 16 ≠ 0 ∨ 800 < x.length ∨ sh = true)) : rin n sz p sh d = ((d.readAt n p (min 1006 ((sz : Int) - p))).1, ((dec (d.readAt n p (min 1006 ((sz : Int) - p))).2.1).1, p + (dec (d.readAt n p (min 1006 ((sz : Int) - p))).2.1).2.1, decide ((dec (d.readAt n p (min 1006 ((sz : Int) - p))).2.1).1.length < 800)), 0) := by
  subst hx; unfold rin; simp only; rw [if_neg (by omega), if_neg (by omega), if_neg h]
theorem in_cases (k : Nat) (sh : Bool) : k = 0 ∨ (k ≠ 0 ∧ k % 16 ≠ 0) ∨ (k ≠ 0 ∧ k % 16 = 0 ∧ 800 < k) ∨ (k ≠ 0 ∧ k % 16 = 0 ∧ ¬ 800 < k ∧ sh = true) ∨ (k ≠ 0 ∧ k % 16 = 0 ∧ ¬ 800 < k ∧ sh = false) := by
  cases sh <;> simp <;> omega
theorem readAt_len {n : Nm} {i k : Int} {d : Disk} (hk : 0 ≤ k) : (d.readAt n i k).2.1.length ≤ k.toNat := by
  unfold Disk.readAt
  simp only
  split
  · simp
  · split
    · simp
    · split
      · simp; omega
      · simp
theorem rin_le {n : Nm} {sz p : Nat} {sh : Bool} {d : Disk} (hp : p ≤ sz) (h : (rin n sz p sh d).2.2 = 0) : (rin n sz p sh d).2.1.2.1 ≤ sz := by
  obtain ⟨_, h2, _, _, _, _, e⟩ := rin_ok h
  have h6 := dec_facts0 h2
  have h7 := readAt_len (n := n) (i := p) (d := d) (k := min 1006 ((sz : Int) - p)) (by omega)
  rw [e]
  simp only
  omega
/-- a reader's place and text -/
structure RsOk (sz : Nat) (s : Rs) : Prop where
  mod : s.2.1.length % 16 = 0
  len : s.2.1.length ≤ 800
theorem RsOk.start (sz : Nat) : RsOk sz (0, [], false) := ⟨rfl, by simp⟩
/-- .. and how many there were -/
structure RsFit (sz k : Nat) (s : Rs) : Prop where
  pos : s.1 ≤ sz
  fit : 16 * k + s.2.1.length ≤ s.1
theorem RsFit.start (sz : Nat) : RsFit sz 0 (0, [], false) := ⟨Nat.zero_le _, by simp⟩
theorem RsFit.size {sz k : Nat} {s : Rs} (h : RsFit sz k s) : 16 * k ≤ sz := by have := h.pos; have := h.fit; omega
theorem RsOk.text {sz : Nat} {s : Rs} (h : RsOk sz s) (hne : s.2.1 ≠ []) : 16 ≤ s.2.1.length := by
  have := List.length_pos_iff.2 hne; have := h.mod; omega
theorem RsOk.next {n : Nm} {sz : Nat} {s : Rs} {d : Disk} (h : RsOk sz s) : RsOk sz (rnext n sz s d).2.1 ∧ ((rnext n sz s d).2.2.1.isSome = true → rleft sz (rnext n sz s d).2.1 < rleft sz s) := by
  unfold rnext
  split
  · rename_i hc
    split
    · exact ⟨h, by simp⟩
    · rename_i h0
      have h1 := rin_text (show (rin n sz s.1 s.2.2 d).2.2 = 0 by omega)
      refine ⟨⟨by simp; omega, by simp; omega⟩, fun _ => ?_⟩
      unfold rleft
      simp only [List.length_drop, hc.1, List.length_nil]
      rw [h1.2.2.2]
      omega
  · split
    · exact ⟨h, by simp⟩
    · rename_i hne
      have h1 := h.text hne
      have h2 := h.mod
      have h3 := h.len
      refine ⟨⟨by simp; omega, by simp; omega⟩, fun _ => ?_⟩
      unfold rleft
      simp only [List.length_drop]
      omega
theorem recOf_lt (t : By) : (recOf t).1 < 18446744073709551616 ∧ (recOf t).2 < 18446744073709551616 := by
  have key : ∀ b : By, unle (b.take 8) < 18446744073709551616 := fun b => by
    have h1 := unle_lt (b.take 8)
    exact Nat.lt_of_lt_of_le h1 (Nat.le_trans (Nat.pow_le_pow_right (by omega) (show (b.take 8).length ≤ 8 by simp; omega)) (by decide))
  exact ⟨key t, key (t.drop 8)⟩
theorem RsFit.next {n : Nm} {sz k : Nat} {s : Rs} {d : Disk} (ho : RsOk sz s) (h : RsFit sz k s) {r : R} (hr : (rnext n sz s d).2.2.1 = some r) : RsFit sz (k + 1) (rnext n sz s d).2.1 ∧ r.1 < 18446744073709551616 ∧ r.2 < 18446744073709551616 := by
  have hf := h.fit
  unfold rnext at hr ⊢
  split at hr
  · rename_i hc
    rw [if_pos hc]
    split at hr
    · simp at hr
    · rename_i h0
      rw [if_neg h0]
      have h0' : (rin n sz s.1 s.2.2 d).2.2 = 0 := by omega
      have h1 := rin_text h0'
      have h2 := rin_le h.pos h0'
      refine ⟨⟨h2, ?_⟩, ?_⟩
      · simp only [List.length_drop]
        rw [h1.2.2.2]
        rw [hc.1] at hf
        simp only [List.length_nil] at hf
        omega
      · have := Option.some.inj hr; rw [← this]; exact recOf_lt _
  · rename_i hc
    rw [if_neg hc]
    split at hr
    · simp at hr
    · rename_i hne
      rw [if_neg hne]
      have h1 := ho.text hne
      refine ⟨⟨h.pos, ?_⟩, ?_⟩
      · simp only [List.length_drop]; omega
      · have := Option.some.inj hr; rw [← this]; exact recOf_lt _
theorem rnext_cnt (n : Nm) (sz : Nat) (s : Rs) (d : Disk) : (rnext n sz s d).1.files.length = d.files.length := by
  unfold rnext; split
  · split <;> exact rin_cnt _ _ _ _ _
  · split <;> rfl
/-- the fuel does not matter -/
theorem rloop_more {n : Nm} {sz : Nat} : ∀ (k : Nat) (s : Rs) (l : List R) (d : Disk), RsOk sz s → rleft sz s < k → rloop n sz (k + 1) s l d = rloop n sz k s l d
  | 0, _, _, _, _, h => absurd h (Nat.not_lt_zero _)
  | k + 1, s, l, d, ho, h => by
    rw [rloop, rloop]
    split
    · rfl
    · split
      · rfl
      · rename_i r hr
        have hn := ho.next (n := n) (d := d)
        exact rloop_more k _ _ _ hn.1 (by have := hn.2 (by rw [hr]; rfl); omega)
theorem rloop_any {n : Nm} {sz : Nat} {s : Rs} {l : List R} {d : Disk} (h : RsOk sz s) : ∀ (j : Nat), rloop n sz (rleft sz s + 1 + j) s l d = rloop n sz (rleft sz s + 1) s l d
  | 0 => rfl
  | j + 1 => by rw [← rloop_any h j]; exact rloop_more (rleft sz s + 1 + j) _ _ _ h (by omega)
theorem rloop_enough {n : Nm} {sz k : Nat} {s : Rs} {l : List R} {d : Disk} (h : RsOk sz s) (hk : rleft sz s < k) : rloop n sz k s l d = rloop n sz (rleft sz s + 1) s l d := by
  have := rloop_any (n := n) (l := l) (d := d) h (k - (rleft sz s + 1))
  rwa [show rleft sz s + 1 + (k - (rleft sz s + 1)) = k from by omega] at this
/-- a round -/
theorem rloop_step {n : Nm} {sz : Nat} {s : Rs} {l : List R} {d : Disk} {r : R} (h : RsOk sz s) (h0 : (rnext n sz s d).2.2.2 = 0) (hr : (rnext n sz s d).2.2.1 = some r) : rloop n sz (rleft sz s + 1) s l d = rloop n sz (rleft sz (rnext n sz s d).2.1 + 1) (rnext n sz s d).2.1 (l ++ [r]) (rnext n sz s d).1 := by
  conv => lhs; rw [rloop]
  rw [if_neg (by omega), hr]
  have hn := h.next (n := n) (d := d)
  exact rloop_enough hn.1 (hn.2 (by rw [hr]; rfl))
theorem rloop_bad {n : Nm} {sz : Nat} {s : Rs} {l : List R} {d : Disk} (h0 : (rnext n sz s d).2.2.2 ≠ 0) : rloop n sz (rleft sz s + 1) s l d = ((rnext n sz s d).1, [], (rnext n sz s d).2.2.2) := by rw [rloop, if_pos h0]
theorem rloop_end {n : Nm} {sz : Nat} {s : Rs} {l : List R} {d : Disk} (h0 : (rnext n sz s d).2.2.2 = 0) (hr : (rnext n sz s d).2.2.1 = none) : rloop n sz (rleft sz s + 1) s l d = ((rnext n sz s d).1, l, 0) := by rw [rloop, if_neg (by omega), hr]
theorem read_bad {n : Nm} {d : Disk} (h : (d.size n).2.2 ≠ 0) : read n d = ((d.size n).1, [], (d.size n).2.2) := by unfold read; rw [if_pos h]
theorem read_go {n : Nm} {d : Disk} (h : (d.size n).2.2 = 0) : read n d = rloop n (d.size n).2.1 (rleft (d.size n).2.1 (0, [], false) + 1) (0, [], false) [] (d.size n).1 := by unfold read; rw [if_neg (by omega)]
theorem rloop_cnt {n : Nm} {sz : Nat} : ∀ (k : Nat) (s : Rs) (l : List R) (d : Disk), (rloop n sz k s l d).1.files.length = d.files.length
  | 0, _, _, _ => rfl
  | k + 1, s, l, d => by
    rw [rloop]
    split
    · exact rnext_cnt _ _ _ _
    · split
      · exact rnext_cnt _ _ _ _
      · rw [rloop_cnt k]; exact rnext_cnt _ _ _ _
theorem read_cnt (n : Nm) (d : Disk) : (read n d).1.files.length = d.files.length := by
  unfold read
  split
  · exact len_size _ _
  · rw [rloop_cnt]; exact len_size _ _
end Go.Cg.Rn
