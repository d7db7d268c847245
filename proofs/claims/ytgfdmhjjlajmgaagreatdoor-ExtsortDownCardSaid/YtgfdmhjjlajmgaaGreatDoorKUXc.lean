/- Plain laws of a sort's passes: parts, counts of files. No condition. -/
import Derived.Test.YtgfdmhjjlajmgaaGreatDoorKUXr
namespace Go.Cg.Xs
set_option linter.unusedVariables false
set_option linter.unusedSimpArgs false
open Go.Cg.Dk Go.Cg.Oc Go.Cg.Sn
open Go.Cg.Rn hiding HeapOk MInv NextP UpEx DnEx lst

/-! ### parts -/
theorem chunk_nil {α : Type} {f : Nat} {l : List α} (h : l = []) : chunk f l = [] := by rw [chunk, dif_pos (.inl h)]
theorem chunk_cons {α : Type} {f : Nat} {l : List α} (h : l ≠ []) (hf : 0 < f) : chunk f l = l.take f :: chunk f (l.drop f) := by
  rw [chunk, dif_neg]; rintro (h1 | h1)
  · exact h h1
  · omega
theorem chunk_lt {α : Type} {f : Nat} (hf : 0 < f) : ∀ (k : Nat) (l : List α), l.length ≤ k → ∀ q, q < (chunk f l).length ↔ q * f < l.length := by
  intro k
  induction k with
  | zero =>
    intro l hl q
    have h0 : l = [] := List.eq_nil_of_length_eq_zero (by omega)
    rw [chunk_nil h0, h0]; simp
  | succ k ih =>
    intro l hl q
    by_cases h0 : l = []
    · rw [chunk_nil h0, h0]; simp
    · have hp := List.length_pos_iff.2 h0
      rw [chunk_cons h0 hf, List.length_cons]
      cases q with
      | zero => simp; omega
      | succ q =>
        have h1 := ih (l.drop f) (by simp; omega) q
        rw [List.length_drop] at h1
        rw [Nat.succ_lt_succ_iff, h1, Nat.succ_mul]
        omega
theorem chunk_iff {α : Type} {f : Nat} (hf : 0 < f) (l : List α) (q : Nat) : q < (chunk f l).length ↔ q * f < l.length := chunk_lt hf l.length l (Nat.le_refl _) q
theorem chunk_drop {α : Type} {f : Nat} (hf : 0 < f) : ∀ (i : Nat) (l : List α), i < (chunk f l).length → (chunk f l).drop i = (l.drop (i * f)).take f :: (chunk f l).drop (i + 1)
  | 0, l, h => by
    have h0 : l ≠ [] := by intro e; rw [chunk_nil e] at h; exact absurd h (Nat.not_lt_zero _)
    conv => lhs; rw [chunk_cons h0 hf]
    conv => rhs; rw [chunk_cons h0 hf]
    simp
  | i + 1, l, h => by
    have h0 : l ≠ [] := by intro e; rw [chunk_nil e] at h; exact absurd h (Nat.not_lt_zero _)
    have e := chunk_cons h0 hf
    rw [e] at h ⊢
    have := chunk_drop hf i (l.drop f) (by simpa using h)
    rw [List.drop_drop, show f + i * f = (i + 1) * f from by rw [Nat.succ_mul]; omega] at this
    simpa using this
theorem chunk_few {α : Type} {f : Nat} (hf : 2 ≤ f) {l : List α} (hl : 2 ≤ l.length) : (chunk f l).length < l.length ∧ 3 * (chunk f l).length ≤ 2 * l.length ∧ 1 ≤ (chunk f l).length := by
  have h0 := (chunk_iff (f := f) (by omega) l 0).2 (by omega)
  obtain ⟨m, hm⟩ : ∃ m, (chunk f l).length = m + 1 := ⟨(chunk f l).length - 1, by omega⟩
  have h1 := (chunk_iff (f := f) (by omega) l m).1 (by omega)
  have h2 : m * 2 ≤ m * f := Nat.mul_le_mul_left _ hf
  omega
/-! ### counts -/
theorem mopen_cnt : ∀ (ns : List Nm) (rs : List Rd) (hs : List Hd) (d : Disk), (mopen ns rs hs d).1.files.length = d.files.length
  | [], _, _, _ => rfl
  | n :: ns, rs, hs, d => by
    rw [mopen]
    split
    · exact len_size _ _
    · split
      · rw [mpush_cnt]; exact len_size _ _
      · rw [mopen_cnt ns, mpush_cnt]; exact len_size _ _
theorem mend_cnt (out : Nm) (last : Option R) (t : By) (d : Disk) : (mend out last t d).1.files.length ≤ d.files.length := by
  unfold mend
  split
  · exact wclose_cnt _ _ _
  · split
    · exact wput_cnt _ _ _ _
    · exact Nat.le_trans (wclose_cnt _ _ _) (wput_cnt _ _ _ _)
theorem mloop_cnt {how : Int} {out : Nm} : ∀ (k : Nat) (rs : List Rd) (hs : List Hd) (last : Option R) (t : By) (d : Disk), (mloop how out k rs hs last t d).1.files.length ≤ d.files.length
  | 0, _, _, _, _, _ => Nat.le_refl _
  | k + 1, rs, hs, last, t, d => by
    have hp := mpush_cnt rs (hg hs 0).2 (hpop hs) d
    by_cases h0 : hs = []
    · rw [mloop_end h0]; exact mend_cnt _ _ _ _
    by_cases he : (mpush rs (hg hs 0).2 (hpop hs) d).2.2 = 0
    · cases last with
      | none => rw [mloop_first h0 he]; exact Nat.le_trans (mloop_cnt k _ _ _ _ _) (by omega)
      | some z =>
        by_cases hc : how ≠ 0 ∧ z.1 = (hg hs 0).1.1
        · rw [mloop_comb h0 he hc]; exact Nat.le_trans (mloop_cnt k _ _ _ _ _) (by omega)
        · have hw := wput_cnt out z t (mpush rs (hg hs 0).2 (hpop hs) d).1
          by_cases hb : (wput out z t (mpush rs (hg hs 0).2 (hpop hs) d).1).2.2 = 0
          · rw [mloop_put h0 he hc hb]; exact Nat.le_trans (mloop_cnt k _ _ _ _ _) (by omega)
          · rw [mloop_wbad h0 he hc hb]; simp only; omega
    · rw [mloop_bad h0 he]; simp only; omega
theorem merge_cnt (how : Int) (out : Nm) (ns : List Nm) (d : Disk) : (merge how out ns d).1.files.length ≤ d.files.length + 1 := by
  have h1 := mopen_cnt ns [] [] d
  have h2 := len_create (mopen ns [] [] d).1 out
  unfold merge
  split
  · simp only; omega
  · split
    · omega
    · exact Nat.le_trans (mloop_cnt _ _ _ _ _ _) (by omega)
theorem gones_cnt : ∀ (l made : List Nm) (d : Disk), (gones l made d).1.files.length ≤ d.files.length ∧ (gones l made d).2.1.length ≤ made.length
  | [], _, _ => ⟨Nat.le_refl _, Nat.le_refl _⟩
  | n :: l, made, d => by
    have h1 := len_remove d n
    rw [gones]
    split
    · exact ⟨h1, Nat.le_refl _⟩
    · obtain ⟨h2, h3⟩ := gones_cnt l (made.filter fun m => !decide (m = n)) (d.remove n).1
      have h4 := List.length_filter_le (fun m => !decide (m = n)) made
      exact ⟨by omega, by omega⟩
section
variable {how : Int} {temp : Nm} {p : List Nm} {ps : List (List Nm)} {nx : List Nm} {tm : Tm} {d : Disk}
theorem pass_b1 (h : (merge how (tname temp (tm.1 + 1)) p d).2 ≠ 0) : pass how temp (p :: ps) nx tm d = ((merge how (tname temp (tm.1 + 1)) p d).1, (tm.1 + 1, tm.2 ++ [tname temp (tm.1 + 1)]), nx, (merge how (tname temp (tm.1 + 1)) p d).2) := by rw [pass, if_pos h]
theorem pass_b2 (h : (merge how (tname temp (tm.1 + 1)) p d).2 = 0) (g : (gones p (tm.2 ++ [tname temp (tm.1 + 1)]) (merge how (tname temp (tm.1 + 1)) p d).1).2.2 ≠ 0) : pass how temp (p :: ps) nx tm d = ((gones p (tm.2 ++ [tname temp (tm.1 + 1)]) (merge how (tname temp (tm.1 + 1)) p d).1).1, (tm.1 + 1, (gones p (tm.2 ++ [tname temp (tm.1 + 1)]) (merge how (tname temp (tm.1 + 1)) p d).1).2.1), nx, (gones p (tm.2 ++ [tname temp (tm.1 + 1)]) (merge how (tname temp (tm.1 + 1)) p d).1).2.2) := by
  rw [pass, if_neg (fun c => c h), if_pos g]
theorem pass_one (h : (merge how (tname temp (tm.1 + 1)) p d).2 = 0) (g : (gones p (tm.2 ++ [tname temp (tm.1 + 1)]) (merge how (tname temp (tm.1 + 1)) p d).1).2.2 = 0) : pass how temp (p :: ps) nx tm d = pass how temp ps (nx ++ [tname temp (tm.1 + 1)]) (tm.1 + 1, (gones p (tm.2 ++ [tname temp (tm.1 + 1)]) (merge how (tname temp (tm.1 + 1)) p d).1).2.1) (gones p (tm.2 ++ [tname temp (tm.1 + 1)]) (merge how (tname temp (tm.1 + 1)) p d).1).1 := by
  rw [pass, if_neg (fun c => c h), if_neg (fun c => c g)]
end
section
variable {how : Int} {temp : Nm} {fan k : Nat} {names : List Nm} {tm : Tm} {d : Disk}
theorem levels_end (h : names.length ≤ 1) : levels how temp fan k names tm d = (d, tm, names, 0) := by
  cases k with
  | zero => rfl
  | succ k => rw [levels, if_pos h]
theorem levels_bad (h : ¬ names.length ≤ 1) (e : (pass how temp (chunk fan names) [] tm d).2.2.2 ≠ 0) : levels how temp fan (k + 1) names tm d = pass how temp (chunk fan names) [] tm d := by rw [levels, if_neg h, if_pos e]
theorem levels_go (h : ¬ names.length ≤ 1) (e : (pass how temp (chunk fan names) [] tm d).2.2.2 = 0) : levels how temp fan (k + 1) names tm d = levels how temp fan k (pass how temp (chunk fan names) [] tm d).2.2.1 (pass how temp (chunk fan names) [] tm d).2.1 (pass how temp (chunk fan names) [] tm d).1 := by rw [levels, if_neg h, if_neg (fun c => c e)]
end
section
variable {nin : Nm} {sz : Nat} {out temp : Nm} {how : Int} {budget fan : Nat} {d d1 : Disk} {tm1 : Tm} {nm1 : List Nm} {n1 e1 : Nat}
theorem all_b1 (h : cut nin sz temp how budget (rleft sz (0, [], false) + 1) (0, [], false) [] [] 0 (0, []) d = (d1, tm1, nm1, n1, e1)) (he : e1 ≠ 0) : all nin sz out temp how budget fan d = (d1, tm1, 0, e1) := by unfold all; simp only; rw [h, if_pos he]
theorem all_b2 (h : cut nin sz temp how budget (rleft sz (0, [], false) + 1) (0, [], false) [] [] 0 (0, []) d = (d1, tm1, nm1, n1, e1)) (he : e1 = 0) {d2 : Disk} {tm2 : Tm} {nm2 : List Nm} {e2 : Nat} (h2 : levels how temp fan nm1.length nm1 tm1 d1 = (d2, tm2, nm2, e2)) (he2 : e2 ≠ 0) : all nin sz out temp how budget fan d = (d2, tm2, 0, e2) := by
  unfold all; simp only; rw [h, if_neg (fun c => c he)]; simp only; rw [h2, if_pos he2]
theorem all_g (h : cut nin sz temp how budget (rleft sz (0, [], false) + 1) (0, [], false) [] [] 0 (0, []) d = (d1, tm1, nm1, n1, e1)) (he : e1 = 0) {d2 : Disk} {tm2 : Tm} {nm2 : List Nm} {e2 : Nat} (h2 : levels how temp fan nm1.length nm1 tm1 d1 = (d2, tm2, nm2, e2)) (he2 : e2 = 0) : all nin sz out temp how budget fan d = ends out nm2 (passes n1 budget fan) tm2 d2 := by
  unfold all; simp only; rw [h, if_neg (fun c => c he)]; simp only; rw [h2, if_neg (fun c => c he2)]
end
/-! ### what a cut leaves -/
theorem cut_cnt {nin : Nm} {sz : Nat} {temp : Nm} {how : Int} {budget : Nat} : ∀ (k : Nat) (s : Rs) (l : List R) (names : List Nm) (n : Nat) (tm : Tm) (d : Disk),
    (cut nin sz temp how budget k s l names n tm d).1.files.length + tm.1 ≤ d.files.length + (cut nin sz temp how budget k s l names n tm d).2.1.1 ∧ (cut nin sz temp how budget k s l names n tm d).2.1.2.length + tm.1 = tm.2.length + (cut nin sz temp how budget k s l names n tm d).2.1.1 ∧
    ((cut nin sz temp how budget k s l names n tm d).2.2.2.2 = 0 → (cut nin sz temp how budget k s l names n tm d).2.2.1.length + tm.1 = names.length + (cut nin sz temp how budget k s l names n tm d).2.1.1)
  | 0, _, _, _, _, _, _ => ⟨Nat.le_refl _, Nat.add_comm _ _ ▸ rfl, fun _ => Nat.add_comm _ _ ▸ rfl⟩
  | k + 1, s, l, names, n, tm, d => by
    have hr := rnext_cnt nin sz s d
    have hw : ∀ l : List R, (run temp how l tm (rnext nin sz s d).1).1.files.length ≤ (rnext nin sz s d).1.files.length + 1 := fun l => write_cnt _ _ _
    have ht : ∀ l : List R, (run temp how l tm (rnext nin sz s d).1).2.1 = (tm.1 + 1, tm.2 ++ [tname temp (tm.1 + 1)]) := fun l => rfl
    rw [cut]
    split
    · exact ⟨by first | omega | (simp only; omega) | simp only, by first | omega | (simp only; omega) | simp only, fun h => by simp only at h; rename_i h1; exact absurd h h1⟩
    · cases hx : (rnext nin sz s d).2.2.1 with
      | none =>
        simp only
        split
        · exact ⟨by first | omega | (simp only; omega) | simp only, by first | omega | (simp only; omega) | simp only, fun _ => by first | omega | (simp only; omega) | simp only⟩
        · have hwl := hw l
          split
          · rw [ht]; exact ⟨by first | omega | (simp only; omega) | simp only, by simp; omega, fun h => by simp only at h; rename_i h1; exact absurd h h1⟩
          · rw [ht]; exact ⟨by first | omega | (simp only; omega) | simp only, by simp; omega, fun _ => by simp; omega⟩
      | some r =>
        simp only
        split
        · have hwl := hw (l ++ [r])
          split
          · rw [ht]; exact ⟨by first | omega | (simp only; omega) | simp only, by simp; omega, fun h => by simp only at h; rename_i h1; exact absurd h h1⟩
          · obtain ⟨h1, h2, h3⟩ := cut_cnt (nin := nin) (sz := sz) (temp := temp) (how := how) (budget := budget) k (rnext nin sz s d).2.1 [] (names ++ [tname temp (tm.1 + 1)]) (n + 1) (run temp how (l ++ [r]) tm (rnext nin sz s d).1).2.1 (run temp how (l ++ [r]) tm (rnext nin sz s d).1).1
            rw [ht] at h1 h2 h3 ⊢
            simp only [List.length_append, List.length_cons, List.length_nil] at h1 h2 h3 ⊢
            exact ⟨by omega, by omega, fun h => by have := h3 h; omega⟩
        · obtain ⟨h1, h2, h3⟩ := cut_cnt (nin := nin) (sz := sz) (temp := temp) (how := how) (budget := budget) k (rnext nin sz s d).2.1 (l ++ [r]) names (n + 1) tm (rnext nin sz s d).1
          exact ⟨by omega, h2, h3⟩
theorem cut_few {nin : Nm} {sz : Nat} {temp : Nm} {how : Int} {budget : Nat} : ∀ (k : Nat) (s : Rs) (l : List R) (names : List Nm) (n : Nat) (tm : Tm) (d : Disk), RsOk sz s → RsFit sz n s → l.length + names.length ≤ n →
    (cut nin sz temp how budget k s l names n tm d).2.2.1.length ≤ (cut nin sz temp how budget k s l names n tm d).2.2.2.1 ∧ 16 * (cut nin sz temp how budget k s l names n tm d).2.2.2.1 ≤ sz ∧ 16 * (cut nin sz temp how budget k s l names n tm d).2.1.1 + 16 * n ≤ 16 * tm.1 + 16 * l.length + sz
  | 0, s, l, names, n, tm, d, ho, hf, hl => by
    have := hf.size
    exact ⟨by show names.length ≤ n; omega, this, by show 16 * tm.1 + 16 * n ≤ _; omega⟩
  | k + 1, s, l, names, n, tm, d, ho, hf, hl => by
    have hsz := hf.size
    have ht : ∀ l : List R, (run temp how l tm (rnext nin sz s d).1).2.1 = (tm.1 + 1, tm.2 ++ [tname temp (tm.1 + 1)]) := fun l => rfl
    rw [cut]
    split
    · exact ⟨Nat.zero_le _, Nat.zero_le _, by simp only; omega⟩
    · cases hx : (rnext nin sz s d).2.2.1 with
      | none =>
        simp only
        split
        · exact ⟨by simp only; omega, hsz, by simp only; omega⟩
        · rename_i hl0
          have hp := List.length_pos_iff.2 hl0
          split
          · rw [ht]; exact ⟨Nat.zero_le _, Nat.zero_le _, by simp only; omega⟩
          · rw [ht]; exact ⟨by simp; omega, hsz, by simp only; omega⟩
      | some r =>
        have hn := (ho.next (n := nin) (d := d)).1
        have hf2 := (hf.next ho hx).1
        have hsz2 := hf2.size
        simp only
        split
        · split
          · rw [ht]; exact ⟨Nat.zero_le _, Nat.zero_le _, by simp only; omega⟩
          · obtain ⟨h1, h2, h3⟩ := cut_few (nin := nin) (sz := sz) (temp := temp) (how := how) (budget := budget) k (rnext nin sz s d).2.1 [] (names ++ [tname temp (tm.1 + 1)]) (n + 1) (run temp how (l ++ [r]) tm (rnext nin sz s d).1).2.1 (run temp how (l ++ [r]) tm (rnext nin sz s d).1).1 hn hf2 (by simp; omega)
            rw [ht] at h1 h2 h3 ⊢
            simp only [List.length_nil] at h3
            exact ⟨h1, h2, by omega⟩
        · obtain ⟨h1, h2, h3⟩ := cut_few (nin := nin) (sz := sz) (temp := temp) (how := how) (budget := budget) k (rnext nin sz s d).2.1 (l ++ [r]) names (n + 1) tm (rnext nin sz s d).1 hn hf2 (by simp; omega)
          simp only [List.length_append, List.length_cons, List.length_nil] at h3
          exact ⟨h1, h2, by omega⟩
/-! ### what all of it leaves -/
theorem pass_cnt {how : Int} {temp : Nm} : ∀ (ps : List (List Nm)) (nx : List Nm) (tm : Tm) (d : Disk), (pass how temp ps nx tm d).1.files.length + tm.1 ≤ d.files.length + (pass how temp ps nx tm d).2.1.1 ∧ (pass how temp ps nx tm d).2.1.2.length + tm.1 ≤ tm.2.length + (pass how temp ps nx tm d).2.1.1 ∧ (pass how temp ps nx tm d).2.1.1 ≤ tm.1 + ps.length ∧ tm.1 ≤ (pass how temp ps nx tm d).2.1.1 ∧
    (pass how temp ps nx tm d).2.2.1.length ≤ nx.length + ps.length
  | [], _, _, _ => ⟨Nat.le_refl _, Nat.le_refl _, Nat.le_refl _, Nat.le_refl _, Nat.le_refl _⟩
  | p :: ps, nx, tm, d => by
    have hm := merge_cnt how (tname temp (tm.1 + 1)) p d
    obtain ⟨g1, g2⟩ := gones_cnt p (tm.2 ++ [tname temp (tm.1 + 1)]) (merge how (tname temp (tm.1 + 1)) p d).1
    simp only [List.length_append, List.length_cons, List.length_nil] at g2
    by_cases h : (merge how (tname temp (tm.1 + 1)) p d).2 = 0
    · by_cases g : (gones p (tm.2 ++ [tname temp (tm.1 + 1)]) (merge how (tname temp (tm.1 + 1)) p d).1).2.2 = 0
      · rw [pass_one h g]
        obtain ⟨k1, k2, k3, k4, k5⟩ := pass_cnt (how := how) (temp := temp) ps (nx ++ [tname temp (tm.1 + 1)]) (tm.1 + 1, (gones p (tm.2 ++ [tname temp (tm.1 + 1)]) (merge how (tname temp (tm.1 + 1)) p d).1).2.1) (gones p (tm.2 ++ [tname temp (tm.1 + 1)]) (merge how (tname temp (tm.1 + 1)) p d).1).1
        simp only [List.length_append, List.length_cons, List.length_nil] at k1 k2 k3 k4 k5 ⊢
        exact ⟨by omega, by omega, by omega, by omega, by omega⟩
      · rw [pass_b2 h g]; simp only [List.length_cons]
        exact ⟨by omega, by omega, by omega, by omega, by omega⟩
    · rw [pass_b1 h]; simp only [List.length_cons, List.length_append, List.length_nil]
      exact ⟨by omega, by omega, by omega, by omega, by omega⟩
theorem levels_cnt {how : Int} {temp : Nm} {fan : Nat} (hf : 2 ≤ fan) : ∀ (k : Nat) (names : List Nm) (tm : Tm) (d : Disk), (levels how temp fan k names tm d).1.files.length + tm.1 ≤ d.files.length + (levels how temp fan k names tm d).2.1.1 ∧ (levels how temp fan k names tm d).2.1.2.length + tm.1 ≤ tm.2.length + (levels how temp fan k names tm d).2.1.1 ∧ (levels how temp fan k names tm d).2.1.1 ≤ tm.1 + 2 * names.length ∧ tm.1 ≤ (levels how temp fan k names tm d).2.1.1
  | 0, _, _, _ => ⟨Nat.le_refl _, Nat.le_refl _, by show _ ≤ _; exact Nat.le_add_right _ _, Nat.le_refl _⟩
  | k + 1, names, tm, d => by
    by_cases hl : names.length ≤ 1
    · rw [levels_end hl]; exact ⟨Nat.le_refl _, Nat.le_refl _, Nat.le_add_right _ _, Nat.le_refl _⟩
    · obtain ⟨c1, c2, c3⟩ := chunk_few hf (l := names) (by omega)
      obtain ⟨p1, p2, p3, p4, p5⟩ := pass_cnt (how := how) (temp := temp) (chunk fan names) [] tm d
      by_cases e : (pass how temp (chunk fan names) [] tm d).2.2.2 = 0
      · rw [levels_go hl e]
        obtain ⟨k1, k2, k3, k4⟩ := levels_cnt (how := how) (temp := temp) hf k (pass how temp (chunk fan names) [] tm d).2.2.1 (pass how temp (chunk fan names) [] tm d).2.1 (pass how temp (chunk fan names) [] tm d).1
        simp only [List.length_nil] at p5
        exact ⟨by omega, by omega, by omega, by omega⟩
      · rw [levels_bad hl e]
        exact ⟨p1, p2, by omega, p4⟩
theorem ends_cnt (out : Nm) (names : List Nm) (p : Nat) (tm : Tm) (d : Disk) : (ends out names p tm d).1.files.length ≤ d.files.length + 1 ∧ (ends out names p tm d).2.1.2.length ≤ tm.2.length := by
  unfold ends
  cases names with
  | nil => exact ⟨write_cnt _ _ _, Nat.le_refl _⟩
  | cons a l =>
    have := len_rename d a out
    simp only
    split
    · exact ⟨by simp only; omega, Nat.le_refl _⟩
    · exact ⟨by simp only; omega, Nat.zero_le _⟩
theorem all_cnt {nin : Nm} {sz : Nat} {out temp : Nm} {how : Int} {budget fan : Nat} (hf : 2 ≤ fan) (d : Disk) : 16 * (all nin sz out temp how budget fan d).1.files.length ≤ 16 * d.files.length + 3 * sz + 16 ∧ 16 * (all nin sz out temp how budget fan d).2.1.2.length ≤ 3 * sz := by
  obtain ⟨d1, tm1, nm1, n1, e1, hcut⟩ : ∃ d1 tm1 nm1 n1 e1, cut nin sz temp how budget (rleft sz (0, [], false) + 1) (0, [], false) [] [] 0 (0, []) d = (d1, tm1, nm1, n1, e1) := ⟨_, _, _, _, _, rfl⟩
  have hcc := cut_cnt (nin := nin) (sz := sz) (temp := temp) (how := how) (budget := budget) (rleft sz (0, [], false) + 1) (0, [], false) [] [] 0 (0, []) d
  have hcf := cut_few (nin := nin) (sz := sz) (temp := temp) (how := how) (budget := budget) (rleft sz (0, [], false) + 1) (0, [], false) [] [] 0 (0, []) d (RsOk.start _) (RsFit.start _) (Nat.le_refl _)
  rw [hcut] at hcc hcf
  simp only [List.length_nil] at hcc hcf
  by_cases he : e1 = 0
  · obtain ⟨d2, tm2, nm2, e2, h2⟩ : ∃ d2 tm2 nm2 e2, levels how temp fan nm1.length nm1 tm1 d1 = (d2, tm2, nm2, e2) := ⟨_, _, _, _, rfl⟩
    have hl := levels_cnt (how := how) (temp := temp) hf nm1.length nm1 tm1 d1
    rw [h2] at hl
    simp only at hl
    by_cases he2 : e2 = 0
    · rw [all_g hcut he h2 he2]
      have := ends_cnt out nm2 (passes n1 budget fan) tm2 d2
      omega
    · rw [all_b2 hcut he h2 he2]; simp only; omega
  · rw [all_b1 hcut he]; simp only; omega
end Go.Cg.Xs
