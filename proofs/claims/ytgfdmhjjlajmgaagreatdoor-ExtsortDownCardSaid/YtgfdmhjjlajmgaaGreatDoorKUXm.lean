/- Plain laws of a merge on a disk. No condition. -/
import Derived.Test.YtgfdmhjjlajmgaaGreatDoorKUXs
import Derived.Test.YtgfdmhjjlajmgaaGreatDoorKUAg
namespace Go.Cg.Xs
set_option linter.unusedVariables false
set_option linter.unusedSimpArgs false
open Go.Cg.Dk Go.Cg.Oc Go.Cg.Sn Go.Cg.Cl
open Go.Cg.Rn hiding HeapOk MInv NextP UpEx DnEx lst

/-! ### sizes -/
/-- the sectors of a file of so many records -/
def secN (n : Nat) : Nat := sectors (806 * (n / 50) + (if n % 50 = 0 then 0 else 16 * (n % 50) + 6))
theorem sec_FBn (l : List R) : sectors (FB l).length = secN l.length := by rw [FB_len]; rfl
theorem secN_mono {a b : Nat} (h : a ≤ b) : secN a ≤ secN b := by
  unfold secN sectors
  split <;> split <;> omega
theorem secN_le (n : Nat) : secN n ≤ 2 * n := by unfold secN sectors; split <;> omega
theorem sec_full (l : List R) : sectors (full l).length ≤ secN l.length := by
  rw [full_len]; unfold secN sectors; split <;> omega
@[simp] theorem secN_zero : secN 0 = 0 := rfl
/-! ### what a reader tells -/
theorem pnext_ok {b : By} {s : Rs} (ho : RsOk b.length s) : RsOk b.length (pnext b s).1 ∧ ((pnext b s).2.1.isSome = true → rleft b.length (pnext b s).1 < rleft b.length s) := by
  have hn : fget (Dk.fput [] [97] ⟨b, b⟩) [97] = some ⟨b, b⟩ := by rw [fget_fput, if_pos rfl]
  rcases rnext_pure (d := fresh 0) rfl 0 0 hn s with ⟨h1, _⟩ | ⟨o', a', h2, h3⟩
  · omega
  · have hN := ho.next (n := [97]) (d := dk (fresh 0) 0 0 (Dk.fput [] [97] ⟨b, b⟩))
    have h2 : rnext [97] b.length s (dk (fresh 0) 0 0 (Dk.fput [] [97] ⟨b, b⟩)) = (dk (fresh 0) o' a' (Dk.fput [] [97] ⟨b, b⟩), pnext b s) := h2
    rw [h2] at hN
    simp only at hN
    exact hN
theorem rds_len {b : By} {e : Nat} : ∀ (l : List R) (s : Rs), RsOk b.length s → Rds b s l e → l.length ≤ rleft b.length s
  | [], _, _, _ => Nat.zero_le _
  | r :: l, s, ho, h => by
    obtain ⟨s', h1, h2⟩ := h
    have h3 := pnext_ok ho
    rw [h1] at h3
    have h4 := rds_len l s' h3.1 h2
    have h5 := h3.2 rfl
    simp only [List.length_cons] at *
    omega
/-- readers, and what is left in each -/
structure RR (fs : Fs) (out : Nm) (rs : List Rd) (rq : List (List R)) : Prop where
  lt : rs.length < rq.length
  ats : ∀ j, j < rs.length → ∃ f, fget fs (rs.getD j rd0).1 = some f ∧ (rs.getD j rd0).2.1 = f.now.length ∧ Rds f.now (rs.getD j rd0).2.2 (rg rq (j + 1)) 0 ∧ RsOk f.now.length (rs.getD j rd0).2.2 ∧ (rs.getD j rd0).1 ≠ out
theorem RR.off {fs fs' : Fs} {out : Nm} {rs : List Rd} {rq : List (List R)} (h : RR fs out rs rq) (hf : ∀ m, m ≠ out → fget fs' m = fget fs m) : RR fs' out rs rq :=
  ⟨h.lt, fun j hj => by obtain ⟨f, h1, h2, h3, h4, h5⟩ := h.ats j hj; exact ⟨f, by rw [hf _ h5]; exact h1, h2, h3, h4, h5⟩⟩
theorem getD_set {α : Type} {l : List α} {i j : Nat} {x z : α} (h : i < l.length) : (l.set i x).getD j z = if j = i then x else l.getD j z := by
  rw [List.getD_eq_getElem?_getD, List.getD_eq_getElem?_getD, List.getElem?_set]
  by_cases e : i = j
  · subst e; simp [h]
  · rw [if_neg e, if_neg (fun h => e h.symm)]
theorem getD_snoc {α : Type} {l : List α} {j : Nat} {x z : α} : (l ++ [x]).getD j z = if j = l.length then x else l.getD j z := by
  rw [List.getD_eq_getElem?_getD, List.getD_eq_getElem?_getD]
  by_cases e : j = l.length
  · subst e; simp
  · rw [if_neg e]
    by_cases h : j < l.length
    · rw [List.getElem?_append_left h]
    · rw [List.getElem?_append_right (by omega), List.getElem?_eq_none (by simp; omega), List.getElem?_eq_none (by omega)]
theorem RR.left {fs : Fs} {out : Nm} {rs : List Rd} {rq : List (List R)} (h : RR fs out rs rq) (hl : rq.length = rs.length + 1) (h0 : rg rq 0 = []) : rq.flatten.length ≤ (rs.map fun e => rleft e.2.1 e.2.2).sum := by
  have key : ∀ (rs : List Rd) (ql : List (List R)), ql.length = rs.length → (∀ j, j < rs.length → (ql.getD j []).length ≤ rleft (rs.getD j rd0).2.1 (rs.getD j rd0).2.2) → ql.flatten.length ≤ (rs.map fun e => rleft e.2.1 e.2.2).sum := by
    intro rs
    induction rs with
    | nil => intro ql hq _; rw [List.eq_nil_of_length_eq_zero hq]; simp
    | cons e rs ih =>
      intro ql hq hh
      cases ql with
      | nil => simp at hq
      | cons l ql =>
        have h1 := ih ql (by simpa using hq) (fun j hj => by have := hh (j + 1) (by simpa using hj); simpa using this)
        have h2 := hh 0 (by simp)
        simp only [List.getD_cons_zero] at h2
        simp only [List.flatten_cons, List.length_append, List.map_cons, List.sum_cons]
        omega
  cases rq with
  | nil => simp at hl
  | cons q0 ql =>
    have e0 : q0 = [] := h0
    subst e0
    rw [List.flatten_cons, List.nil_append]
    refine key rs ql (by simpa using hl) fun j hj => ?_
    obtain ⟨f, h1, h2, h3, h4, h5⟩ := h.ats j hj
    rw [h2]
    exact rds_len _ _ h4 h3
section
variable {d : Disk} (hu : d.down = false)
include hu
theorem mpush_go (o : Int) (a : Nat) {fs : Fs} {out : Nm} {rs : List Rd} {rq : List (List R)} {hs : List Hd} {i : Nat} (h : RR fs out rs rq) (hi : 1 ≤ i ∧ i ≤ rs.length) (hok : HeapOk hs) :
    (1 ≤ a ∧ ∃ o' X, mpush rs i hs (dk d o a fs) = (dn d o' (tornAll fs d.keep), X, 7)) ∨
    ∃ o' a' rs' hs' rq', mpush rs i hs (dk d o a fs) = (dk d o' a' fs, (rs', hs'), 0) ∧ (a = 0 → a' = 0) ∧ NextP hs rq i hs' rq' ∧ RR fs out rs' rq' ∧ rs'.length = rs.length := by
  obtain ⟨f, h1, h2, h3, h4, h5⟩ := h.ats (i - 1) (by omega)
  rw [show i - 1 + 1 = i from by omega] at h3
  have hlt := h.lt
  unfold mpush
  rw [h2]
  generalize hs0 : (rs.getD (i - 1) rd0).2.2 = s at h3 h4 ⊢
  rcases rnext_pure hu o a h1 s with ⟨k1, o', k2⟩ | ⟨o', a', k2, k3⟩
  · left; rw [k2]; exact ⟨k1, o', _, rfl⟩
  · right
    have hoff : ∀ (s' : Rs) (rq' : List (List R)), rq'.length = rq.length → (∀ j, j ≠ i → rg rq' j = rg rq j) → Rds f.now s' (rg rq' i) 0 → RsOk f.now.length s' → RR fs out (rs.set (i - 1) ((rs.getD (i - 1) rd0).1, f.now.length, s')) rq' := by
      intro s' rq' e1 e2 e3 e4
      refine ⟨by simp; omega, fun j hj => ?_⟩
      rw [List.length_set] at hj
      rw [getD_set (by omega)]
      by_cases e : j = i - 1
      · rw [if_pos e]
        exact ⟨f, h1, rfl, by rw [e, show i - 1 + 1 = i from by omega]; exact e3, e4, h5⟩
      · rw [if_neg e, e2 _ (by omega)]
        exact h.ats j hj
    have hpk := pnext_ok h4
    cases hq : rg rq i with
    | nil =>
      rw [hq] at h3
      have h3 : pnext f.now s = (s, none, 0) := h3
      rw [k2, h3]
      exact ⟨o', a', _, hs, rq, rfl, k3, .inl ⟨hq, rfl, rfl⟩, hoff s rq rfl (fun _ _ => rfl) (by rw [hq]; exact h3) h4, by simp⟩
    | cons r q =>
      rw [hq] at h3
      obtain ⟨s', h6, h7⟩ := h3
      rw [h6] at hpk
      rw [k2, h6]
      obtain ⟨p1, p2⟩ := hpush_ok hok (r, i)
      refine ⟨o', a', _, hpush hs (r, i), rq.set i q, rfl, k3, .inr ⟨r, q, hq, p1, p2, rfl⟩, hoff s' _ (by simp) (fun j hj => by rw [rg_set (by omega), if_neg hj]) (by rw [rg_set (by omega), if_pos rfl]; exact h7) hpk.1, by simp⟩
/-- all readers are opened -/
theorem mopen_go {fs : Fs} {out : Nm} : ∀ (ns : List Nm) (ls : List (List R)) (o : Int) (a : Nat) (rs : List Rd) (hs : List Hd) (rq : List (List R)) (all : List R),
    ns.length = ls.length → (∀ j, j < ns.length → ∃ f, fget fs (ns.getD j []) = some f ∧ f.now = FB (ls.getD j []) ∧ Bd (ls.getD j []) ∧ Up (ls.getD j []) ∧ ns.getD j [] ≠ out) →
    RR fs out rs rq → MInv all [] hs rq rq.length → rq.length = rs.length + ns.length + 1 → (∀ j, j = 0 ∨ rs.length < j → rg rq j = []) → (∀ h ∈ hs, 1 ≤ h.2 ∧ h.2 ≤ rs.length) →
    (1 ≤ a ∧ ∃ o' X, mopen ns rs hs (dk d o a fs) = (dn d o' (tornAll fs d.keep), X, 7)) ∨
    ∃ o' a' rs' hs' rq', mopen ns rs hs (dk d o a fs) = (dk d o' a' fs, (rs', hs'), 0) ∧ (a = 0 → a' = 0) ∧ RR fs out rs' rq' ∧ MInv (all ++ ls.flatten) [] hs' rq' rq'.length ∧ rq'.length = rs'.length + 1 ∧ (∀ h ∈ hs', 1 ≤ h.2) ∧ rg rq' 0 = []
  | [], ls, o, a, rs, hs, rq, all, hl, _, hR, hM, hq, hz, hh => by
    have e : ls = [] := List.eq_nil_of_length_eq_zero hl.symm
    subst e
    exact .inr ⟨o, a, rs, hs, rq, rfl, id, hR, by simpa using hM, by simpa using hq, fun h hm => (hh h hm).1, hz 0 (.inl rfl)⟩
  | n :: ns, [], _, _, _, _, _, _, hl, _, _, _, _, _, _ => by simp at hl
  | n :: ns, l :: ls, o, a, rs, hs, rq, all, hl, hf, hR, hM, hq, hz, hh => by
    obtain ⟨f, h1, h2, h3, h4, h5⟩ := hf 0 (by simp)
    simp only [List.getD_cons_zero] at h1 h2 h3 h4 h5
    rw [mopen]
    by_cases a1 : a = 1
    · subst a1; left
      have e : (dk d o 1 fs).size n = (dn d (nx o) (tornAll fs d.keep), 0, 7) := by unfold Disk.size; simp only; rw [mk_fall hu, if_pos dn_down]
      rw [e, if_pos (by simp)]
      exact ⟨Nat.le_refl _, _, _, rfl⟩
    have e := size_up hu o a fs a1 h1
    rw [e, if_neg (by simp)]
    simp only
    simp only [List.length_cons] at hq
    have hsl : sort l = l := sort_eq (List.Perm.refl l) h4
    have m1 := hM.run (i := rs.length + 1) (l := l) (Nat.le_refl _) (by omega) (hz _ (.inr (by omega))) (fun h hm => by have := (hh h hm).2; omega)
    rw [hsl] at m1
    have R1 : RR fs out (rs ++ [(n, f.now.length, (0, [], false))]) (rq.set (rs.length + 1) l) := by
      refine ⟨by simp; omega, fun j hj => ?_⟩
      rw [getD_snoc]
      by_cases ej : j = rs.length
      · rw [if_pos ej, ej, rg_set (by omega), if_pos rfl]
        exact ⟨f, h1, rfl, by rw [h2]; exact rds_FB h3, RsOk.start _, h5⟩
      · rw [if_neg ej, rg_set (by omega), if_neg (by omega)]
        exact hR.ats j (by simp at hj; omega)
    rcases mpush_go hu (nx o) (a - 1) R1 (i := rs.length + 1) (by simp) hM.ok with ⟨k1, o', X, k2⟩ | ⟨o', a', rs', hs', rq', k2, k3, k4, k5, k6⟩
    · left; rw [k2, if_pos (by simp)]; exact ⟨by omega, o', X, rfl⟩
    · rw [k2, if_neg (by simp)]
      simp only
      have hlq : rq'.length = rq.length := by rw [k4.len]; simp
      have hrl : rs'.length = rs.length + 1 := by simpa using k6
      have m2 := m1.next (by simp; omega) k4 rq'.length (by rw [k4.len]; exact Nat.le_refl _)
      have hz2 : ∀ j, j = 0 ∨ rs'.length < j → rg rq' j = [] := by
        intro j hj
        rcases k4 with ⟨_, _, rfl⟩ | ⟨r, q, _, _, _, rfl⟩
        · rw [rg_set (by omega), if_neg (by omega)]; exact hz j (by omega)
        · rw [rg_set (by simp; omega), if_neg (by omega), rg_set (by omega), if_neg (by omega)]; exact hz j (by omega)
      have hh2 : ∀ h ∈ hs', 1 ≤ h.2 ∧ h.2 ≤ rs'.length := by
        intro h hm
        rcases k4 with ⟨_, rfl, _⟩ | ⟨r, q, _, _, hp, _⟩
        · have := hh h hm; omega
        · rcases List.mem_cons.1 (hp.mem_iff.1 hm) with rfl | hm
          · simp; omega
          · have := hh h hm; omega
      rcases mopen_go ns ls o' a' rs' hs' rq' (all ++ l) (by simpa using hl) (fun j hj => by have := hf (j + 1) (by simpa using hj); simpa using this) k5 m2 (by omega) hz2 hh2 with ⟨j1, o2, X, j2⟩ | ⟨o2, a2, rs2, hs2, rq2, j2, j3, j4, j5, j6, j7, j8⟩
      · exact .inl ⟨by omega, o2, X, j2⟩
      · exact .inr ⟨o2, a2, rs2, hs2, rq2, j2, fun e => j3 (k3 (by omega)), j4, by rw [List.flatten_cons, ← List.append_assoc]; exact j5, j6, j7, j8⟩
end
/-- what is written of what came so far -/
def LastOk (how : Int) (p : List R) (last : Option R) (W : List R) : Prop := (last = none ∧ p = [] ∧ W = []) ∨ ∃ z, last = some z ∧ fold how p = W ++ [z]
theorem LastOk.len {how : Int} {p : List R} {last : Option R} {W : List R} {z : R} (h : LastOk how p last W) (hl : last = some z) : fold how p = W ++ [z] ∧ W.length + 1 ≤ p.length := by
  rcases h with ⟨h, _⟩ | ⟨y, h, h2⟩
  · rw [h] at hl; cases hl
  · rw [h] at hl; cases hl
    refine ⟨h2, ?_⟩
    have := fold_len how p
    rw [h2] at this; simpa using this
/-- how a file is written, at the end: the disk falls; there is no room; it is there -/
def Out (d : Disk) (a : Nat) (fs : Fs) (out : Nm) (U n : Nat) (F : List R) (x : Disk × Nat) : Prop :=
  (1 ≤ a ∧ ∃ o' fs', x = (dn d o' (tornAll fs' d.keep), 7) ∧ Part out (secN n) fs fs') ∨
  (∃ o' a' fs', x = (dk d o' a' fs', 6) ∧ (a = 0 → a' = 0) ∧ rising fs' ∧ (∃ f, fget fs' out = some f) ∧ (∀ m, m ≠ out → fget fs' m = fget fs m) ∧ fs'.length ≤ fs.length ∧ d.room < U + secN n) ∨
  ∃ o' a' fs', x = (dk d o' a' fs', 0) ∧ (a = 0 → a' = 0) ∧ rising fs' ∧ (∀ m, fget fs' m = if m = out then some ⟨FB F, FB F⟩ else fget fs m) ∧ used fs' = U + secN F.length ∧ fs'.length ≤ fs.length
theorem Out.step {d : Disk} {a a' : Nat} {fs fs' : Fs} {out : Nm} {U n : Nat} {F : List R} {x : Disk × Nat} (h : Out d a' fs' out U n F x) (ha : 1 ≤ a' → 1 ≤ a) (ha0 : a = 0 → a' = 0) (hf : ∀ m, m ≠ out → fget fs' m = fget fs m) (hl : fs'.length ≤ fs.length) : Out d a fs out U n F x := by
  rcases h with ⟨h1, o', f2, h2, h3⟩ | ⟨o', a2, f2, h2, h3, h4, h5, h6, h7, h8⟩ | ⟨o', a2, f2, h2, h3, h4, h5, h6, h7⟩
  · exact .inl ⟨ha h1, o', f2, h2, h3.back hf⟩
  · exact .inr (.inl ⟨o', a2, f2, h2, fun e => h3 (ha0 e), h4, h5, fun m hm => by rw [h6 m hm, hf m hm], by omega, h8⟩)
  · refine .inr (.inr ⟨o', a2, f2, h2, fun e => h3 (ha0 e), h4, fun m => ?_, h6, by omega⟩)
    rw [h5]
    split
    · rfl
    · rename_i e; exact hf m e
section
variable {d : Disk} (hu : d.down = false)
include hu
theorem shut_go (o : Int) (a : Nat) {fs : Fs} (hris : rising fs) {out : Nm} {W : List R} {t : By} {U n : Nat} (hW : Wr fs out W t) (hU : used fs = U + sectors (full W).length) (hn : W.length ≤ n) : Out d a fs out U n W (wclose out t (dk d o a fs)) := by
  have h1 := sec_FBn W
  have h2 := secN_mono hn
  rcases wclose_go hu o a hris hW with ⟨k1, o', f2, k2, k3⟩ | ⟨o', a', k2, k3, k4⟩ | ⟨o', a', f2, k2, k3, k4, k5, k6, k7⟩
  · exact .inl ⟨k1, o', f2, k2, k3.le (by omega)⟩
  · exact .inr (.inl ⟨o', a', fs, k2, k3, hris, ⟨_, hW.get⟩, fun _ _ => rfl, Nat.le_refl _, by omega⟩)
  · exact .inr (.inr ⟨o', a', f2, k2, k3, k4, k5, by omega, k7⟩)
theorem mend_go (o : Int) (a : Nat) {fs : Fs} (hris : rising fs) {how : Int} {out : Nm} {p W : List R} {last : Option R} {t : By} {U n : Nat} (hW : Wr fs out W t) (hU : used fs = U + sectors (full W).length) (hL : LastOk how p last W) (hn : p.length ≤ n) : Out d a fs out U n (fold how p) (mend out last t (dk d o a fs)) := by
  cases hl : last with
  | none =>
    rcases hL with ⟨_, rfl, rfl⟩ | ⟨z, h, _⟩
    · exact shut_go hu o a hris hW hU (Nat.zero_le _)
    · rw [h] at hl; cases hl
  | some z =>
    obtain ⟨h1, h2⟩ := hL.len hl
    rw [h1]
    show Out d a fs out U n (W ++ [z]) (if (wput out z t (dk d o a fs)).2.2 ≠ 0 then _ else _)
    have h3 := secN_mono (show (W ++ [z]).length ≤ n by simp; omega)
    have h4 := sec_full (W ++ [z])
    rcases wput_go hu o a hris hW z with ⟨k1, o', k2⟩ | ⟨o', a', k2, k3, k4⟩ | ⟨o', a', f2, k2, k3, k4, k5, k6, k7, k8⟩
    · rw [k2, if_pos (by simp)]; exact .inl ⟨k1, o', fs, rfl, hW.part hris (by have := sec_full W; have := secN_mono (show W.length ≤ n by omega); omega)⟩
    · rw [k2, if_pos (by simp)]; exact .inr (.inl ⟨o', a', fs, rfl, k3, hris, ⟨_, hW.get⟩, fun _ _ => rfl, Nat.le_refl _, by omega⟩)
    · rw [k2, if_neg (by simp)]
      exact (shut_go hu o' a' k4 k5 (U := U) (by omega) (by simp; omega)).step (by omega) k3 k6 k8
theorem mloop_go {how : Int} {out : Nm} {all : List R} {U : Nat} : ∀ (k : Nat) (o : Int) (a : Nat) (fs : Fs) (rs : List Rd) (hs : List Hd) (rq : List (List R)) (p W : List R) (last : Option R) (t : By),
    rising fs → RR fs out rs rq → MInv all p hs rq rq.length → rq.length = rs.length + 1 → (∀ h ∈ hs, 1 ≤ h.2) → Wr fs out W t → LastOk how p last W → used fs = U + sectors (full W).length → hs.length + rq.flatten.length < k →
    Out d a fs out U all.length (fold how (sort all)) (mloop how out k rs hs last t (dk d o a fs))
  | 0, _, _, _, _, _, _, _, _, _, _, _, _, _, _, _, _, _, _, hk => absurd hk (Nat.not_lt_zero _)
  | k + 1, o, a, fs, rs, hs, rq, p, W, last, t, hris, hR, hM, hq, hh, hW, hL, hU, hk => by
    have hpl : p.length ≤ all.length := by have := hM.perm.length_eq; simp at this; omega
    by_cases hs0 : hs = []
    · subst hs0
      have e := hM.done (Nat.le_refl _)
      rw [mloop_end rfl, ← e]
      exact mend_go hu o a hris hW hU hL hpl
    have hWl : sectors (full W).length ≤ secN all.length := by
      have h1 := sec_full W
      have h2 : W.length ≤ p.length := by
        rcases hL with ⟨_, rfl, rfl⟩ | ⟨z, h, h3⟩
        · exact Nat.le_refl _
        · have h4 := (LastOk.len (.inr ⟨z, h, h3⟩) h).2; omega
      have h3 := secN_mono (show W.length ≤ all.length by omega)
      omega
    have hpos := List.length_pos_iff.2 hs0
    obtain ⟨p1, p2⟩ := hpop_ok hM.ok hpos
    have hxm : hg hs 0 ∈ hs := p2.mem_iff.2 List.mem_cons_self
    obtain ⟨q1, q2⟩ := hM.pop (Nat.le_refl _) p2 p1 (fun y hy => by
      obtain ⟨j, hj, rfl⟩ := List.getElem_of_mem hy
      have := hM.ok.least j hj
      rw [show hg hs j = hs[j] from by unfold hg; rw [List.getD_eq_getElem?_getD, List.getElem?_eq_getElem hj]; rfl] at this
      exact this)
    have hx1 := hh _ hxm
    rcases mpush_go hu o a hR (i := (hg hs 0).2) ⟨hx1, by omega⟩ p1 with ⟨k1, o', X, k2⟩ | ⟨o', a', rs', hs', rq', k2, k3, k4, k5, k6⟩
    · rw [mloop_bad hs0 (by rw [k2]; simp), k2]; exact .inl ⟨k1, o', fs, rfl, hW.part hris hWl⟩
    have he0 : (mpush rs (hg hs 0).2 (hpop hs) (dk d o a fs)).2.2 = 0 := by rw [k2]
    have m2 := q2.next (by omega) k4 rq'.length (by rw [k4.len]; exact Nat.le_refl _)
    have hlq : rq'.length = rs'.length + 1 := by rw [k4.len, k6]; exact hq
    have hsum := k4.sum (by omega)
    have hpl2 := hpop_len hs
    have hh2 : ∀ h ∈ hs', 1 ≤ h.2 := by
      intro h hm
      have hb : ∀ h ∈ hpop hs, 1 ≤ h.2 := fun h hm => hh h (p2.mem_iff.2 (List.mem_cons_of_mem _ hm))
      rcases k4 with ⟨_, rfl, _⟩ | ⟨r, q, _, _, hp, _⟩
      · exact hb h hm
      · rcases List.mem_cons.1 (hp.mem_iff.1 hm) with rfl | hm
        · exact hx1
        · exact hb h hm
    have hf := fold_snoc how p (hg hs 0).1
    cases hl : last with
    | none =>
      have hL' : LastOk how (p ++ [(hg hs 0).1]) (some (hg hs 0).1) W := by
        rcases hL with ⟨_, rfl, rfl⟩ | ⟨z, h, _⟩
        · exact .inr ⟨_, rfl, rfl⟩
        · rw [h] at hl; cases hl
      rw [mloop_first hs0 he0, k2]
      exact (mloop_go k o' a' fs rs' hs' rq' _ W _ t hris k5 m2 hlq hh2 hW hL' hU (by omega)).step (by omega) k3 (fun _ _ => rfl) (Nat.le_refl _)
    | some z =>
      obtain ⟨h1, h2⟩ := hL.len hl
      have hfp : Rn.fput how (W ++ [z]) (hg hs 0).1 = if how ≠ 0 ∧ z.1 = (hg hs 0).1.1 then W ++ [(z.1, comb how z.2 (hg hs 0).1.2)] else W ++ [z] ++ [(hg hs 0).1] := by
        unfold Rn.fput
        rw [List.getLast?_concat]
        simp only [List.dropLast_concat]
      rw [h1, hfp] at hf
      by_cases hc : how ≠ 0 ∧ z.1 = (hg hs 0).1.1
      · rw [if_pos hc] at hf
        rw [mloop_comb hs0 he0 hc, k2]
        exact (mloop_go k o' a' fs rs' hs' rq' _ W _ t hris k5 m2 hlq hh2 hW (.inr ⟨_, rfl, hf⟩) hU (by omega)).step (by omega) k3 (fun _ _ => rfl) (Nat.le_refl _)
      · rw [if_neg hc] at hf
        have h3 := secN_mono (show (W ++ [z]).length ≤ all.length by simp; omega)
        have h4 := sec_full (W ++ [z])
        rcases wput_go hu o' a' hris hW z with ⟨j1, o2, j2⟩ | ⟨o2, a2, j2, j3, j4⟩ | ⟨o2, a2, f2, j2, j3, j4, j5, j6, j7, j8⟩
        · rw [mloop_wbad hs0 he0 hc (by rw [k2, j2]; simp), k2, j2]; exact .inl ⟨by omega, o2, fs, rfl, hW.part hris hWl⟩
        · rw [mloop_wbad hs0 he0 hc (by rw [k2, j2]; simp), k2, j2]; exact .inr (.inl ⟨o2, a2, fs, rfl, fun e => j3 (k3 e), hris, ⟨_, hW.get⟩, fun _ _ => rfl, Nat.le_refl _, by omega⟩)
        · rw [mloop_put hs0 he0 hc (by rw [k2, j2]), k2, j2]
          exact (mloop_go k o2 a2 f2 rs' hs' rq' _ (W ++ [z]) _ _ j4 (k5.off j6) m2 hlq hh2 j5 (.inr ⟨_, rfl, hf⟩) (by omega) (by omega)).step (by omega) (fun e => j3 (k3 e)) j6 j8
/-- a merge: the disk falls; there is no room; the file is there -/
theorem merge_go (o : Int) (a : Nat) {fs : Fs} (hris : rising fs) (how : Int) {out : Nm} (hm : may out = true) (hn : fget fs out = none) (ns : List Nm) (ls : List (List R)) (hl : ns.length = ls.length)
    (hf : ∀ j, j < ns.length → ∃ f, fget fs (ns.getD j []) = some f ∧ f.now = FB (ls.getD j []) ∧ Bd (ls.getD j []) ∧ Up (ls.getD j [])) :
    (1 ≤ a ∧ ∃ o' fs', merge how out ns (dk d o a fs) = (dn d o' (tornAll fs' d.keep), 7) ∧ Part out (secN ls.flatten.length) fs fs') ∨
    (∃ o' a' fs', merge how out ns (dk d o a fs) = (dk d o' a' fs', 6) ∧ (a = 0 → a' = 0) ∧ rising fs' ∧ (∃ f, fget fs' out = some f) ∧ (∀ m, m ≠ out → fget fs' m = fget fs m) ∧ fs'.length ≤ fs.length + 1 ∧ d.room < used fs + secN ls.flatten.length) ∨
    ∃ o' a' fs', merge how out ns (dk d o a fs) = (dk d o' a' fs', 0) ∧ (a = 0 → a' = 0) ∧ rising fs' ∧ (∀ m, fget fs' m = if m = out then some ⟨FB (fold how (sort ls.flatten)), FB (fold how (sort ls.flatten))⟩ else fget fs m) ∧ used fs' = used fs + secN (fold how (sort ls.flatten)).length ∧ fs'.length ≤ fs.length + 1 := by
  have e0 : ∀ i, rg (List.replicate (ns.length + 1) []) i = [] := fun i => by
    unfold rg; rw [List.getD_eq_getElem?_getD, List.getElem?_replicate]; split <;> rfl
  unfold merge
  rcases mopen_go hu (fs := fs) (out := out) ns ls o a [] [] (List.replicate (ns.length + 1) []) [] hl (fun j hj => by
      obtain ⟨f, h1, h2, h3, h4⟩ := hf j hj
      exact ⟨f, h1, h2, h3, h4, fun e => by rw [e, hn] at h1; cases h1⟩) ⟨by simp, fun j hj => absurd hj (Nat.not_lt_zero _)⟩ (by simpa using Sn.MInv.none (ns.length + 1)) (by simp) (fun j _ => e0 j) (fun h hh => by cases hh) with ⟨k1, o', X, k2⟩ | ⟨o', a', rs, hs, rq, k2, k3, k4, k5, k6, k7, k8⟩
  · left; rw [k2, if_pos (by simp)]; exact ⟨k1, o', fs, rfl, .vac hris hn⟩
  rw [k2, if_neg (by simp)]
  simp only
  rw [List.nil_append] at k5
  by_cases a1 : a' = 1
  · subst a1; left
    rw [create_fall hu, if_pos (by simp)]
    exact ⟨by omega, _, fs, rfl, .vac hris hn⟩
  have hc := create_up hu o' a' fs a1 hm hn
  rw [hc, if_neg (by simp)]
  simp only
  obtain ⟨f2, hf2⟩ : ∃ f2, f2 = Dk.fput fs out ⟨[], []⟩ := ⟨_, rfl⟩
  have g2 : fget f2 out = some ⟨[], []⟩ := by rw [hf2, fget_fput, if_pos rfl]
  have kk2 : ∀ m, m ≠ out → fget f2 m = fget fs m := fun m hm => by rw [hf2, fget_fput, if_neg hm]
  have u2 : used f2 = used fs := by rw [hf2, used_fput_new hn]; simp [sectors]
  have r2 : rising f2 := by rw [hf2]; exact rising_fput hris _ _
  have c2 : f2.length ≤ fs.length + 1 := by rw [hf2]; exact len_fput _ _ _
  rw [← hf2]
  have hleft := k4.left k6 k8
  have hfin := mloop_go hu (how := how) (out := out) (all := ls.flatten) (U := used fs) (mleft rs hs + 1) (nx o') (a' - 1) f2 rs hs rq [] [] none [] r2 (k4.off kk2) k5 k6 k7 ⟨by rw [g2, full_nil], by simp [rtext]⟩ (.inl ⟨rfl, rfl, rfl⟩) (by rw [u2]; simp [sectors]) (by unfold mleft; omega)
  rcases hfin with ⟨h1, o2, f3, h2, h3⟩ | ⟨o2, a2, f3, h2, h3, h4, h5, h6, h7, h8⟩ | ⟨o2, a2, f3, h2, h3, h4, h5, h6, h7⟩
  · exact .inl ⟨by omega, o2, f3, h2, h3.back kk2⟩
  · exact .inr (.inl ⟨o2, a2, f3, h2, fun e => h3 (by have := k3 e; omega), h4, h5, fun m hm => by rw [h6 m hm, kk2 m hm], by omega, h8⟩)
  · refine .inr (.inr ⟨o2, a2, f3, h2, fun e => h3 (by have := k3 e; omega), h4, fun m => ?_, h6, by omega⟩)
    rw [h5]
    split
    · rfl
    · rename_i e; exact kk2 m e
end
end Go.Cg.Xs
