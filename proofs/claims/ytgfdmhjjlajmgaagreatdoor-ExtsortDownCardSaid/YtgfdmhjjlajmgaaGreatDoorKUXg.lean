/- Plain laws of a sort on a disk: what lies there on the way. No condition. -/
import Derived.Test.YtgfdmhjjlajmgaaGreatDoorKUXm
import Derived.Test.YtgfdmhjjlajmgaaGreatDoorKUXc
namespace Go.Cg.Xs
set_option linter.unusedVariables false
set_option linter.unusedSimpArgs false
open Go.Cg.Dk Go.Cg.Oc Go.Cg.Sn Go.Cg.Cl
open Go.Cg.Rn hiding HeapOk MInv NextP UpEx DnEx lst

/-! ### names on the way -/
theorem itoa_nn (k : Nat) : Go.Lib.itoa (k : Int) = Go.Lib.decDigits k := by unfold Go.Lib.itoa; rw [if_neg (by omega)]; rfl
theorem digits_pos (u : Nat) : 0 < (Go.Lib.decDigits u).length := by
  unfold Go.Lib.decDigits; split <;> simp
theorem digits_inj : ∀ {u v : Nat}, Go.Lib.decDigits u = Go.Lib.decDigits v → u = v := by
  intro u
  induction u using Nat.strongRecOn with
  | ind u ih =>
    intro v h
    unfold Go.Lib.decDigits at h
    have c8 : ∀ {a b : Nat}, a < 10 → b < 10 → UInt8.ofNat (48 + a) = UInt8.ofNat (48 + b) → a = b := fun {a b} ha hb h => by
      have := congrArg UInt8.toNat h
      simp at this; omega
    by_cases h1 : u < 10 <;> by_cases h2 : v < 10
    · rw [dif_pos h1, dif_pos h2] at h
      exact c8 h1 h2 (by simpa using h)
    · rw [dif_pos h1, dif_neg h2] at h
      have h3 := congrArg List.length h
      have h4 := digits_pos (v / 10)
      rw [List.length_append, List.length_singleton, List.length_singleton] at h3; omega
    · rw [dif_neg h1, dif_pos h2] at h
      have h3 := congrArg List.length h
      have h4 := digits_pos (u / 10)
      rw [List.length_append, List.length_singleton, List.length_singleton] at h3; omega
    · rw [dif_neg h1, dif_neg h2] at h
      have h3 := List.append_inj' h rfl
      have h4 := ih (u / 10) (by omega) h3.1
      have h5 := c8 (by omega) (by omega) (List.singleton_inj.1 h3.2)
      omega
theorem digits_len : ∀ (k u : Nat), u < 10 ^ (k + 1) → (Go.Lib.decDigits u).length ≤ k + 1 := by
  intro k
  induction k with
  | zero =>
    intro u hu
    unfold Go.Lib.decDigits
    split
    · simp
    · exfalso; omega
  | succ k ih =>
    intro u hu
    unfold Go.Lib.decDigits
    split
    · simp
    · have := ih (u / 10) (by rw [Nat.pow_succ] at hu; omega)
      simp; omega
theorem tname_inj {temp : Nm} {i j : Nat} (h : tname temp i = tname temp j) : i = j := by
  unfold tname at h
  have := List.append_cancel_left h
  rw [itoa_nn, itoa_nn] at this
  exact digits_inj this
theorem tname_may {temp : Nm} (ht : temp.length ≤ 15) {k : Nat} (hk : k < 100000000) : may (tname temp k) = true := by
  unfold may tname
  have h1 := digits_len 7 k (by omega)
  rw [decide_eq_true_eq, itoa_nn]
  exact ⟨by simp, by simp; omega⟩
/-! ### what is combined, in parts -/
def Eqv (how : Int) (l m : List R) : Prop := if how = 0 then l.Perm m else ∀ k, agg how l k = agg how m k
theorem Eqv.perm {how : Int} {l m : List R} (h : l.Perm m) : Eqv how l m := by
  unfold Eqv; split
  · exact h
  · exact fun k => agg_perm h
theorem Eqv.self {how : Int} {l : List R} : Eqv how l l := Eqv.perm (List.Perm.refl l)
theorem Eqv.trans {how : Int} {l m n : List R} (h : Eqv how l m) (k : Eqv how m n) : Eqv how l n := by
  unfold Eqv at *; split at h
  · rename_i e; rw [if_pos e] at k ⊢; exact h.trans k
  · rename_i e; rw [if_neg e] at k ⊢; exact fun j => (h j).trans (k j)
theorem Eqv.app {how : Int} {l m l' m' : List R} (h : Eqv how l m) (k : Eqv how l' m') : Eqv how (l ++ l') (m ++ m') := by
  unfold Eqv at *; split at h
  · rename_i e; rw [if_pos e] at k ⊢; exact h.append k
  · rename_i e; rw [if_neg e] at k ⊢; exact fun j => by rw [agg_app, agg_app, h j, k j]
theorem Eqv.same {how : Int} {l m : List R} (h : Eqv how l m) : fold how (sort l) = fold how (sort m) := by
  unfold Eqv at h; split at h
  · rw [sort_of_perm h]
  · rename_i e; exact fold_eq e h
theorem fold_zero (l : List R) : fold 0 l = l := by
  have key : ∀ l m : List R, l.foldl (Rn.fput 0) m = m ++ l := by
    intro l
    induction l with
    | nil => intro m; simp
    | cons x l ih =>
      intro m
      rw [List.foldl_cons, ih]
      unfold Rn.fput
      cases h : m.getLast? with
      | none => rw [List.getLast?_eq_none_iff.1 h]; rfl
      | some z => simp
  exact key l []
theorem Eqv.folded (how : Int) (l : List R) : Eqv how (fold how (Rn.sort l)) l := by
  unfold Eqv; split
  · rename_i e; rw [e, fold_zero]; exact sort_perm l
  · rename_i e; exact fun k => by rw [agg_fold e, agg_perm (sort_perm l)]
theorem oc_some {how : Int} {a : Nat} {x : Option Nat} : oc how (some a) x ≠ none := by cases x <;> simp [oc]
theorem Eqv.nil {how : Int} {l : List R} (h : Eqv how [] l) : l = [] := by
  unfold Eqv at h; split at h
  · exact List.nil_perm.1 h
  · cases l with
    | nil => exact List.nil_eq.1 (by rfl)
    | cons r l => have := h r.1; rw [agg, agg, if_pos (by rfl)] at this; exact absurd this.symm oc_some
/-- a file of records that are sorted, and combined -/
structure Row (how : Int) (l : List R) : Prop where
  bd : Bd l
  up : Up l
  fx : fold how (sort l) = l
theorem up_kup {l : List R} (h : KUp l) : Up l := List.Pairwise.imp (fun {a b} k => by rw [ltb_not]; omega) h
theorem Row.of {how : Int} {l : List R} (h : Bd l) : Row how (fold how (sort l)) := by
  refine ⟨fold_bd how _ h.sort, ?_, ?_⟩
  · by_cases e : how = 0
    · rw [e, fold_zero]; exact sort_up l
    · exact up_kup (fold_kup e (sort_up l))
  · by_cases e : how = 0
    · rw [e, fold_zero, fold_zero]; exact sort_eq (List.Perm.refl _) (sort_up l)
    · exact fold_self e (fold_kup e (sort_up l))
/-! ### files on the way -/
abbrev Pt := List (Nm × List R)
def flat (P : Pt) : List R := (P.map (·.2)).flatten
theorem flat_app (P Q : Pt) : flat (P ++ Q) = flat P ++ flat Q := by simp [flat]
theorem flat_one (p : Nm × List R) : flat [p] = p.2 := by simp [flat]
@[simp] theorem flat_nil : flat [] = [] := rfl
theorem flat_cons (p : Nm × List R) (P : Pt) : flat (p :: P) = p.2 ++ flat P := by simp [flat]
theorem used_ext {fs0 : Fs} : ∀ (P : Pt) (fs : Fs), rising fs → rising fs0 → (P.map (·.1)).Nodup → (∀ p ∈ P, fget fs0 p.1 = none) → (∀ p ∈ P, fget fs p.1 = some ⟨FB p.2, FB p.2⟩) → (∀ m, m ∉ P.map (·.1) → fget fs m = fget fs0 m) → used fs ≤ used fs0 + 2 * (flat P).length
  | [], fs, h, h0, _, _, _, ho => by
    rw [files_ext h h0 (fun m => ho m (by simp))]; simp
  | p :: P, fs, h, h0, hn, hz, hg, ho => by
    simp only [List.map_cons, List.nodup_cons] at hn
    have hp := hg p List.mem_cons_self
    have h1 := used_fdel h hp
    have h2 := used_ext P (fdel fs p.1) (rising_fdel h _) h0 hn.2 (fun q hq => hz q (List.mem_cons_of_mem _ hq)) (fun q hq => by
      rw [fget_fdel, if_neg (fun c : q.1 = p.1 => hn.1 (c ▸ List.mem_map_of_mem hq))]; exact hg q (List.mem_cons_of_mem _ hq)) (fun m hm => by
      rw [fget_fdel]
      by_cases e : m = p.1
      · rw [if_pos e, e]; exact (hz p List.mem_cons_self).symm
      · rw [if_neg e]; exact ho m (by simp only [List.map_cons, List.mem_cons, not_or]; exact ⟨e, hm⟩))
    have h3 := sec_FBn p.2
    have h4 := secN_le p.2.length
    simp only at h1
    rw [flat_cons, List.length_append]
    omega
structure Tmp (fs0 : Fs) (temp out : Nm) (K : Nat) : Prop where
  ok : ∀ k, k ≤ K → may (tname temp k) = true
  no : ∀ k, fget fs0 (tname temp k) = none
  ne : ∀ k, tname temp k ≠ out
  ris : rising fs0
  ou : fget fs0 out = none
  mo : may out = true
  fine : ∀ m f, fget fs0 m = some f → f.syn.length ≤ f.now.length
/-- what is used behind a crash -/
theorem part_used {n : Nm} {c : Nat} {fs fs' : Fs} (h : Part n c fs fs') (hr : rising fs) (hn : fget fs n = none) (hf : ∀ m f, fget fs m = some f → f.syn.length ≤ f.now.length) (k : List Bool) : used (tornAll fs' k) ≤ used fs + c := by
  have h1 : ∀ p ∈ fs', p.2.syn.length ≤ p.2.now.length := fun p hp => by
    have hg := fget_of_mem h.ris hp
    by_cases e : p.1 = n
    · rw [e] at hg; rw [(h.few _ hg).1]; exact Nat.zero_le _
    · rw [h.off _ e] at hg; exact hf _ _ hg
  have h2 := used_torn k h1
  cases hx : fget fs' n with
  | none =>
    have : fs' = fs := files_ext h.ris hr fun m => by
      by_cases e : m = n
      · rw [e, hx, hn]
      · exact h.off m e
    rw [this] at h2 ⊢; omega
  | some f =>
    have h3 := used_fdel h.ris hx
    have h4 := (h.few f hx).2
    rw [show fdel fs' n = fs from files_ext (rising_fdel h.ris _) hr fun m => by
      rw [fget_fdel]
      by_cases e : m = n
      · rw [if_pos e, e, hn]
      · rw [if_neg e]; exact h.off m e] at h3
    omega
structure Inv (fs0 : Fs) (temp : Nm) (how : Int) (nx : Nat) (made : List Nm) (P : Pt) (fs : Fs) : Prop where
  ris : rising fs
  nd : (P.map (·.1)).Nodup
  nm : ∀ n ∈ made, ∃ k, k ≤ nx ∧ n = tname temp k
  mem : ∀ p ∈ P, p.1 ∈ made
  get : ∀ p ∈ P, fget fs p.1 = some ⟨FB p.2, FB p.2⟩
  off : ∀ m, m ∉ P.map (·.1) → fget fs m = fget fs0 m
  row : ∀ p ∈ P, Row how p.2
section
variable {fs0 : Fs} {temp out : Nm} {K : Nat} {how : Int} {nx : Nat} {made : List Nm} {P : Pt} {fs : Fs}
theorem Inv.in_made (h : Inv fs0 temp how nx made P fs) {m : Nm} (hm : m ∉ made) : fget fs m = fget fs0 m := h.off m fun c => by
  obtain ⟨p, hp, rfl⟩ := List.mem_map.1 c
  exact hm (h.mem p hp)
theorem Inv.away (h : Inv fs0 temp how nx made P fs) {m : Nm} (hm : ∀ k, m ≠ tname temp k) : fget fs m = fget fs0 m := h.in_made fun c => by
  obtain ⟨k, _, e⟩ := h.nm m c
  exact hm k e
theorem Inv.new (h : Inv fs0 temp how nx made P fs) : tname temp (nx + 1) ∉ made := fun c => by
  obtain ⟨k, hk, e⟩ := h.nm _ c
  have := tname_inj e
  omega
theorem Inv.vac (h : Inv fs0 temp how nx made P fs) (T : Tmp fs0 temp out K) : fget fs (tname temp (nx + 1)) = none := by rw [h.in_made h.new]; exact T.no _
theorem Inv.fine (h : Inv fs0 temp how nx made P fs) (T : Tmp fs0 temp out K) : ∀ m f, fget fs m = some f → f.syn.length ≤ f.now.length := fun m f hf => by
  by_cases e : m ∈ P.map (·.1)
  · obtain ⟨p, hp, rfl⟩ := List.mem_map.1 e
    rw [h.get p hp] at hf; cases hf; exact Nat.le_refl _
  · rw [h.off m e] at hf; exact T.fine m f hf
theorem Inv.all (h : Inv fs0 temp how nx made P fs) (T : Tmp fs0 temp out K) : ∀ p ∈ fs, p.2.syn.length ≤ p.2.now.length := fun p hp => h.fine T _ _ (fget_of_mem h.ris hp)
theorem Inv.room (h : Inv fs0 temp how nx made P fs) (T : Tmp fs0 temp out K) : used fs ≤ used fs0 + 2 * (flat P).length := used_ext P fs h.ris T.ris h.nd (fun p hp => by
  obtain ⟨k, _, e⟩ := h.nm _ (h.mem p hp)
  rw [e]; exact T.no k) h.get h.off
theorem Inv.add (h : Inv fs0 temp how nx made P fs) {L : List R} (hL : Row how L) {fs' : Fs} (hr : rising fs') (hg : ∀ m, fget fs' m = if m = tname temp (nx + 1) then some ⟨FB L, FB L⟩ else fget fs m) : Inv fs0 temp how (nx + 1) (made ++ [tname temp (nx + 1)]) (P ++ [(tname temp (nx + 1), L)]) fs' := by
  have hnew : ∀ p ∈ P, p.1 ≠ tname temp (nx + 1) := fun p hp e => h.new (e ▸ h.mem p hp)
  refine ⟨hr, ?_, fun n hn => ?_, fun p hp => ?_, fun p hp => ?_, fun m hm => ?_, fun p hp => ?_⟩
  · rw [List.map_append, List.nodup_append]
    refine ⟨h.nd, by simp, fun a ha b hb => ?_⟩
    obtain ⟨p, hp, rfl⟩ := List.mem_map.1 ha
    simp only [List.map_cons, List.map_nil, List.mem_singleton] at hb
    rw [hb]; exact hnew p hp
  · rcases List.mem_append.1 hn with hn | hn
    · obtain ⟨k, hk, e⟩ := h.nm n hn; exact ⟨k, by omega, e⟩
    · exact ⟨nx + 1, Nat.le_refl _, List.mem_singleton.1 hn⟩
  · rcases List.mem_append.1 hp with hp | hp
    · exact List.mem_append_left _ (h.mem p hp)
    · rw [List.mem_singleton.1 hp]; exact List.mem_append_right _ (by simp)
  · rcases List.mem_append.1 hp with hp | hp
    · rw [hg, if_neg (hnew p hp)]; exact h.get p hp
    · rw [List.mem_singleton.1 hp, hg, if_pos (by rfl)]
  · simp only [List.map_append, List.map_cons, List.map_nil, List.mem_append, List.mem_singleton, not_or] at hm
    rw [hg, if_neg hm.2]; exact h.off m hm.1
  · rcases List.mem_append.1 hp with hp | hp
    · exact h.row p hp
    · rw [List.mem_singleton.1 hp]; exact hL
theorem Inv.del (T : Tmp fs0 temp out K) {Q : Pt} (h : Inv fs0 temp how nx made (Q ++ P) fs) {fs' : Fs} {md : List Nm} (hr : rising fs') (hg : ∀ m, fget fs' m = if m ∈ Q.map (·.1) then none else fget fs m) (hm : ∀ m, m ∈ md ↔ m ∈ made ∧ m ∉ Q.map (·.1)) : Inv fs0 temp how nx md P fs' := by
  have hd := h.nd
  rw [List.map_append, List.nodup_append] at hd
  have hne : ∀ p ∈ P, p.1 ∉ Q.map (·.1) := fun p hp c => hd.2.2 _ c _ (List.mem_map_of_mem hp) rfl
  refine ⟨hr, hd.2.1, fun n hn => h.nm n ((hm n).1 hn).1, fun p hp => (hm _).2 ⟨h.mem p (List.mem_append_right _ hp), hne p hp⟩, fun p hp => ?_, fun m hp => ?_, fun p hp => h.row p (List.mem_append_right _ hp)⟩
  · rw [hg, if_neg (hne p hp)]; exact h.get p (List.mem_append_right _ hp)
  · rw [hg]
    by_cases e : m ∈ Q.map (·.1)
    · rw [if_pos e]
      obtain ⟨q, hq, rfl⟩ := List.mem_map.1 e
      obtain ⟨k, _, e⟩ := h.nm _ (h.mem q (List.mem_append_left _ hq))
      rw [e]; exact (T.no k).symm
    · rw [if_neg e]; exact h.off m (by rw [List.map_append, List.mem_append]; exact fun c => c.elim e hp)
end
/-! ### how it fails -/
def Bad (d : Disk) (fs0 : Fs) (N e E : Nat) : Prop := (E = e ∧ e ≠ 0) ∨ (E = 6 ∧ d.room < used fs0 + 4 * N)
theorem Bad.ne {d : Disk} {fs0 : Fs} {N e E : Nat} (h : Bad d fs0 N e E) : E ≠ 0 := by rcases h with ⟨h, k⟩ | ⟨h, k⟩ <;> omega
def Fall (d : Disk) (a : Nat) (fs0 : Fs) (out temp : Nm) (N : Nat) (D : Disk) : Prop := 1 ≤ a ∧ ∃ o' fs', D = dn d o' (tornAll fs' d.keep) ∧ used (tornAll fs' d.keep) ≤ used fs0 + 4 * N ∧ ∀ m, m ≠ out → (∀ k, m ≠ tname temp k) → fget fs' m = fget fs0 m
def Fails (d : Disk) (a : Nat) (fs0 : Fs) (out temp : Nm) (N e : Nat) (md : List Nm) (x : Disk × Nat) : Prop :=
  (Fall d a fs0 out temp N x.1 ∧ x.2 = 7) ∨ ∃ o' a' fs', x.1 = dk d o' a' fs' ∧ Bad d fs0 N e x.2 ∧ (a = 0 → a' = 0) ∧ rising fs' ∧ (∀ m ∈ md, ∃ k, m = tname temp k) ∧ ∀ m, m ∉ md → m ≠ out → fget fs' m = fget fs0 m
section
variable {d : Disk} {a : Nat} {fs0 : Fs} {out temp : Nm} {N e : Nat} {md : List Nm} {x : Disk × Nat}
theorem Fails.ne (h : Fails d a fs0 out temp N e md x) : x.2 ≠ 0 := by
  rcases h with ⟨_, h⟩ | ⟨_, _, _, _, h, _⟩
  · omega
  · exact h.ne
theorem Fails.step {a' : Nat} (h : Fails d a' fs0 out temp N e md x) (ha : a = 0 → a' = 0) : Fails d a fs0 out temp N e md x := by
  rcases h with ⟨⟨h1, o', f', h2, h3⟩, h⟩ | ⟨o', a2, f', h1, h2, h3, h4, h5, h6⟩
  · exact .inl ⟨⟨by omega, o', f', h2, h3⟩, h⟩
  · exact .inr ⟨o', a2, f', h1, h2, fun c => h3 (ha c), h4, h5, h6⟩
end
section
variable {d : Disk} (hu : d.down = false)
include hu
theorem gones_go : ∀ (l made : List Nm) (o : Int) (a : Nat) (fs : Fs), rising fs →
    (1 ≤ a ∧ ∃ o' fs' md, gones l made (dk d o a fs) = (dn d o' (tornAll fs' d.keep), md, 7) ∧ (∀ m, m ∉ l → fget fs' m = fget fs m) ∧ rising fs' ∧ used fs' ≤ used fs ∧ ∀ m f, fget fs' m = some f → fget fs m = some f) ∨
    ∃ o' a' fs' md, gones l made (dk d o a fs) = (dk d o' a' fs', md, 0) ∧ (a = 0 → a' = 0) ∧ rising fs' ∧ (∀ m, m ∈ md ↔ m ∈ made ∧ m ∉ l) ∧ ∀ m, fget fs' m = if m ∈ l then none else fget fs m
  | [], made, o, a, fs, hr => .inr ⟨o, a, fs, made, rfl, id, hr, fun m => by simp, fun m => by simp⟩
  | n :: l, made, o, a, fs, hr => by
    rw [gones]
    by_cases a1 : a = 1
    · subst a1; left
      rw [remove_fall hu, if_pos (by simp)]
      exact ⟨Nat.le_refl _, _, fs, made, rfl, fun _ _ => rfl, hr, Nat.le_refl _, fun _ _ h => h⟩
    have hrm : ((dk d o a fs).remove n).1 = dk d (nx o) (a - 1) (fdel fs n) ∧ ¬ (((dk d o a fs).remove n).2 ≠ 0 ∧ ((dk d o a fs).remove n).2 ≠ 4) := by
      cases hf : fget fs n with
      | none => rw [remove_none hu o a fs a1 hf]; exact ⟨rfl, by simp⟩
      | some f => rw [remove_up hu o a fs a1 hf]; exact ⟨rfl, by simp⟩
    rw [if_neg hrm.2, hrm.1]
    rcases gones_go l (made.filter fun m => !decide (m = n)) (nx o) (a - 1) (fdel fs n) (rising_fdel hr n) with ⟨k1, o', f', md, k2, k3, k7, k8, k9⟩ | ⟨o', a', f', md, k2, k3, k4, k5, k6⟩
    · refine .inl ⟨by omega, o', f', md, k2, fun m hm => ?_, k7, Nat.le_trans k8 (used_fdel_le hr n), fun m f hf => by have := k9 m f hf; rw [fget_fdel] at this; split at this <;> first | exact this | cases this⟩
      simp only [List.mem_cons, not_or] at hm
      rw [k3 m hm.2, fget_fdel, if_neg hm.1]
    · refine .inr ⟨o', a', f', md, k2, fun c => k3 (by omega), k4, fun m => ?_, fun m => ?_⟩
      · rw [k5]; simp only [List.mem_filter, List.mem_cons, not_or, Bool.not_eq_eq_eq_not, Bool.not_true, decide_eq_false_iff_not]
        exact ⟨fun h => ⟨h.1.1, h.1.2, h.2⟩, fun h => ⟨⟨h.1, h.2.1⟩, h.2.2⟩⟩
      · rw [k6, fget_fdel]
        by_cases e : m = n
        · subst e; simp
        · rw [if_neg e]; simp only [List.mem_cons, e, false_or]
end
theorem gones_dn {d : Disk} (o : Int) (fs : Fs) (l made : List Nm) : ∃ o', (gones l made (dn d o fs)).1 = dn d o' fs := by
  cases l with
  | nil => exact ⟨o, rfl⟩
  | cons n l => rw [gones, remove_dn, if_pos (by simp)]; exact ⟨_, rfl⟩
section
variable {d : Disk} (hu : d.down = false) {fs0 : Fs} {temp out : Nm} {K : Nat} (T : Tmp fs0 temp out K) {how : Int} (N e : Nat)
include hu T
theorem run_go {l : List R} (hb : Bd l) (o : Int) (a : Nat) {nx : Nat} {made : List Nm} {P : Pt} {fs : Fs} (h : Inv fs0 temp how nx made P fs) (hK : nx + 1 ≤ K) (hN : (flat P).length + l.length ≤ N) :
    Fails d a fs0 out temp N e (made ++ [tname temp (nx + 1)]) ((run temp how l (nx, made) (dk d o a fs)).1, (run temp how l (nx, made) (dk d o a fs)).2.2) ∨
    ∃ o' a' fs', run temp how l (nx, made) (dk d o a fs) = (dk d o' a' fs', (nx + 1, made ++ [tname temp (nx + 1)]), 0) ∧ (a = 0 → a' = 0) ∧ Inv fs0 temp how (nx + 1) (made ++ [tname temp (nx + 1)]) (P ++ [(tname temp (nx + 1), fold how (sort l))]) fs' := by
  have hU := h.room T
  have hlen : (fold how (sort l)).length ≤ l.length := by have := fold_len how (sort l); simpa using this
  have h3 := sec_FBn (fold how (sort l))
  have h4 := secN_le (fold how (sort l)).length
  unfold run
  rcases write_all hu o a h.ris (T.ok _ hK) (h.vac T) (fold how (sort l)) with ⟨k1, o', f', k2, k3⟩ | ⟨o', a', f', k2, k3, k4, k5, k6, k7, k8⟩ | ⟨o', a', f', k2, k3, k4, k5, k6, k7⟩
  · left; simp only; rw [k2]
    exact .inl ⟨⟨k1, o', f', rfl, by have := part_used k3 h.ris (h.vac T) (h.fine T) d.keep; omega, fun m _ hm => by rw [k3.off m (hm _), h.away hm]⟩, rfl⟩
  · left; simp only; rw [k2]
    refine .inr ⟨o', a', f', rfl, .inr ⟨rfl, by omega⟩, k3, k4, fun m hm => ?_, fun m hm _ => ?_⟩
    · rcases List.mem_append.1 hm with hm | hm
      · obtain ⟨k, _, c⟩ := h.nm m hm; exact ⟨k, c⟩
      · exact ⟨_, List.mem_singleton.1 hm⟩
    · simp only [List.mem_append, List.mem_singleton, not_or] at hm
      rw [k6 m hm.2, h.in_made hm.1]
  · right; simp only; rw [k2]
    exact ⟨o', a', f', rfl, k3, h.add (Row.of hb) k4 k5⟩
theorem cut_go {nin : Nm} {f : Fl} (hf : fget fs0 nin = some f) (budget : Nat) : ∀ (k : Nat) (s : Rs) (r l : List R) (P : Pt) (n : Nat) (nx : Nat) (made : List Nm) (o : Int) (a : Nat) (fs : Fs),
    Rds f.now s r e → r.length < k → Bd l → Bd r → Inv fs0 temp how nx made P fs → nx + (l.length + r.length) ≤ K → (flat P).length + (l.length + r.length) ≤ N →
    Fails d a fs0 out temp N e (cut nin f.now.length temp how budget k s l (P.map (·.1)) n (nx, made) (dk d o a fs)).2.1.2 ((cut nin f.now.length temp how budget k s l (P.map (·.1)) n (nx, made) (dk d o a fs)).1, (cut nin f.now.length temp how budget k s l (P.map (·.1)) n (nx, made) (dk d o a fs)).2.2.2.2) ∨
    (e = 0 ∧ ∃ o' a' fs' nx' made' P', cut nin f.now.length temp how budget k s l (P.map (·.1)) n (nx, made) (dk d o a fs) = (dk d o' a' fs', (nx', made'), P'.map (·.1), n + r.length, 0) ∧ (a = 0 → a' = 0) ∧ Inv fs0 temp how nx' made' P' fs' ∧ Eqv how (flat P') (flat P ++ (l ++ r)) ∧ (flat P').length ≤ (flat P).length + (l.length + r.length) ∧ nx' ≤ nx + (l.length + r.length) ∧ P'.length ≤ P.length + (l.length + r.length))
  | 0, _, _, _, _, _, _, _, _, _, _, _, hk, _, _, _, _, _ => absurd hk (Nat.not_lt_zero _)
  | k + 1, s, r, l, P, n, nx, made, o, a, fs, hr, hk, hbl, hbr, hI, hK, hN => by
    have hin : fget fs nin = some f := by
      rw [hI.away (fun j c => by rw [c, T.no] at hf; cases hf)]; exact hf
    rcases rnext_pure hu o a hin s with ⟨k1, o', k2⟩ | ⟨o', a', k2, k3⟩
    · left
      rw [cut, k2, if_pos (by simp)]
      exact .inl ⟨⟨k1, o', fs, rfl, by have := used_torn d.keep (hI.all T); have := hI.room T; omega, fun m _ hm => hI.away hm⟩, rfl⟩
    cases r with
    | nil =>
      have hr : pnext f.now s = (s, none, e) := hr
      rw [cut, k2, hr]
      by_cases he : e = 0
      · rw [if_neg (fun c => c he)]
        simp only
        by_cases hl : l = []
        · rw [if_pos hl]
          right
          subst hl
          refine ⟨he, o', a', fs, nx, made, P, rfl, k3, hI, ?_, by simp, by simp, by simp⟩
          rw [List.append_nil, List.append_nil]; exact Eqv.self
        · rw [if_neg hl]
          have hp := List.length_pos_iff.2 hl
          rcases run_go hu T N e hbl o' a' hI (by omega) (by omega) with h | ⟨o2, a2, f2, j1, j2, j3⟩
          · left
            rw [if_pos h.ne]
            exact h.step k3
          · right
            rw [j1, if_neg (by simp)]
            refine ⟨he, o2, a2, f2, nx + 1, _, _, by simp, fun c => j2 (k3 c), j3, ?_, ?_, by omega, by simp; omega⟩
            · rw [flat_app, flat_one, List.append_nil]; exact Eqv.self.app (Eqv.folded how l)
            · rw [flat_app, flat_one]
              have := fold_len how (sort l)
              simp at this ⊢; omega
      · rw [if_pos he]
        left
        refine .inr ⟨o', a', fs, rfl, .inl ⟨rfl, he⟩, k3, hI.ris, fun m hm => ?_, fun m hm _ => hI.in_made hm⟩
        obtain ⟨j, _, c⟩ := hI.nm m hm; exact ⟨j, c⟩
    | cons x r =>
      obtain ⟨s', h1, h2⟩ := hr
      have hbx : Bd (l ++ [x]) := hbl.app fun z hz => by rw [List.mem_singleton.1 hz]; exact hbr x List.mem_cons_self
      have hb2 : Bd r := fun z hz => hbr z (List.mem_cons_of_mem _ hz)
      simp only [List.length_cons] at hk hK hN
      rw [cut, k2, h1, if_neg (by simp)]
      simp only
      by_cases hb : l.length + 1 = budget
      · rw [if_pos hb]
        rcases run_go hu T N e hbx o' a' hI (by omega) (by simp; omega) with h | ⟨o2, a2, f2, j1, j2, j3⟩
        · left
          rw [if_pos h.ne]
          exact h.step k3
        · rw [j1, if_neg (by simp)]
          simp only
          have hfl := fold_len how (sort (l ++ [x]))
          simp only [len_sort, List.length_append, List.length_cons, List.length_nil] at hfl
          have := cut_go (nin := nin) hf budget k s' r [] (P ++ [(tname temp (nx + 1), fold how (sort (l ++ [x])))]) (n + 1) (nx + 1) (made ++ [tname temp (nx + 1)]) o2 a2 f2 h2 (by omega) (fun z hz => by cases hz) hb2 j3 (by simp; omega) (by rw [flat_app, flat_one]; simp; omega)
          rw [show (P ++ [(tname temp (nx + 1), fold how (sort (l ++ [x])))]).map (·.1) = P.map (·.1) ++ [tname temp (nx + 1)] from by simp] at this
          rcases this with h | ⟨he, o3, a3, f3, nx3, m3, P3, q1, q2, q3, q4, q5, q6, q7⟩
          · exact .inl (h.step fun c => j2 (k3 c))
          · right
            rw [flat_app, flat_one] at q4 q5
            simp only [List.length_append, List.length_cons, List.length_nil] at q5 q6 q7 ⊢
            refine ⟨he, o3, a3, f3, nx3, m3, P3, by rw [q1, show n + 1 + r.length = n + (r.length + 1) from by omega], fun c => q2 (j2 (k3 c)), q3, q4.trans ?_, by omega, by omega, by omega⟩
            rw [List.append_assoc, List.nil_append, show l ++ x :: r = (l ++ [x]) ++ r from by simp]
            exact Eqv.self.app ((Eqv.folded how _).app Eqv.self)
      · rw [if_neg hb]
        rcases cut_go (nin := nin) hf budget k s' r (l ++ [x]) P (n + 1) nx made o' a' fs h2 (by omega) hbx hb2 hI (by simp; omega) (by simp; omega) with h | ⟨he, o3, a3, f3, nx3, m3, P3, q1, q2, q3, q4, q5, q6, q7⟩
        · exact .inl (h.step k3)
        · right
          simp only [List.length_append, List.length_cons, List.length_nil] at q5 q6 q7 ⊢
          refine ⟨he, o3, a3, f3, nx3, m3, P3, by rw [q1, show n + 1 + r.length = n + (r.length + 1) from by omega], fun c => q2 (k3 c), q3, ?_, by omega, by omega, by omega⟩
          rw [show l ++ x :: r = (l ++ [x]) ++ r from by simp]; exact q4
end
end Go.Cg.Xs
