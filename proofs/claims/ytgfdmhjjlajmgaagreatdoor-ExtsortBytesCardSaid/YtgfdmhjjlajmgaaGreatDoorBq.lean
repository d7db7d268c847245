/- Plain laws of files of few records, on a disk that is up. No condition. -/
import Derived.Test.YtgfdmhjjlajmgaaGreatDoorBx
import Derived.Test.YtgfdmhjjlajmgaaGreatDoorCl
namespace Go.Cg.Rn
set_option linter.unusedVariables false
set_option linter.unusedSimpArgs false
open Go.Cg.Dk Go.Cg.Oc Go.Cg.Cl

/-! ### one block -/
theorem rtext_cons (r : R) (l : List R) : rtext (r :: l) = rb r ++ rtext l := by simp [rtext]
theorem rtext_app (l m : List R) : rtext (l ++ m) = rtext l ++ rtext m := by simp [rtext]
@[simp] theorem rtext_len : ∀ l : List R, (rtext l).length = 16 * l.length
  | [] => rfl
  | r :: l => by rw [rtext_cons, List.length_append, rtext_len l, rb_len]; simp; omega
theorem recOf_rb {r : R} (h : r.1 < 18446744073709551616 ∧ r.2 < 18446744073709551616) (t : By) : recOf (rb r ++ t) = r := by
  unfold recOf rb
  rw [List.append_assoc, unle_take_le 8 r.1 _ h.1, List.drop_left' (le_len 8 r.1), unle_take_le 8 r.2 _ h.2]
theorem drop_rb (r : R) (t : By) : (rb r ++ t).drop 16 = t := List.drop_left' (rb_len r)
/-- a file of records that fill no more than one block -/
def F1 (l : List R) : By := (enc (rtext l)).1
theorem F1_len {l : List R} (h : l.length ≤ 50) : (F1 l).length = 16 * l.length + 6 := by
  unfold F1; rw [enc_len (by rw [rtext_len]; omega), rtext_len]
theorem sec_F1 {l : List R} (h : l.length ≤ 50) : sectors (F1 l).length = l.length + 1 := by rw [F1_len h]; unfold sectors; omega
theorem wputs_few {n : Nm} : ∀ (l : List R) (t : By) (d : Disk), t.length + 16 * l.length < 800 → wputs n l t d = (d, t ++ rtext l, 0)
  | [], t, d, _ => by simp [wputs, rtext]
  | r :: l, t, d, h => by
    have h1 : (t ++ rb r).length < 800 := by simp at h ⊢; omega
    rw [wputs, wput_lt h1, if_neg (by simp)]
    simp only
    rw [wputs_few l (t ++ rb r) d (by simp at h ⊢; omega), rtext_cons, List.append_assoc]
theorem write_one {n : Nm} {l : List R} {d : Disk} (h1 : 1 ≤ l.length) (h50 : l.length ≤ 50) (hc : (d.create n).2 = 0) :
    write n l d = if ((d.create n).1.append n (F1 l)).2 ≠ 0 then (d.create n).1.append n (F1 l) else ((d.create n).1.append n (F1 l)).1.sync n := by
  have hne : rtext l ≠ [] := by intro e; have := congrArg List.length e; simp at this; omega
  by_cases h : l.length < 50
  · have hw := wputs_few (n := n) l [] (d.create n).1 (by simp; omega)
    rw [List.nil_append] at hw
    rw [write_done hc (by rw [hw]), hw]
    unfold wclose
    rw [if_neg hne]; rfl
  · have hl : l.length = 50 := by omega
    have hq : l ≠ [] := by intro e; rw [e] at hl; simp at hl
    have hs := List.dropLast_concat_getLast hq
    generalize hqd : l.dropLast = q at hs
    generalize l.getLast hq = r at hs
    have hql : q.length = 49 := by rw [← hqd]; simp; omega
    have hw := wputs_few (n := n) q [] (d.create n).1 (by simp; omega)
    rw [List.nil_append] at hw
    have ht : rtext q ++ rb r = rtext l := by rw [← hs, rtext_app]; simp [rtext]
    have hp : wput n r (rtext q) (d.create n).1 = (((d.create n).1.append n (F1 l)).1, [], ((d.create n).1.append n (F1 l)).2) := by
      rw [wput_ge (by rw [ht]; simp; omega), ht]
      unfold wout; rw [if_neg hne]; rfl
    have hws : wputs n l [] (d.create n).1 = (((d.create n).1.append n (F1 l)).1, [], ((d.create n).1.append n (F1 l)).2) := by
      rw [← hs, wputs_snoc (by rw [hw]), hw, hp, hs]
    by_cases he : ((d.create n).1.append n (F1 l)).2 = 0
    · rw [write_done hc (by rw [hws]; exact he), hws, if_neg (by omega)]
      unfold wclose; rw [if_pos rfl]
    · rw [write_stop hc (by rw [hws]; exact he), hws, if_pos he]
theorem write_ok {n : Nm} {l : List R} {d : Disk} (h : d.Ok) : (write n l d).1.Ok := by
  have hp : ∀ (l : List R) (t : By) (d : Disk), d.Ok → (wputs n l t d).1.Ok := by
    intro l
    induction l with
    | nil => exact fun t d h => h
    | cons r l ih =>
      intro t d h
      have h1 : (wput n r t d).1.Ok := by
        unfold wput; split
        · exact h
        · exact h.append _ _
      unfold wputs; split
      · exact h1
      · exact ih _ _ h1
  unfold write; split
  · exact h.create n
  · split
    · exact hp _ _ _ (h.create n)
    · unfold wclose
      have h2 := hp l [] _ (h.create n)
      split
      · exact h2.sync n
      · split
        · exact h2.append _ _
        · exact (h2.append _ _).sync n
section
variable {d : Disk} (hu : d.down = false) (o : Int) (a : Nat) (fs : Fs)
include hu
/-- a file is written, or the disk falls on the way -/
theorem write_go (hris : rising fs) {n : Nm} (hm : may n = true) (hn : fget fs n = none) {l : List R} (h1 : 1 ≤ l.length) (h50 : l.length ≤ 50) (hr : used fs + (l.length + 1) ≤ d.room) :
    (1 ≤ a ∧ a ≤ 3 ∧ ∃ o' fs', write n l (dk d o a fs) = (dn d o' (tornAll fs' d.keep), 7) ∧ ∀ m, m ≠ n → fget fs' m = fget fs m) ∨
    ((a = 0 ∨ 3 < a) ∧ ∃ o' fs', write n l (dk d o a fs) = (dk d o' (a - 3) fs', 0) ∧ rising fs' ∧ (∀ m, fget fs' m = if m = n then some ⟨F1 l, F1 l⟩ else fget fs m) ∧ used fs' = used fs + (l.length + 1) ∧ fs'.length ≤ fs.length + 1) := by
  by_cases a1 : a = 1
  · subst a1
    left
    rw [write_bad (by rw [create_fall hu]; simp), create_fall hu]
    exact ⟨by omega, by omega, _, fs, rfl, fun m _ => rfl⟩
  have hc := create_up hu o a fs a1 hm hn
  rw [write_one h1 h50 (by rw [hc]), hc]
  simp only
  obtain ⟨f2, hf2⟩ : ∃ f2, f2 = Dk.fput fs n ⟨[], []⟩ := ⟨_, rfl⟩
  have g2 : fget f2 n = some ⟨[], []⟩ := by rw [hf2, fget_fput, if_pos rfl]
  have k2 : ∀ m, m ≠ n → fget f2 m = fget fs m := fun m hm => by rw [hf2, fget_fput, if_neg hm]
  have u2 : used f2 = used fs := by rw [hf2, used_fput_new hn]; simp [sectors]
  have r2 : rising f2 := by rw [hf2]; exact rising_fput hris _ _
  have c2 : f2.length ≤ fs.length + 1 := by rw [hf2]; exact len_fput _ _ _
  rw [← hf2]
  by_cases a2 : a = 2
  · subst a2
    left
    rw [show 2 - 1 = 1 from rfl, append_fall hu, if_pos (by simp)]
    exact ⟨by omega, by omega, _, _, rfl, k2⟩
  have hse : sectors (([] : By).length + (F1 l).length) - sectors ([] : By).length = l.length + 1 := by rw [List.length_nil, Nat.zero_add, sec_F1 h50]; simp [sectors]
  rw [append_up hu _ _ _ (by omega) (F1 l) g2 (by rw [hse, u2]; exact hr), if_neg (by simp)]
  simp only [List.nil_append]
  obtain ⟨f3, hf3⟩ : ∃ f3, f3 = Dk.fput f2 n ⟨F1 l, []⟩ := ⟨_, rfl⟩
  have g3 : fget f3 n = some ⟨F1 l, []⟩ := by rw [hf3, fget_fput, if_pos rfl]
  have k3 : ∀ m, m ≠ n → fget f3 m = fget fs m := fun m hm => by rw [hf3, fget_fput, if_neg hm, k2 m hm]
  have u3 : used f3 = used fs + (l.length + 1) := by
    have := used_fput_old (g := ⟨F1 l, []⟩) r2 g2
    rw [← hf3] at this
    simp only [List.length_nil, sec_F1 h50] at this
    have h0 : sectors 0 = 0 := rfl
    omega
  have r3 : rising f3 := by rw [hf3]; exact rising_fput r2 _ _
  have c3 : f3.length ≤ fs.length + 1 := by rw [hf3]; exact Nat.le_trans (len_fput_old g2) c2
  rw [← hf3]
  by_cases a3 : a = 3
  · subst a3
    left
    rw [show 3 - 1 - 1 = 1 from rfl, sync_fall hu]
    exact ⟨by omega, by omega, _, _, rfl, k3⟩
  right
  rw [sync_up hu _ _ _ (by omega) g3]
  refine ⟨by omega, _, Dk.fput f3 n ⟨F1 l, F1 l⟩, by rw [show a - 1 - 1 - 1 = a - 3 from by omega], rising_fput r3 _ _, fun m => ?_, ?_, Nat.le_trans (len_fput_old g3) c3⟩
  · rw [fget_fput]
    by_cases e : m = n
    · rw [if_pos e, if_pos e]
    · rw [if_neg e, if_neg e, k3 m e]
  · have := used_fput_old (g := ⟨F1 l, F1 l⟩) r3 g3
    simp only [] at this
    omega
/-- there is no room: what there was is there -/
theorem write_full (hris : rising fs) {n : Nm} (hm : may n = true) (hn : fget fs n = none) {l : List R} (h1 : 1 ≤ l.length) (h50 : l.length ≤ 50) (hr : d.room < used fs + (l.length + 1)) :
    ∃ o' fs', write n l (dk d o 0 fs) = (dk d o' 0 fs', 6) ∧ fget fs' n = some ⟨[], []⟩ ∧ fdel fs' n = fs := by
  have hc := create_up hu o 0 fs (by decide) hm hn
  rw [write_one h1 h50 (by rw [hc]), hc]
  simp only
  have g2 : fget (Dk.fput fs n ⟨[], []⟩) n = some ⟨[], []⟩ := by rw [fget_fput, if_pos rfl]
  have u2 : used (Dk.fput fs n ⟨[], []⟩) = used fs := by rw [used_fput_new hn]; simp [sectors]
  have hap : ∃ o', (dk d (nx o) (0 - 1) (Dk.fput fs n ⟨[], []⟩)).append n (F1 l) = (dk d o' 0 (Dk.fput fs n ⟨[], []⟩), 6) := by
    refine ⟨nx (nx o), ?_⟩
    unfold Disk.append; simp only; rw [mk_begin hu _ _ _ (by decide)]
    rw [if_neg (by rw [mk_down hu]; decide), show fget (dk d (nx (nx o)) (0 - 1 - 1) (Dk.fput fs n ⟨[], []⟩)).files n = some ⟨[], []⟩ from g2]
    simp only
    rw [if_pos]
    · show d.room < used (Dk.fput fs n ⟨[], []⟩) + (sectors (([] : By).length + (F1 l).length) - sectors ([] : By).length)
      rw [List.length_nil, Nat.zero_add, sec_F1 h50, u2]
      simpa [sectors] using hr
  obtain ⟨o', hap⟩ := hap
  rw [hap, if_pos (by simp)]
  refine ⟨o', _, rfl, g2, ?_⟩
  refine files_ext (rising_fdel (rising_fput hris _ _) _) hris fun m => ?_
  rw [fget_fdel, fget_fput]
  by_cases e : m = n
  · rw [if_pos e, e, hn]
  · rw [if_neg e, if_neg e]
end
/-! ### read again -/
theorem rloop_text {n : Nm} {sz p : Nat} {sh : Bool} {d : Disk} (hp : sz ≤ p) : ∀ (m l : List R) (k : Nat), Bd m → m.length < k → rloop n sz k (p, rtext m, sh) l d = (d, l ++ m, 0)
  | [], l, k, _, hk => by
    obtain ⟨k, rfl⟩ : ∃ j, k = j + 1 := ⟨k - 1, by simp at hk; omega⟩
    have h := rnext_B (n := n) (sz := sz) (s := (p, rtext [], sh)) (d := d) rfl (by simp; omega)
    rw [rloop, h, if_neg (by simp)]
    simp
  | r :: m, l, k, hb, hk => by
    obtain ⟨k, rfl⟩ : ∃ j, k = j + 1 := ⟨k - 1, by simp at hk; omega⟩
    have hr := hb r List.mem_cons_self
    have h := rnext_A (n := n) (sz := sz) (s := (p, rtext (r :: m), sh)) (d := d) (by rw [rtext_cons]; intro e; have := congrArg List.length e; simp at this)
    simp only [rtext_cons] at h
    rw [recOf_rb hr, drop_rb] at h
    rw [rtext_cons, rloop, h, if_neg (by simp)]
    simp only
    rw [rloop_text hp m (l ++ [r]) k (fun z hz => hb z (List.mem_cons_of_mem _ hz)) (by simpa using hk), List.append_assoc]
    rfl
theorem read_one {d : Disk} (h : Q d) {n : Nm} {l : List R} {s : By} (hn : fget d.files n = some ⟨F1 l, s⟩) (h1 : 1 ≤ l.length) (h50 : l.length ≤ 50) (hb : Bd l) : ∃ o, read n d = (dk d o 0 d.files, l, 0) := by
  have hs := size_up h.up d.ops 0 d.files (by decide) hn
  rw [← h.self] at hs
  have hlen := F1_len h50
  have hsz : (d.size n).2.1 = 16 * l.length + 6 := by rw [hs]; exact hlen
  rw [read_go (by rw [hs])]
  obtain ⟨r, m, rfl⟩ : ∃ r m, l = r :: m := by cases l with
    | nil => simp at h1
    | cons r m => exact ⟨r, m, rfl⟩
  have hr := hb r List.mem_cons_self
  rw [hsz, show (d.size n).1 = dk d (nx d.ops) 0 d.files from by rw [hs]]
  have hra : (dk d (nx d.ops) 0 d.files).readAt n ((0 : Nat) : Int) (min 1006 (((16 * (r :: m).length + 6 : Nat) : Int) - ((0 : Nat) : Int))) = (dk d (nx (nx d.ops)) 0 d.files, F1 (r :: m), 0) := by
    have := readAt_up h.up (nx d.ops) 0 d.files (by decide) hn
    simp only [hlen] at this
    have e : min (1006 : Int) (((16 * (r :: m).length + 6 : Nat) : Int) - ((0 : Nat) : Int)) = ((16 * (r :: m).length + 6 : Nat) : Int) := by omega
    rw [e]; exact this
  have hdec : dec (F1 (r :: m)) = (rtext (r :: m), 16 * (r :: m).length + 6, 0) := by
    have := dec_enc (t := rtext (r :: m)) (by rw [rtext_len]; omega) []
    rw [List.append_nil, rtext_len] at this; exact this
  have hri : rin n (16 * (r :: m).length + 6) 0 false (dk d (nx d.ops) 0 d.files) = (dk d (nx (nx d.ops)) 0 d.files, (rtext (r :: m), 16 * (r :: m).length + 6, decide ((rtext (r :: m)).length < 800)), 0) := by
    have e4 := rin_e4 (n := n) (sz := 16 * (r :: m).length + 6) (p := 0) (sh := false) (d := dk d (nx d.ops) 0 d.files) (x := rtext (r :: m)) (by rw [hra, hdec]) (by rw [hra]) (by rw [hra, hdec]) (by rw [rtext_len]; rintro (hh | hh | hh | hh) <;> first | omega | cases hh)
    rw [e4, hra, hdec]
    simp
  have hrn : rnext n (16 * (r :: m).length + 6) (0, [], false) (dk d (nx d.ops) 0 d.files) = (dk d (nx (nx d.ops)) 0 d.files, (16 * (r :: m).length + 6, rtext m, decide ((rtext (r :: m)).length < 800)), some r, 0) := by
    rw [rnext_D rfl (by simp) (by rw [hri])]
    rw [hri]
    simp only [rtext_cons]
    rw [recOf_rb hr, drop_rb]
  rw [rloop, hrn, if_neg (by simp)]
  simp only
  rw [rloop_text (Nat.le_refl _) m _ _ (fun z hz => hb z (List.mem_cons_of_mem _ hz)) (by unfold rleft; simp; omega)]
  exact ⟨_, rfl⟩
end Go.Cg.Rn
