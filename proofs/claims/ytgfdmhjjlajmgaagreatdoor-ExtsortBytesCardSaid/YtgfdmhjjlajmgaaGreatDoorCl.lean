/- Plain laws of the disk while it is up, of its crashes, and of the commits over it. No condition. -/
import Derived.Test.YtgfdmhjjlajmgaaGreatDoorCm
namespace Go.Cg.Cl
set_option linter.unusedVariables false
set_option linter.unusedSimpArgs false
open Go.Cg.Dk Go.Cg.Oc Go.Cg.Cm

/-! ### a disk, by its files; by how many operations it is from a crash -/
def dk (d : Disk) (o : Int) (a : Nat) (fs : Fs) : Disk := { d with ops := o, armed := a, files := fs }
def dn (d : Disk) (o : Int) (fs : Fs) : Disk := { d with ops := o, armed := 0, files := fs, down := true }
theorem dn_down {d : Disk} {o : Int} {fs : Fs} : (dn d o fs).down = true := rfl
theorem mk_self (d : Disk) : dk d d.ops d.armed d.files = d := rfl
def nx (o : Int) : Int := IntKind.i64.wrap (o + 1)
theorem mk_begin {d : Disk} (hu : d.down = false) (o : Int) (a : Nat) (fs : Fs) (ha : a ≠ 1) : (dk d o a fs).begin_ = dk d (nx o) (a - 1) fs := by
  unfold Disk.begin_
  show (if a = 0 then _ else if a = 1 then _ else _) = _
  by_cases h : a = 0
  · rw [if_pos h]; subst h; rfl
  · rw [if_neg h, if_neg ha]; rfl
theorem mk_fall {d : Disk} (hu : d.down = false) (o : Int) (fs : Fs) : (dk d o 1 fs).begin_ = dn d (nx o) (tornAll fs d.keep) := by
  unfold Disk.begin_
  show (if (1 : Nat) = 0 then _ else if (1 : Nat) = 1 then _ else _) = _
  rw [if_neg (by decide), if_pos rfl]
  unfold Disk.crash
  rw [if_neg (by show ¬ d.down = true; rw [hu]; decide)]
  rfl
theorem dn_begin (d : Disk) (o : Int) (fs : Fs) : (dn d o fs).begin_ = dn d (nx o) fs := by
  unfold Disk.begin_
  show (if (0 : Nat) = 0 then _ else _) = _
  rw [if_pos rfl]; rfl
section
variable {d : Disk} (hu : d.down = false) (o : Int) (a : Nat) (fs : Fs)
include hu
theorem mk_down : (dk d o a fs).down = false := hu
theorem create_up (ha : a ≠ 1) {n : Nm} (hm : may n = true) (hn : fget fs n = none) : (dk d o a fs).create n = (dk d (nx o) (a - 1) (fput fs n ⟨[], []⟩), 0) := by
  unfold Disk.create; simp only; rw [mk_begin hu _ _ _ ha]
  rw [if_neg (by rw [mk_down hu]; decide), if_neg (by rw [hm]; decide), if_neg (by show ¬ (fget fs n).isSome = true; rw [hn]; decide)]; rfl
theorem create_fall {n : Nm} : (dk d o 1 fs).create n = (dn d (nx o) (tornAll fs d.keep), 7) := by
  unfold Disk.create; simp only; rw [mk_fall hu, if_pos dn_down]
theorem append_up (ha : a ≠ 1) {n : Nm} {f : Fl} (b : By) (hn : fget fs n = some f) (hr : used fs + (sectors (f.now.length + b.length) - sectors f.now.length) ≤ d.room) : (dk d o a fs).append n b = (dk d (nx o) (a - 1) (fput fs n ⟨f.now ++ b, f.syn⟩), 0) := by
  unfold Disk.append; simp only; rw [mk_begin hu _ _ _ ha]
  rw [if_neg (by rw [mk_down hu]; decide), show fget (dk d (nx o) (a - 1) fs).files n = some f from hn]
  simp only
  rw [if_neg (by show ¬ d.room < used fs + _; omega)]; rfl
theorem append_fall {n : Nm} (b : By) : (dk d o 1 fs).append n b = (dn d (nx o) (tornAll fs d.keep), 7) := by
  unfold Disk.append; simp only; rw [mk_fall hu, if_pos dn_down]
theorem sync_up (ha : a ≠ 1) {n : Nm} {f : Fl} (hn : fget fs n = some f) : (dk d o a fs).sync n = (dk d (nx o) (a - 1) (fput fs n ⟨f.now, f.now⟩), 0) := by
  unfold Disk.sync; simp only; rw [mk_begin hu _ _ _ ha]
  rw [if_neg (by rw [mk_down hu]; decide), show fget (dk d (nx o) (a - 1) fs).files n = some f from hn]; rfl
theorem sync_fall {n : Nm} : (dk d o 1 fs).sync n = (dn d (nx o) (tornAll fs d.keep), 7) := by
  unfold Disk.sync; simp only; rw [mk_fall hu, if_pos dn_down]
theorem rename_up (ha : a ≠ 1) {n m : Nm} {f : Fl} (hn : fget fs n = some f) (hm : may m = true) (hne : n ≠ m) : (dk d o a fs).rename n m = (dk d (nx o) (a - 1) (fput (fdel fs n) m f), 0) := by
  unfold Disk.rename; simp only; rw [mk_begin hu _ _ _ ha]
  rw [if_neg (by rw [mk_down hu]; decide), show fget (dk d (nx o) (a - 1) fs).files n = some f from hn]
  simp only
  rw [if_neg (by rw [hm]; decide), if_neg hne]; rfl
theorem rename_fall {n m : Nm} : (dk d o 1 fs).rename n m = (dn d (nx o) (tornAll fs d.keep), 7) := by
  unfold Disk.rename; simp only; rw [mk_fall hu, if_pos dn_down]
theorem remove_up (ha : a ≠ 1) {n : Nm} {f : Fl} (hn : fget fs n = some f) : (dk d o a fs).remove n = (dk d (nx o) (a - 1) (fdel fs n), 0) := by
  unfold Disk.remove; simp only; rw [mk_begin hu _ _ _ ha]
  rw [if_neg (by rw [mk_down hu]; decide), show fget (dk d (nx o) (a - 1) fs).files n = some f from hn]; rfl
theorem remove_none (ha : a ≠ 1) {n : Nm} (hn : fget fs n = none) : (dk d o a fs).remove n = (dk d (nx o) (a - 1) (fdel fs n), 4) := by
  unfold Disk.remove; simp only; rw [mk_begin hu _ _ _ ha]
  rw [if_neg (by rw [mk_down hu]; decide), show fget (dk d (nx o) (a - 1) fs).files n = none from hn, fdel_none hn]
theorem remove_fall {n : Nm} : (dk d o 1 fs).remove n = (dn d (nx o) (tornAll fs d.keep), 7) := by
  unfold Disk.remove; simp only; rw [mk_fall hu, if_pos dn_down]
theorem size_up (ha : a ≠ 1) {n : Nm} {f : Fl} (hn : fget fs n = some f) : (dk d o a fs).size n = (dk d (nx o) (a - 1) fs, f.now.length, 0) := by
  unfold Disk.size; simp only; rw [mk_begin hu _ _ _ ha]
  rw [if_neg (by rw [mk_down hu]; decide), show fget (dk d (nx o) (a - 1) fs).files n = some f from hn]
theorem size_none (ha : a ≠ 1) {n : Nm} (hn : fget fs n = none) : (dk d o a fs).size n = (dk d (nx o) (a - 1) fs, 0, 4) := by
  unfold Disk.size; simp only; rw [mk_begin hu _ _ _ ha]
  rw [if_neg (by rw [mk_down hu]; decide), show fget (dk d (nx o) (a - 1) fs).files n = none from hn]
theorem readAt_up (ha : a ≠ 1) {n : Nm} {f : Fl} (hn : fget fs n = some f) : (dk d o a fs).readAt n 0 (f.now.length : Nat) = (dk d (nx o) (a - 1) fs, f.now, 0) := by
  unfold Disk.readAt; simp only; rw [mk_begin hu _ _ _ ha]
  rw [if_neg (by rw [mk_down hu]; decide), show fget (dk d (nx o) (a - 1) fs).files n = some f from hn]
  simp
theorem list_up (ha : a ≠ 1) : (dk d o a fs).list = (dk d (nx o) (a - 1) fs, fs.map (·.1), 0) := by
  unfold Disk.list; simp only; rw [mk_begin hu _ _ _ ha]
  rw [if_neg (by rw [mk_down hu]; decide)]; rfl
end
theorem remove_dn (d : Disk) (o : Int) (fs : Fs) (n : Nm) : (dn d o fs).remove n = (dn d (nx o) fs, 7) := by
  unfold Disk.remove; simp only; rw [dn_begin, if_pos dn_down]

/-! ### a file that has its bytes at once, or not at all -/
theorem put_go {d : Disk} (hu : d.down = false) (o : Int) (a : Nat) (fs : Fs) (hris : rising fs) (kind name : Nm) (b : By) (h1 : may (kind ++ nNew) = true) (h2 : may (kind ++ name) = true) (hne : nNew ≠ name) (hr : sectors b.length + used fs ≤ d.room) :
    (1 ≤ a ∧ a ≤ 5 ∧ ∃ o' fs', Cm.put kind name b (dk d o a fs) = (dn d o' (tornAll fs' d.keep), 7) ∧ ∀ n, n ≠ kind ++ nNew → fget fs' n = fget fs n) ∨
    ((a = 0 ∨ 5 < a) ∧ ∃ o' fs', Cm.put kind name b (dk d o a fs) = (dk d o' (a - 5) fs', 0) ∧ rising fs' ∧ ∀ n, fget fs' n = if n = kind ++ name then some ⟨b, b⟩ else if n = kind ++ nNew then none else fget fs n) := by
  obtain ⟨t, ht⟩ : ∃ t, t = kind ++ nNew := ⟨_, rfl⟩
  obtain ⟨m, hm⟩ : ∃ m, m = kind ++ name := ⟨_, rfl⟩
  have htm : t ≠ m := by rw [ht, hm]; intro e; exact hne (List.append_cancel_left e)
  unfold Cm.put
  simp only
  rw [← ht] at h1 ⊢
  rw [← hm] at h2 ⊢
  by_cases a1 : a = 1
  · subst a1
    left
    rw [remove_fall hu, if_pos (by simp)]
    exact ⟨by omega, by omega, _, fs, rfl, fun n _ => rfl⟩
  have hrem : ∃ e, (dk d o a fs).remove t = (dk d (nx o) (a - 1) (fdel fs t), e) ∧ ¬ (e ≠ 0 ∧ e ≠ 4) := by
    cases hf : fget fs t with
    | none => exact ⟨4, remove_none hu _ _ _ a1 hf, by decide⟩
    | some f => exact ⟨0, remove_up hu _ _ _ a1 hf, by decide⟩
  obtain ⟨e, hrem, he⟩ := hrem
  rw [hrem]
  simp only
  rw [if_neg he]
  have g1 : fget (fdel fs t) t = none := by rw [fget_fdel, if_pos rfl]
  have hru := used_fdel_le hris t
  have k1 : ∀ n, n ≠ t → fget (fdel fs t) n = fget fs n := fun n hn => by rw [fget_fdel, if_neg hn]
  by_cases a2 : a = 2
  · subst a2
    left
    rw [tries, show 2 - 1 = 1 from rfl, create_fall hu, if_pos (by simp), remove_dn]
    exact ⟨by omega, by omega, _, _, rfl, k1⟩
  rw [tries, create_up hu _ _ _ (by omega) h1 g1, if_neg (by simp)]
  obtain ⟨f2, hf2⟩ : ∃ f2, f2 = fput (fdel fs t) t ⟨[], []⟩ := ⟨_, rfl⟩
  have g2 : fget f2 t = some ⟨[], []⟩ := by rw [hf2, fget_fput, if_pos rfl]
  have k2 : ∀ n, n ≠ t → fget f2 n = fget fs n := fun n hn => by rw [hf2, fget_fput, if_neg hn, k1 n hn]
  have u2 : used f2 ≤ used fs := by rw [hf2, used_fput, fdel_fdel]; simp [sectors]; omega
  simp only
  rw [← hf2]
  by_cases a3 : a = 3
  · subst a3
    left
    rw [tries, show 3 - 1 - 1 = 1 from rfl, append_fall hu, if_pos (by simp), remove_dn]
    exact ⟨by omega, by omega, _, _, rfl, k2⟩
  have hse : sectors (([] : By).length + b.length) - sectors ([] : By).length = sectors b.length := by simp [sectors]
  rw [tries, append_up hu _ _ _ (by omega) b g2 (by rw [hse]; omega), if_neg (by simp)]
  obtain ⟨f3, hf3⟩ : ∃ f3, f3 = fput f2 t ⟨b, []⟩ := ⟨_, rfl⟩
  have g3 : fget f3 t = some ⟨b, []⟩ := by rw [hf3, fget_fput, if_pos rfl]
  have k3 : ∀ n, n ≠ t → fget f3 n = fget fs n := fun n hn => by rw [hf3, fget_fput, if_neg hn, k2 n hn]
  simp only [List.nil_append]
  rw [← hf3]
  by_cases a4 : a = 4
  · subst a4
    left
    rw [tries, show 4 - 1 - 1 - 1 = 1 from rfl, sync_fall hu, if_pos (by simp), remove_dn]
    exact ⟨by omega, by omega, _, _, rfl, k3⟩
  rw [tries, sync_up hu _ _ _ (by omega) g3, if_neg (by simp)]
  obtain ⟨f4, hf4⟩ : ∃ f4, f4 = fput f3 t ⟨b, b⟩ := ⟨_, rfl⟩
  have g4 : fget f4 t = some ⟨b, b⟩ := by rw [hf4, fget_fput, if_pos rfl]
  have k4 : ∀ n, n ≠ t → fget f4 n = fget fs n := fun n hn => by rw [hf4, fget_fput, if_neg hn, k3 n hn]
  simp only
  rw [← hf4]
  by_cases a5 : a = 5
  · subst a5
    left
    rw [tries, show 5 - 1 - 1 - 1 - 1 = 1 from rfl, rename_fall hu, if_pos (by simp), remove_dn]
    exact ⟨by omega, by omega, _, _, rfl, k4⟩
  right
  rw [tries, rename_up hu _ _ _ (by omega) g4 h2 htm, if_neg (by simp), tries]
  refine ⟨by omega, _, fput (fdel f4 t) m ⟨b, b⟩, by simp only; rw [show a - 1 - 1 - 1 - 1 - 1 = a - 5 from by omega], ?_, fun n => ?_⟩
  · refine rising_fput (rising_fdel ?_ _) _ _
    rw [hf4, hf3, hf2]
    exact rising_fput (rising_fput (rising_fput (rising_fdel hris _) _ _) _ _) _ _
  · rw [fget_fput, fget_fdel]
    by_cases e1 : n = m
    · rw [if_pos e1, if_pos e1]
    · rw [if_neg e1, if_neg e1]
      by_cases e2 : n = t
      · rw [if_pos e2, if_pos e2]
      · rw [if_neg e2, if_neg e2, k4 n e2]

/-! ### a disk that is up, and no crash is to come -/
structure Q (d : Disk) : Prop where
  ok : d.Ok
  up : d.down = false
  arm : d.armed = 0
theorem Q.self {d : Disk} (h : Q d) : d = dk d d.ops 0 d.files := by
  have := h.arm
  cases d
  simp only [dk] at *
  subst this; rfl
theorem Q.same {d : Disk} (h : Q d) (o : Int) : Q (dk d o 0 d.files) := ⟨⟨h.ok.ris, h.ok.syn, h.ok.fit, h.ok.room, Nat.zero_le _, h.ok.nam⟩, h.up, rfl⟩
/-- what is behind -/
structure Af (d d' : Disk) (g : Nm → Option Fl) : Prop where
  q : Q d'
  room : d'.room = d.room
  get : ∀ n, fget d'.files n = g n
  cnt : d'.files.length ≤ d.files.length + 1
theorem Q.af {d : Disk} (h : Q d) (o : Int) : Af d (dk d o 0 d.files) (fget d.files) := ⟨h.same o, rfl, fun _ => rfl, Nat.le_succ _⟩
def cont (d : Disk) (n : Nm) : By := match fget d.files n with | some f => f.now | none => []
theorem cont_some {d : Disk} {n : Nm} {f : Fl} (h : fget d.files n = some f) : cont d n = f.now := by unfold cont; rw [h]
theorem cont_none {d : Disk} {n : Nm} (h : fget d.files n = none) : cont d n = [] := by unfold cont; rw [h]
theorem read_q {d : Disk} (hu : d.down = false) (o : Int) (n : Nm) : ∃ o' e, Cm.read n (dk d o 0 d.files) = (dk d o' 0 d.files, cont d n, e) ∧ e = if (fget d.files n).isSome then 0 else 4 := by
  unfold Cm.read
  simp only
  cases hf : fget d.files n with
  | none => rw [size_none hu _ _ _ (by decide) hf, if_pos (by simp), cont_none hf]; exact ⟨_, _, rfl, rfl⟩
  | some f => rw [size_up hu _ _ _ (by decide) hf, if_neg (by simp)]; simp only; rw [readAt_up hu _ _ _ (by decide) hf, cont_some hf]; exact ⟨_, _, rfl, rfl⟩
theorem load_q {d : Disk} (h : Q d) : ∃ o, Cm.load d = (dk d o 0 d.files, (Oc.choose (cont d (slotN 0)) (cont d (slotN 1))).1, (Oc.choose (cont d (slotN 0)) (cont d (slotN 1))).2.2, 0) := by
  unfold Cm.load
  simp only
  obtain ⟨o1, e1, h1, he1⟩ := read_q h.up d.ops (slotN 0)
  rw [← h.self] at h1
  rw [h1]
  simp only
  rw [if_neg (by rw [he1]; split <;> simp)]
  obtain ⟨o2, e2, h2, he2⟩ := read_q h.up o1 (slotN 1)
  rw [h2]
  simp only
  rw [if_neg (by rw [he2]; split <;> simp)]
  exact ⟨o2, rfl⟩
theorem state_q {d : Disk} (h : Q d) {step : Int} {f : Fl} {c : List Nat × List Bool} (hf : fget d.files (nState ++ Go.Lib.itoa step) = some f) (hd : sdec f.now = (step, c, 0)) : ∃ o, state step d = (dk d o 0 d.files, c, 0) := by
  unfold state
  simp only
  obtain ⟨o1, e1, h1, he1⟩ := read_q h.up d.ops (nState ++ Go.Lib.itoa step)
  rw [← h.self] at h1
  rw [hf] at he1
  simp only [Option.isSome_some, if_true] at he1
  subst he1
  rw [h1, cont_some hf, hd]
  simp
  exact ⟨o1, rfl⟩
theorem state_none {d : Disk} (h : Q d) {step : Int} (hf : fget d.files (nState ++ Go.Lib.itoa step) = none) : ∃ o, state step d = (dk d o 0 d.files, ([], []), 4) := by
  unfold state
  simp only
  obtain ⟨o1, e1, h1, he1⟩ := read_q h.up d.ops (nState ++ Go.Lib.itoa step)
  rw [← h.self] at h1
  rw [hf] at he1
  simp only [Option.isSome_none] at he1
  rw [h1]
  simp [he1]
  exact ⟨o1, rfl⟩
theorem read_len {d : Disk} (h : Q d) (n : Nm) : (Cm.read n d).2.1 = cont d n := by
  obtain ⟨o1, e1, h1, _⟩ := read_q h.up d.ops n
  rw [← h.self] at h1
  rw [h1]
theorem list_q {d : Disk} (h : Q d) : ∃ o, d.list = (dk d o 0 d.files, d.files.map (·.1), 0) := by
  have := list_up h.up d.ops 0 d.files (by decide)
  rw [← h.self] at this
  exact ⟨_, this⟩
theorem size_q {d : Disk} (h : Q d) {n : Nm} {f : Fl} (hn : fget d.files n = some f) : ∃ o, d.size n = (dk d o 0 d.files, f.now.length, 0) := by
  have := size_up h.up d.ops 0 d.files (by decide) hn
  rw [← h.self] at this
  exact ⟨_, this⟩
theorem create_q {d : Disk} (h : Q d) {n : Nm} (hm : may n = true) (hn : fget d.files n = none) : ∃ d', d.create n = (d', 0) ∧ Af d d' (fun m => if m = n then some ⟨[], []⟩ else fget d.files m) := by
  have := create_up h.up d.ops 0 d.files (by decide) hm hn
  rw [← h.self] at this
  refine ⟨_, this, ⟨?_, h.up, rfl⟩, rfl, fun m => fget_fput _ _ _ _, len_fput _ _ _⟩
  have h2 := h.ok.create n
  rw [this] at h2
  exact h2
theorem append_q {d : Disk} (h : Q d) {n : Nm} {f : Fl} (b : By) (hn : fget d.files n = some f) (hr : used d.files + sectors (f.now.length + b.length) ≤ d.room) : ∃ d', d.append n b = (d', 0) ∧ Af d d' (fun m => if m = n then some ⟨f.now ++ b, f.syn⟩ else fget d.files m) := by
  have := append_up h.up d.ops 0 d.files (by decide) b hn (by omega)
  rw [← h.self] at this
  refine ⟨_, this, ⟨?_, h.up, rfl⟩, rfl, fun m => fget_fput _ _ _ _, len_fput _ _ _⟩
  have h2 := h.ok.append n b
  rw [this] at h2
  exact h2
/-! ### what put leaves, whatever comes -/
theorem tries_ok (tmp : Nm) : ∀ (l : List (Disk → Disk × Nat)) (d : Disk), d.Ok → (∀ f ∈ l, ∀ d : Disk, d.Ok → (f d).1.Ok) → (tries tmp l d).1.Ok
  | [], d, h, _ => h
  | f :: r, d, h, hf => by
    unfold tries
    have h1 := hf f List.mem_cons_self d h
    split
    · exact h1.remove tmp
    · exact tries_ok tmp r _ h1 fun g hg => hf g (List.mem_cons_of_mem _ hg)
theorem put_ok {d : Disk} (h : d.Ok) (kind name : Nm) (b : By) : (Cm.put kind name b d).1.Ok := by
  unfold Cm.put
  simp only
  have h1 := h.remove (kind ++ nNew)
  split
  · exact h1
  · refine tries_ok _ _ _ h1 fun f hf d hd => ?_
    simp only [List.mem_cons, List.not_mem_nil, or_false] at hf
    rcases hf with rfl | rfl | rfl | rfl
    · exact hd.create _
    · exact hd.append _ _
    · exact hd.sync _
    · exact hd.rename _ _
theorem put_cnt (d : Disk) (kind name : Nm) (b : By) : (Cm.put kind name b d).1.files.length ≤ d.files.length + 1 := by
  unfold Cm.put
  simp only
  have h1 := len_remove d (kind ++ nNew)
  split
  · exact Nat.le_succ_of_le h1
  · have k1 := len_create (d.remove (kind ++ nNew)).1 (kind ++ nNew)
    generalize (d.remove (kind ++ nNew)).1 = d1 at *
    have r1 := len_remove (d1.create (kind ++ nNew)).1 (kind ++ nNew)
    rw [tries]
    split
    · simp only; omega
    · generalize (d1.create (kind ++ nNew)).1 = d2 at *
      have k2 := len_append d2 (kind ++ nNew) b
      have r2 := len_remove (d2.append (kind ++ nNew) b).1 (kind ++ nNew)
      rw [tries]
      split
      · simp only; omega
      · generalize (d2.append (kind ++ nNew) b).1 = d3 at *
        have k3 := len_sync d3 (kind ++ nNew)
        have r3 := len_remove (d3.sync (kind ++ nNew)).1 (kind ++ nNew)
        rw [tries]
        split
        · simp only; omega
        · generalize (d3.sync (kind ++ nNew)).1 = d4 at *
          have k4 := len_rename d4 (kind ++ nNew) (kind ++ name)
          have r4 := len_remove (d4.rename (kind ++ nNew) (kind ++ name)).1 (kind ++ nNew)
          rw [tries]
          split
          · simp only; omega
          · rw [tries]; simp only; omega
structure Fits (kind name : Nm) (b : By) (d : Disk) : Prop where
  m1 : may (kind ++ nNew) = true
  m2 : may (kind ++ name) = true
  ne : nNew ≠ name
  room : sectors b.length + used d.files ≤ d.room
theorem put_q {d : Disk} (h : Q d) {kind name : Nm} {b : By} (hf : Fits kind name b d) : ∃ d', Cm.put kind name b d = (d', 0) ∧ Af d d' (fun n => if n = kind ++ name then some ⟨b, b⟩ else if n = kind ++ nNew then none else fget d.files n) := by
  rcases put_go h.up d.ops 0 d.files h.ok.ris kind name b hf.m1 hf.m2 hf.ne hf.room with ⟨h1, _⟩ | ⟨_, o, fs, e, hr, hg⟩
  · omega
  · rw [← h.self] at e
    have h1 := put_ok h.ok kind name b
    have h2 := put_cnt d kind name b
    rw [e] at h1 h2
    exact ⟨_, e, ⟨h1, h.up, rfl⟩, rfl, hg, h2⟩
/-! ### a crash -/
def Clean (fs : Fs) : Prop := ∀ n f, fget fs n = some f → f.now = f.syn
theorem torn_get {fs : Fs} {n : Nm} {f : Fl} (k : List Bool) (h : fget fs n = some f) (hc : f.now = f.syn) : fget (tornAll fs k) n = some f := by
  rcases tornAll_get n fs k with ⟨h1, _⟩ | ⟨g, k', h1, h2⟩
  · rw [h1] at h; cases h
  · rw [h1] at h
    simp only [Option.some.injEq] at h
    subst h
    obtain ⟨x, y⟩ := g
    simp only at hc
    subst hc
    rw [h2, torn_clean]
theorem torn_none {fs : Fs} {n : Nm} (k : List Bool) (h : fget fs n = none) : fget (tornAll fs k) n = none := by
  rcases tornAll_get n fs k with ⟨_, h2⟩ | ⟨g, k', h1, _⟩
  · exact h2
  · rw [h1] at h; cases h
theorem torn_same {fs : Fs} {n : Nm} (k : List Bool) (hc : ∀ f, fget fs n = some f → f.now = f.syn) : fget (tornAll fs k) n = fget fs n := by
  cases hf : fget fs n with
  | none => exact torn_none k hf
  | some f => exact torn_get k hf (hc f hf)
/-- a crash, and up again, of a disk all of which lasts -/
theorem crash_q {d : Disk} (h : Q d) (hc : Clean d.files) (k : List Bool) : Af d (d.crash k).restart (fget d.files) := by
  have h1 : d.crash k = { d with files := tornAll d.files k, armed := 0, down := true } := by unfold Disk.crash; rw [if_neg (by rw [h.up]; decide)]
  refine ⟨⟨(h.ok.crash k).restart, rfl, by rw [h1]; rfl⟩, by rw [h1]; rfl, fun n => ?_, ?_⟩
  · rw [h1]; exact torn_same k (hc n)
  · rw [h1]; show (tornAll d.files k).length ≤ _; rw [len_torn]; omega
/-- a file on its way, a crash, and up again -/
theorem crash_put {d : Disk} (h : Q d) (hc : Clean d.files) {kind name : Nm} {b : By} (hf : Fits kind name b d) (at_ : Int) (h1 : 1 ≤ at_) (h2 : at_ ≤ 9223372036854775807) (k k' : List Bool) :
    ∃ d1 e, Cm.put kind name b (d.arm at_ k) = (d1, e) ∧ ∃ g, Af d (((d1.arm 0 []).crash k').restart) g ∧ ((e = 0 ∧ ∀ n, g n = if n = kind ++ name then some ⟨b, b⟩ else if n = kind ++ nNew then none else fget d.files n) ∨ (e = 7 ∧ ∀ n, n ≠ kind ++ nNew → g n = fget d.files n)) := by
  obtain ⟨D, hD⟩ : ∃ D, D = d.arm at_ k := ⟨_, rfl⟩
  have hDu : D.down = false := by rw [hD]; exact h.up
  have hDs : D = dk D D.ops at_.toNat D.files := by rw [hD]; rfl
  have hDf : D.files = d.files := by rw [hD]; rfl
  have hDr : D.room = d.room := by rw [hD]; rfl
  have hDo : D.Ok := by rw [hD]; exact h.ok.arm h2 k
  rw [← hD]
  have ho := put_ok hDo kind name b
  have hl := put_cnt D kind name b
  rcases put_go hDu D.ops at_.toNat D.files hDo.ris kind name b hf.m1 hf.m2 hf.ne (by rw [hDf, hDr]; exact hf.room) with ⟨_, _, o, fs, e, hg⟩ | ⟨_, o, fs, e, hr, hg⟩
  · rw [← hDs] at e
    rw [e] at ho hl
    refine ⟨_, _, e, fun n => fget (tornAll fs D.keep) n, ⟨⟨((ho.arm (by omega) []).crash k').restart, rfl, rfl⟩, hDr, fun n => rfl, by rw [← hDf]; exact hl⟩, .inr ⟨rfl, fun n hn => ?_⟩⟩
    have h3 := hg n hn
    rw [hDf] at h3
    show fget (tornAll fs D.keep) n = _
    rw [torn_same _ (fun f hf => hc n f (by rw [← h3]; exact hf)), h3]
  · rw [← hDs] at e
    rw [e] at ho hl
    have h4 : ((dk D o (at_.toNat - 5) fs).arm 0 []).crash k' = { ((dk D o (at_.toNat - 5) fs).arm 0 []) with files := tornAll fs k', armed := 0, down := true } := by unfold Disk.crash; rw [if_neg (by show ¬ D.down = true; rw [hDu]; decide)]; rfl
    refine ⟨_, _, e, fun n => fget (tornAll fs k') n, ⟨⟨((ho.arm (by omega) []).crash k').restart, rfl, by rw [h4]; rfl⟩, by rw [h4]; exact hDr, fun n => by rw [h4]; rfl, by rw [h4]; show (tornAll fs k').length ≤ _; rw [len_torn, ← hDf]; exact hl⟩, .inl ⟨rfl, fun n => ?_⟩⟩
    show fget (tornAll fs k') n = _
    have h3 := hg n
    rw [torn_same _ (fun f hf => ?_), h3, hDf]
    rw [h3] at hf
    split at hf
    · cases hf; rfl
    · split at hf
      · cases hf
      · rw [hDf] at hf; exact hc n f hf
/-! ### what is swept -/
theorem mem_names {fs : Fs} {n : Nm} : n ∈ fs.map (·.1) ↔ (fget fs n).isSome = true := by
  constructor
  · intro h
    obtain ⟨p, hp, rfl⟩ := List.mem_map.1 h
    cases hf : fget fs p.1 with
    | none => exact absurd rfl (fget_none hf p hp)
    | some f => rfl
  · intro h
    obtain ⟨f, hf⟩ := Option.isSome_iff_exists.1 h
    exact List.mem_map.2 ⟨_, mem_of_fget hf, rfl⟩
theorem removes_q {d : Disk} (hu : d.down = false) (m : Mf) (is : Bool) : ∀ (ns : List Nm) (o : Int) (fs : Fs), rising fs → ns.Nodup → (∀ n ∈ ns, (fget fs n).isSome = true) →
    ∃ o' fs', removes m is ns (dk d o 0 fs) = (dk d o' 0 fs', 0) ∧ ∀ n, fget fs' n = if n ∈ ns ∧ stays n m is = false then none else fget fs n
  | [], o, fs, _, _, _ => ⟨o, fs, rfl, fun n => by simp⟩
  | n :: r, o, fs, hr, hn, hs => by
    obtain ⟨hn1, hn2⟩ := List.nodup_cons.1 hn
    unfold removes
    split
    · rename_i hst
      obtain ⟨o', fs', h1, h2⟩ := removes_q hu m is r o fs hr hn2 fun x hx => hs x (List.mem_cons_of_mem _ hx)
      refine ⟨o', fs', h1, fun x => ?_⟩
      rw [h2]
      by_cases hx : x = n
      · subst hx; rw [if_neg (by rw [hst]; simp), if_neg (by rw [hst]; simp)]
      · simp [hx]
    · rename_i hst
      obtain ⟨f, hf⟩ := Option.isSome_iff_exists.1 (hs n List.mem_cons_self)
      rw [remove_up hu _ _ _ (by decide) hf]
      simp only
      rw [if_neg (by simp)]
      obtain ⟨o', fs', h1, h2⟩ := removes_q hu m is r (nx o) (fdel fs n) (rising_fdel hr n) hn2 fun x hx => by
        rw [fget_fdel, if_neg (fun e => hn1 (by rw [← e]; exact hx))]
        exact hs x (List.mem_cons_of_mem _ hx)
      refine ⟨o', fs', h1, fun x => ?_⟩
      rw [h2, fget_fdel]
      by_cases hx : x = n
      · subst hx
        have : stays x m is = false := by simpa using hst
        simp [this]
      · simp [hx]
theorem removes_ok (m : Mf) (is : Bool) : ∀ (ns : List Nm) (d : Disk), d.Ok → (removes m is ns d).1.Ok ∧ (removes m is ns d).1.files.length ≤ d.files.length
  | [], d, h => ⟨h, Nat.le_refl _⟩
  | n :: r, d, h => by
    unfold removes
    split
    · exact removes_ok m is r d h
    · have h1 := len_remove d n
      split
      · exact ⟨h.remove n, h1⟩
      · have := removes_ok m is r _ (h.remove n)
        exact ⟨this.1, Nat.le_trans this.2 h1⟩
theorem nodup_names {fs : Fs} (h : rising fs) : (fs.map (·.1)).Nodup := by
  unfold List.Nodup
  rw [List.pairwise_map]
  refine List.Pairwise.imp ?_ h
  intro a b hab e
  rw [e] at hab
  exact lt_irrefl _ hab
theorem sweep_q {d : Disk} (h : Q d) {m : Mf} {is : Bool} (hm : (Oc.choose (cont d (slotN 0)) (cont d (slotN 1))).1 = m) (hi : (Oc.choose (cont d (slotN 0)) (cont d (slotN 1))).2.2 = is) : ∃ d', sweep d = (d', 0) ∧ Af d d' (fun n => if stays n m is = true then fget d.files n else none) := by
  obtain ⟨o1, h1⟩ := load_q h
  rw [hm, hi] at h1
  have h2 := list_up h.up o1 0 d.files (by decide)
  obtain ⟨o3, fs, h3, hg⟩ := removes_q h.up m is (d.files.map (·.1)) (nx o1) d.files h.ok.ris (nodup_names h.ok.ris) fun n hn => mem_names.1 hn
  have hs : sweep d = (dk d o3 0 fs, 0) := by
    unfold sweep
    simp only
    rw [h1]
    simp only
    rw [if_neg (by simp), h2]
    simp only
    rw [if_neg (by simp), h3]
  have h4 := removes_ok m is (d.files.map (·.1)) (dk d (nx o1) 0 d.files) (h.same _).ok
  rw [h3] at h4
  refine ⟨_, hs, ⟨h4.1, h.up, rfl⟩, rfl, fun n => ?_, Nat.le_succ_of_le h4.2⟩
  show fget fs n = _
  rw [hg]
  by_cases hst : stays n m is = true
  · rw [if_neg (by rw [hst]; simp), if_pos hst]
  · have hst' : stays n m is = false := by simpa using hst
    rw [if_neg hst]
    by_cases hn : n ∈ d.files.map (·.1)
    · rw [if_pos ⟨hn, hst'⟩]
    · rw [if_neg (fun x => hn x.1)]
      cases hf : fget d.files n with
      | none => rfl
      | some f => exact absurd (mem_names.2 (by rw [hf]; rfl)) hn
/-! ### how much there is -/
theorem used_le_c {c : Nat} : ∀ {l : Fs}, (∀ p ∈ l, p.2.now.length ≤ c) → used l ≤ l.length * sectors c
  | [], _ => by simp [used]
  | p :: r, h => by
    have h1 := h p List.mem_cons_self
    have h2 := used_le_c (l := r) fun q hq => h q (List.mem_cons_of_mem _ hq)
    have h3 : sectors p.2.now.length ≤ sectors c := Nat.div_le_div_right (by omega)
    rw [used_cons, List.length_cons, Nat.succ_mul]; omega
theorem len_names : ∀ {l ns : List Nm}, l.Nodup → (∀ x ∈ l, x ∈ ns) → l.length ≤ ns.length
  | [], _, _, _ => Nat.zero_le _
  | x :: r, ns, h, hs => by
    obtain ⟨h1, h2⟩ := List.nodup_cons.1 h
    have hx := hs x List.mem_cons_self
    have := len_names (l := r) (ns := ns.erase x) h2 fun y hy => (List.mem_erase_of_ne (fun e => h1 (by rw [← e]; exact hy))).2 (hs y (List.mem_cons_of_mem _ hy))
    rw [List.length_erase_of_mem hx] at this
    have := List.length_pos_of_mem hx
    rw [List.length_cons]; omega
theorem used_names {fs : Fs} (hr : rising fs) (ns : List Nm) (c : Nat) (h : ∀ n f, fget fs n = some f → n ∈ ns ∧ f.now.length ≤ c) : used fs ≤ ns.length * sectors c ∧ fs.length ≤ ns.length := by
  have h1 : fs.length ≤ ns.length := by
    have := len_names (nodup_names hr) (ns := ns) fun x hx => by
      obtain ⟨f, hf⟩ := Option.isSome_iff_exists.1 (mem_names.1 hx)
      exact (h x f hf).1
    rwa [List.length_map] at this
  refine ⟨Nat.le_trans (used_le_c (c := c) fun p hp => (h p.1 p.2 (fget_of_mem hr hp)).2) (Nat.mul_le_mul_right _ h1), h1⟩
end Go.Cg.Cl
