/- Plans of the sort's laws: what each call tells. No condition. -/
import Derived.Test.YtgfdmhjjlajmgaaGreatDoorKExtsortSameXa
namespace Go.Cg.Xs
set_option linter.unusedVariables false
set_option linter.unusedSimpArgs false
open Go.Cg.Dk Go.Cg.Oc Go.Cg.Sn Go.Cg.Cl
open Go.Cg.Rn hiding HeapOk MInv NextP UpEx DnEx lst

/-- a disk that is up, how much room, and the files -/
structure Is (d : Disk) (r : Nat) (fs : Fs) : Prop where
  q : Q d
  rm : d.room = r
  fl : d.files = fs
theorem Is.fresh {r : Int} {k : Nat} (h : r = (k : Int)) (hk : k ≤ 1099511627776) : Is (fresh r) k [] := ⟨⟨fresh_ok (by omega), rfl, rfl⟩, by subst h; rfl, rfl⟩
theorem fput_len {fs : Fs} {n : Nm} {f : Fl} (h : fget fs n = none) : (Dk.fput fs n f).length = fs.length + 1 := by
  unfold Dk.fput; rw [(perm_fins n f _).length_eq, fdel_none h]; rfl
def Names (fs : Fs) (ns : List Nm) : Prop := ∀ m, fget fs m ≠ none → m ∈ ns
theorem Names.nil : Names [] [] := fun m h => absurd rfl h
theorem Names.put {fs : Fs} {ns : List Nm} (h : Names fs ns) (n : Nm) (f : Fl) : Names (Dk.fput fs n f) (n :: ns) := fun m hm => by
  rw [fget_fput] at hm
  by_cases e : m = n
  · rw [e]; exact List.mem_cons_self
  · rw [if_neg e] at hm; exact List.mem_cons_of_mem _ (h m hm)
theorem tname_ne {temp n : Nm} {k : Nat} (h : (46 : UInt8) ∉ n) : tname temp k ≠ n := fun e => h (e ▸ by unfold tname; simp)
theorem tmp_of {d : Disk} (hok : d.Ok) {temp out : Nm} (hno : ∀ k, fget d.files (tname temp k) = none) (hd : (46 : UInt8) ∉ out) (ou : fget d.files out = none) (mo : may out = true) (ht : temp.length ≤ 15) : Tmp d.files temp out 99999999 :=
  ⟨fun k hk => tname_may ht (by omega), hno, fun k => tname_ne hd, hok.ris, ou, mo, fun m f hf => hok.syn _ (mem_of_fget hf)⟩
section
variable {d : Disk} {r : Nat} {fs : Fs} (h : Is d r fs)
include h
theorem Is.put (o : Int) {n : Nm} {f : Fl} (hm : may n = true) (hs : f.syn.length ≤ f.now.length) (hu : used (Dk.fput fs n f) ≤ r) : Is (dk d o 0 (Dk.fput fs n f)) r (Dk.fput fs n f) := by
  obtain ⟨hq, hr, hf⟩ := h
  subst hf
  have hx := hq.ok.put (n := n) (f := f) hs (by rw [used_fput] at hu; omega) (may_len (by rw [hm]; simp))
  exact ⟨⟨⟨hx.ris, hx.syn, hx.fit, hx.room, Nat.zero_le _, hx.nam⟩, hq.up, rfl⟩, hr, rfl⟩
theorem Is.same (o : Int) : Is (dk d o 0 fs) r fs := by
  obtain ⟨hq, hr, hf⟩ := h
  subst hf
  exact ⟨hq.same o, hr, rfl⟩
theorem Is.self : d = dk d d.ops 0 fs := by
  obtain ⟨hq, hr, hf⟩ := h
  subst hf
  exact hq.self
theorem Is.write {n : Nm} (hm : may n = true) (hn : fget fs n = none) {l : List R} (hr : used fs + secN l.length ≤ r) : ∃ d', Rn.write n l d = (d', 0) ∧ Is d' r (Dk.fput fs n ⟨FB l, FB l⟩) := by
  have hs := sec_FBn l
  have hris : rising fs := h.fl ▸ h.q.ok.ris
  have hw := write_all h.q.up d.ops 0 hris hm hn l
  rw [← h.self] at hw
  rcases hw with ⟨h1, _⟩ | ⟨o', a', f', h1, h2, h3, h4, h5, h6, h7⟩ | ⟨o', a', f', h1, h2, h3, h4, h5, h6⟩
  · omega
  · have := h.rm; omega
  · have e : f' = Dk.fput fs n ⟨FB l, FB l⟩ := files_ext h3 (rising_fput hris _ _) fun m => by rw [h4, fget_fput]
    subst e
    rw [h2 rfl] at h1
    exact ⟨_, h1, h.put o' hm (Nat.le_refl _) (by omega)⟩
theorem Is.read {n : Nm} {l : List R} {s : By} (hf : fget fs n = some ⟨FB l, s⟩) (hb : Bd l) : ∃ d', Rn.read n d = (d', l, 0) ∧ Is d' r fs := by
  have hr := read_all h.q.up d.ops 0 hf rfl hb
  rw [← h.self] at hr
  rcases hr with ⟨h1, _⟩ | ⟨o', a', h1, h2⟩
  · omega
  · rw [h2 rfl] at h1; exact ⟨_, h1, h.same o'⟩
theorem Is.list : ∃ d' ns, d.list = (d', ns, 0) ∧ Is d' r fs ∧ ns.length = fs.length := by
  obtain ⟨o, e⟩ := list_q h.q
  refine ⟨_, _, e, ?_, ?_⟩
  · rw [h.fl]; exact h.same o
  · rw [h.fl]; simp
theorem Is.sort_ne {nin out temp : Nm} {b fan how : Int} {f : Fl} {l : List R} {e : Nat} (hno : ∀ k, fget fs (tname temp k) = none) (hd : (46 : UInt8) ∉ out) (ou : fget fs out = none) (mo : may out = true) (ht : temp.length ≤ 15) (hf : fget fs nin = some f) (hl : Rds f.now (0, [], false) l e) (hb : Bd l) (hK : l.length ≤ 1000000)
    (hb1 : 1 ≤ b) (hfan : 2 ≤ fan) (hh : 0 ≤ how ∧ how ≤ 2) :
    (∃ d' E, sortD nin out temp b fan how d = (d', 0, E) ∧ Is d' r fs ∧ Bad d fs l.length e E) ∨ (e = 0 ∧ ∃ d', sortD nin out temp b fan how d = (d', passes l.length b fan, 0) ∧ d'.files = Dk.fput fs out ⟨FB (fold how (sort l)), FB (fold how (sort l))⟩ ∧ (used fs + secN (fold how (sort l)).length ≤ r ∨ d'.Ok → Is d' r (Dk.fput fs out ⟨FB (fold how (sort l)), FB (fold how (sort l))⟩))) := by
  have hT : Tmp fs temp out 99999999 := by
    have := tmp_of (d := d) h.q.ok (temp := temp) (out := out) (by rw [h.fl]; exact hno) hd (by rw [h.fl]; exact ou) mo ht
    rwa [h.fl] at this
  have hs := sort_go h.q.up hT (how := how) e hf hl hb (by omega) hb1 hfan hh d.ops 0
  rw [← h.self] at hs
  rcases hs with ⟨⟨h1, _⟩, _⟩ | ⟨h1, _⟩ | ⟨o', a', h1, h2, h3, h4⟩ | ⟨he, o', a', h1, h2⟩
  · omega
  · omega
  · refine .inl ⟨dk d o' 0 fs, (sortD nin out temp b fan how d).2.2, ?_, h.same o', h4⟩
    exact Prod.ext (by rw [h1, h2 rfl]) (Prod.ext h3 rfl)
  · rw [h2 rfl] at h1
    refine .inr ⟨he, _, h1, rfl, fun hu => ?_⟩
    rcases hu with hu | hu
    · refine h.put o' mo (Nat.le_refl _) ?_
      rw [used_fput_new ou]; rw [sec_FBn]; exact hu
    · exact ⟨⟨hu, h.q.up, rfl⟩, h.rm, rfl⟩
theorem Is.sorts {nin out temp : Nm} {b fan how : Int} {s : By} {l : List R} (hno : ∀ k, fget fs (tname temp k) = none) (hd : (46 : UInt8) ∉ out) (ou : fget fs out = none) (mo : may out = true) (ht : temp.length ≤ 15) (hf : fget fs nin = some ⟨FB l, s⟩) (hb : Bd l) (hK : l.length ≤ 1000000)
    (hb1 : 1 ≤ b) (hfan : 2 ≤ fan) (hh : 0 ≤ how ∧ how ≤ 2) (hr : used fs + 4 * l.length ≤ r) : ∃ d', sortD nin out temp b fan how d = (d', passes l.length b fan, 0) ∧ Is d' r (Dk.fput fs out ⟨FB (fold how (sort l)), FB (fold how (sort l))⟩) := by
  have hle := secN_le (fold how (sort l)).length
  have hfl := fold_len how (sort l)
  rw [len_sort] at hfl
  rcases h.sort_ne hno hd ou mo ht hf (rds_FB hb) hb hK hb1 hfan hh with ⟨d', E, _, _, hB⟩ | ⟨_, d', h1, _, h2⟩
  · have := h.rm
    rcases hB with ⟨_, hB⟩ | ⟨_, hB⟩ <;> omega
  · exact ⟨d', h1, h2 (.inl (by omega))⟩
theorem Is.sort_is {nin out temp : Nm} {b fan how : Int} {f g : Fl} (hf : fget fs nin = some f) (hg : fget fs out = some g) (mo : may out = true) (hb1 : 1 ≤ b) (hfan : 2 ≤ fan) (hh : 0 ≤ how ∧ how ≤ 2) : ∃ d', sortD nin out temp b fan how d = (d', 0, 5) ∧ Is d' r fs := by
  refine ⟨dk d (nx (nx d.ops)) 0 fs, ?_, h.same _⟩
  conv => lhs; rw [h.self]
  rw [sortD, if_neg (by omega), size_up h.q.up _ _ _ (by decide) hf, if_neg (by simp)]
  simp only
  have e : (dk d (nx d.ops) (0 - 1) fs).create out = (dk d (nx (nx d.ops)) 0 fs, 5) := by
    unfold Disk.create; simp only; rw [mk_begin h.q.up _ _ _ (by decide), if_neg (by rw [mk_down h.q.up]; decide), if_neg (by rw [mo]; decide), if_pos (by show (fget fs out).isSome = true; rw [hg]; rfl)]
  rw [e, if_pos (by simp)]
theorem Is.cnt : d.files.length = fs.length := by rw [h.fl]
end
theorem no_tn {fs : Fs} {ns : List Nm} (h : Names fs ns) (hd : ∀ n ∈ ns, (46 : UInt8) ∉ n) (temp : Nm) (k : Nat) : fget fs (tname temp k) = none := by
  cases hx : fget fs (tname temp k) with
  | none => rfl
  | some f => exact absurd rfl (tname_ne (temp := temp) (k := k) (hd _ (h _ (by rw [hx]; simp))))
theorem sort_arg0 {nin out temp : Nm} {b fan how : Int} {d : Disk} (h : b < 1 ∨ fan < 2 ∨ how < 0 ∨ 2 < how) : sortD nin out temp b fan how d = (d, 0, 1) := if_pos h
theorem one_len {n : Nm} {f : Fl} : (Dk.fput [] n f).length = 1 := fput_len rfl
theorem two_len {n m : Nm} {f g : Fl} (h : m ≠ n) : (Dk.fput (Dk.fput [] n f) m g).length = 2 := by rw [fput_len (by rw [fget_fput, if_neg h]; rfl), one_len]
theorem one_used {n : Nm} {l : List R} : used (Dk.fput [] n ⟨FB l, FB l⟩) = secN l.length := by rw [used_fput_new rfl, ← sec_FBn]; simp [used]
theorem one_names (n : Nm) (f : Fl) : Names (Dk.fput [] n f) [n] := Names.nil.put n f
theorem few_used {l : List R} (h : l.length ≤ 120) : secN l.length ≤ 240 := by have := secN_le l.length; omega
theorem sorted_few {how : Int} {l : List R} : (fold how (sort l)).length ≤ l.length := by have := fold_len how (sort l); rwa [len_sort] at this
theorem sorted_bd {how : Int} {l : List R} (h : Bd l) : Bd (fold how (sort l)) := fold_bd how _ h.sort
abbrev nIn : Nm := [105, 110]
theorem passes_10 : passes 10 2 2 = 3 := by
  unfold passes; rw [if_neg (by decide)]
  simp only [show (2 : Int).toNat = 2 from rfl, show ((10 - 1) / 2 + 1 : Int).toNat = 5 from rfl]
  rw [pgo, dif_pos (by decide), pgo, dif_pos (by decide), pgo, dif_pos (by decide), pgo, dif_neg (by decide)]
theorem passes_3 : passes 3 1 2 = 2 := by
  unfold passes; rw [if_neg (by decide)]
  simp only [show (2 : Int).toNat = 2 from rfl, show ((3 - 1) / 1 + 1 : Int).toNat = 3 from rfl]
  rw [pgo, dif_pos (by decide), pgo, dif_pos (by decide), pgo, dif_neg (by decide)]
theorem passes_one {n : Nat} {b f : Int} (h : (n : Int) ≤ b) : passes n b f = 0 := by
  unfold passes
  split
  · rfl
  · rename_i hn
    have h1 : ((n : Int) - 1) / b = 0 := Int.ediv_eq_zero_of_lt (by omega) (by omega)
    rw [h1, pgo, dif_neg (by intro c; have := c.1; simp at this)]
theorem shown_plan : ∃ d1 d2 d3 d4 d5 ns, Rn.write ([105, 110]) [(3, 0), (1, 0), (2, 0)] (fresh 1000) = (d1, 0) ∧ sortD ([105, 110]) ([111, 117, 116]) ([116]) 1 2 0 d1 = (d2, 2, 0) ∧ Rn.read ([111, 117, 116]) d2 = (d3, [(1, 0), (2, 0), (3, 0)], 0) ∧
    sortD ([105, 110]) ([111, 117, 116]) ([116]) 1 2 0 d3 = (d4, 0, 5) ∧ sortD ([105, 110]) ([120]) ([116]) 0 2 0 d4 = (d4, 0, 1) ∧ d4.list = (d5, ns, 0) ∧ ns.length = 2 ∧ passes 10 2 2 = 3 ∧ d1.files.length ≤ 9 ∧ d2.files.length ≤ 9 ∧ d3.files.length ≤ 9 ∧ d4.files.length ≤ 9 := by
  have b1 : Bd [(3, 0), (1, 0), (2, 0)] := by intro z hz; simp at hz; rcases hz with rfl | rfl | rfl <;> decide
  have i0 : Is (fresh 1000) 1000 [] := Is.fresh (k := 1000) rfl (by decide)
  obtain ⟨d1, e1, i1⟩ := i0.write (n := [105, 110]) (by decide) rfl (l := [(3, 0), (1, 0), (2, 0)]) (by decide)
  obtain ⟨d2, e2, i2⟩ := i1.sorts (nin := [105, 110]) (out := [111, 117, 116]) (temp := [116]) (b := 1) (fan := 2) (how := 0) (no_tn (one_names _ _) (by decide) _) (by decide) (by rw [fget_fput, if_neg (by decide)]; rfl) (by decide) (by decide) (by rw [fget_fput, if_pos rfl]) b1 (by decide) (by decide) (by decide) (by decide) (by rw [one_used]; decide)
  have hF : fold 0 (sort [(3, 0), (1, 0), (2, 0)]) = [(1, 0), (2, 0), (3, 0)] := by rw [fold_zero]; decide
  rw [hF] at i2
  rw [show (passes (([(3, 0), (1, 0), (2, 0)] : List R).length : Nat) 1 2) = 2 from passes_3] at e2
  have b2 : Bd [(1, 0), (2, 0), (3, 0)] := by intro z hz; simp at hz; rcases hz with rfl | rfl | rfl <;> decide
  obtain ⟨d3, e3, i3⟩ := i2.read (n := [111, 117, 116]) (by rw [fget_fput, if_pos rfl]) b2
  obtain ⟨d4, e4, i4⟩ := i3.sort_is (nin := [105, 110]) (out := [111, 117, 116]) (temp := [116]) (b := 1) (fan := 2) (how := 0) (by rw [fget_fput, if_neg (by decide), fget_fput, if_pos rfl]) (by rw [fget_fput, if_pos rfl]) (by decide) (by decide) (by decide) (by decide)
  obtain ⟨d5, ns, e5, i5, hn⟩ := i4.list
  have c2 := two_len (n := [105, 110]) (m := [111, 117, 116]) (f := ⟨FB [(3, 0), (1, 0), (2, 0)], FB [(3, 0), (1, 0), (2, 0)]⟩) (g := ⟨FB [(1, 0), (2, 0), (3, 0)], FB [(1, 0), (2, 0), (3, 0)]⟩) (by decide)
  exact ⟨d1, d2, d3, d4, d5, ns, e1, e2, e3, e4, sort_arg0 (.inl (by decide)), e5, by rw [hn, c2], passes_10, by rw [i1.cnt, one_len]; decide, by rw [i2.cnt, c2]; decide, by rw [i3.cnt, c2]; decide, by rw [i4.cnt, c2]; decide⟩
section
variable {l : List R} (hl : l.length ≤ 120) (hb : Bd l)
include hl hb
omit hb in
theorem in_plan : ∃ d1, Rn.write ([105, 110]) l (fresh 10000) = (d1, 0) ∧ Is d1 10000 (Dk.fput [] nIn ⟨FB l, FB l⟩) := by
  have i0 : Is (fresh 10000) 10000 [] := Is.fresh (k := 10000) rfl (by decide)
  have := few_used hl
  exact i0.write (n := nIn) (by decide) rfl (by simp [used]; omega)
theorem same_plan {b1 f1 b2 f2 how : Int} (h1 : 1 ≤ b1 ∧ 2 ≤ f1) (h2 : 1 ≤ b2 ∧ 2 ≤ f2) (hh : 0 ≤ how ∧ how ≤ 2) : ∃ d1 d2 d3 d4 d5 d6 d7, Rn.write ([105, 110]) l (fresh 10000) = (d1, 0) ∧
    sortD ([105, 110]) ([97]) ([116]) b1 f1 how d1 = (d2, passes ((l.length : Nat) : Int) b1 f1, 0) ∧ sortD ([105, 110]) ([98]) ([116]) b2 f2 how d2 = (d3, passes ((l.length : Nat) : Int) b2 f2, 0) ∧ sortD ([97]) ([99]) ([116]) 1000 2 how d3 = (d4, 0, 0) ∧
    Rn.read ([97]) d4 = (d5, fold how (sort l), 0) ∧ Rn.read ([98]) d5 = (d6, fold how (sort l), 0) ∧ Rn.read ([99]) d6 = (d7, fold how (sort l), 0) ∧ d1.files.length ≤ 9 ∧ d2.files.length ≤ 9 ∧ d3.files.length ≤ 9 ∧ d4.files.length ≤ 9 ∧ d5.files.length ≤ 9 ∧ d6.files.length ≤ 9 := by
  obtain ⟨d1, e1, i1⟩ := in_plan hl
  have hu := few_used hl
  have hF : (fold how (sort l)).length ≤ 120 := by have := sorted_few (how := how) (l := l); omega
  have hFu := few_used hF
  have hFb := sorted_bd (how := how) hb
  have hfx := (Row.of (how := how) hb).fx
  generalize hFe : fold how (sort l) = F at *
  obtain ⟨d2, e2, i2⟩ := i1.sorts (nin := nIn) (out := [97]) (temp := [116]) (b := b1) (fan := f1) (how := how) (no_tn (one_names _ _) (by decide) _) (by decide) (by rw [fget_fput, if_neg (by decide)]; rfl) (by decide) (by decide) (by rw [fget_fput, if_pos rfl]) hb (by omega) (by omega) (by omega) (by omega) (by rw [one_used]; omega)
  rw [hFe] at i2
  have u2 : used (Dk.fput (Dk.fput [] nIn ⟨FB l, FB l⟩) [97] ⟨FB F, FB F⟩) = secN l.length + secN F.length := by rw [used_fput_new (by rw [fget_fput, if_neg (by decide)]; rfl), one_used, sec_FBn]
  obtain ⟨d3, e3, i3⟩ := i2.sorts (nin := nIn) (out := [98]) (temp := [116]) (b := b2) (fan := f2) (how := how) (no_tn ((one_names _ _).put _ _) (by decide) _) (by decide) (by rw [fget_fput, if_neg (by decide), fget_fput, if_neg (by decide)]; rfl) (by decide) (by decide) (by rw [fget_fput, if_neg (by decide), fget_fput, if_pos rfl]) hb (by omega) (by omega) (by omega) (by omega) (by rw [u2]; omega)
  rw [hFe] at i3
  have u3 : used (Dk.fput (Dk.fput (Dk.fput [] nIn ⟨FB l, FB l⟩) [97] ⟨FB F, FB F⟩) [98] ⟨FB F, FB F⟩) = secN l.length + secN F.length + secN F.length := by rw [used_fput_new (by rw [fget_fput, if_neg (by decide), fget_fput, if_neg (by decide)]; rfl), u2, sec_FBn]
  obtain ⟨d4, e4, i4⟩ := i3.sorts (nin := [97]) (out := [99]) (temp := [116]) (b := 1000) (fan := 2) (how := how) (l := F) (no_tn (((one_names _ _).put _ _).put _ _) (by decide) _) (by decide) (by rw [fget_fput, if_neg (by decide), fget_fput, if_neg (by decide), fget_fput, if_neg (by decide)]; rfl) (by decide) (by decide) (by rw [fget_fput, if_neg (by decide), fget_fput, if_pos rfl]) hFb (by omega) (by omega) (by omega) (by omega) (by rw [u3]; omega)
  rw [hfx] at i4
  rw [passes_one (by omega)] at e4
  obtain ⟨d5, e5, i5⟩ := i4.read (n := [97]) (by rw [fget_fput, if_neg (by decide), fget_fput, if_neg (by decide), fget_fput, if_pos rfl]) hFb
  obtain ⟨d6, e6, i6⟩ := i5.read (n := [98]) (by rw [fget_fput, if_neg (by decide), fget_fput, if_pos rfl]) hFb
  obtain ⟨d7, e7, i7⟩ := i6.read (n := [99]) (by rw [fget_fput, if_pos rfl]) hFb
  have c1 := i1.cnt; have c2 := i2.cnt; have c3 := i3.cnt; have c4 := i4.cnt; have c5 := i5.cnt; have c6 := i6.cnt
  have k1 : (Dk.fput [] nIn ⟨FB l, FB l⟩).length = 1 := one_len
  have k2 := len_fput (Dk.fput [] nIn ⟨FB l, FB l⟩) [97] ⟨FB F, FB F⟩
  have k3 := len_fput (Dk.fput (Dk.fput [] nIn ⟨FB l, FB l⟩) [97] ⟨FB F, FB F⟩) [98] ⟨FB F, FB F⟩
  have k4 := len_fput (Dk.fput (Dk.fput (Dk.fput [] nIn ⟨FB l, FB l⟩) [97] ⟨FB F, FB F⟩) [98] ⟨FB F, FB F⟩) [99] ⟨FB F, FB F⟩
  exact ⟨d1, d2, d3, d4, d5, d6, d7, e1, e2, e3, e4, e5, e6, e7, by omega, by omega, by omega, by omega, by omega, by omega⟩
end
end Go.Cg.Xs
