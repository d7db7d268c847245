/- Plans of the sort's laws: what each call tells. No condition. -/
import Derived.Test.YtgfdmhjjlajmgaaGreatDoorKUXa
namespace Go.Cg.Xs
set_option linter.unusedVariables false
set_option linter.unusedSimpArgs false
open Go.Cg.Dk Go.Cg.Oc Go.Cg.Sn Go.Cg.Cl
open Go.Cg.Rn hiding HeapOk MInv NextP UpEx DnEx lst

/-- a disk that is up, how much room, and the files -/
structure Is (d : Disk) (r : Nat) (fs : Fs) : Prop where
  q : Q d
  rm : d.room = r
  fl : d.files = fs
theorem Is.fresh {r : Int} {k : Nat} (h : r = (k : Int)) (hk : k ≤ 1099511627776) : Is (fresh r) k [] := ⟨⟨fresh_ok (by omega), rfl, rfl⟩, by subst h; rfl, rfl⟩
theorem fput_len {fs : Fs} {n : Nm} {f : Fl} (h : fget fs n = none) : (Dk.fput fs n f).length = fs.length + 1 := by
  unfold Dk.fput; rw [(perm_fins n f _).length_eq, fdel_none h]; rfl
def Names (fs : Fs) (ns : List Nm) : Prop := ∀ m, fget fs m ≠ none → m ∈ ns
theorem Names.nil : Names [] [] := fun m h => absurd rfl h
theorem Names.put {fs : Fs} {ns : List Nm} (h : Names fs ns) (n : Nm) (f : Fl) : Names (Dk.fput fs n f) (n :: ns) := fun m hm => by
  rw [fget_fput] at hm
  by_cases e : m = n
  · rw [e]; exact List.mem_cons_self
  · rw [if_neg e] at hm; exact List.mem_cons_of_mem _ (h m hm)
theorem tname_ne {temp n : Nm} {k : Nat} (h : (46 : UInt8) ∉ n) : tname temp k ≠ n := fun e => h (e ▸ by unfold tname; simp)
theorem tmp_of {d : Disk} (hok : d.Ok) {temp out : Nm} (hno : ∀ k, fget d.files (tname temp k) = none) (hd : (46 : UInt8) ∉ out) (ou : fget d.files out = none) (mo : may out = true) (ht : temp.length ≤ 15) : Tmp d.files temp out 99999999 :=
  ⟨fun k hk => tname_may ht (by omega), hno, fun k => tname_ne hd, hok.ris, ou, mo, fun m f hf => hok.syn _ (mem_of_fget hf)⟩
section
variable {d : Disk} {r : Nat} {fs : Fs} (h : Is d r fs)
include h
theorem Is.put (o : Int) {n : Nm} {f : Fl} (hm : may n = true) (hs : f.syn.length ≤ f.now.length) (hu : used (Dk.fput fs n f) ≤ r) : Is (dk d o 0 (Dk.fput fs n f)) r (Dk.fput fs n f) := by
  obtain ⟨hq, hr, hf⟩ := h
  subst hf
  have hx := hq.ok.put (n := n) (f := f) hs (by rw [used_fput] at hu; omega) (may_len (by rw [hm]; simp))
  exact ⟨⟨⟨hx.ris, hx.syn, hx.fit, hx.room, Nat.zero_le _, hx.nam⟩, hq.up, rfl⟩, hr, rfl⟩
theorem Is.same (o : Int) : Is (dk d o 0 fs) r fs := by
  obtain ⟨hq, hr, hf⟩ := h
  subst hf
  exact ⟨hq.same o, hr, rfl⟩
theorem Is.self : d = dk d d.ops 0 fs := by
  obtain ⟨hq, hr, hf⟩ := h
  subst hf
  exact hq.self
theorem Is.write {n : Nm} (hm : may n = true) (hn : fget fs n = none) {l : List R} (hr : used fs + secN l.length ≤ r) : ∃ d', Rn.write n l d = (d', 0) ∧ Is d' r (Dk.fput fs n ⟨FB l, FB l⟩) := by
  have hs := sec_FBn l
  have hris : rising fs := h.fl ▸ h.q.ok.ris
  have hw := write_all h.q.up d.ops 0 hris hm hn l
  rw [← h.self] at hw
  rcases hw with ⟨h1, _⟩ | ⟨o', a', f', h1, h2, h3, h4, h5, h6, h7⟩ | ⟨o', a', f', h1, h2, h3, h4, h5, h6⟩
  · omega
  · have := h.rm; omega
  · have e : f' = Dk.fput fs n ⟨FB l, FB l⟩ := files_ext h3 (rising_fput hris _ _) fun m => by rw [h4, fget_fput]
    subst e
    rw [h2 rfl] at h1
    exact ⟨_, h1, h.put o' hm (Nat.le_refl _) (by omega)⟩
theorem Is.read {n : Nm} {l : List R} {s : By} (hf : fget fs n = some ⟨FB l, s⟩) (hb : Bd l) : ∃ d', Rn.read n d = (d', l, 0) ∧ Is d' r fs := by
  have hr := read_all h.q.up d.ops 0 hf rfl hb
  rw [← h.self] at hr
  rcases hr with ⟨h1, _⟩ | ⟨o', a', h1, h2⟩
  · omega
  · rw [h2 rfl] at h1; exact ⟨_, h1, h.same o'⟩
theorem Is.list : ∃ d' ns, d.list = (d', ns, 0) ∧ Is d' r fs ∧ ns.length = fs.length := by
  obtain ⟨o, e⟩ := list_q h.q
  refine ⟨_, _, e, ?_, ?_⟩
  · rw [h.fl]; exact h.same o
  · rw [h.fl]; simp
theorem Is.sort_ne {nin out temp : Nm} {b fan how : Int} {f : Fl} {l : List R} {e : Nat} (hno : ∀ k, fget fs (tname temp k) = none) (hd : (46 : UInt8) ∉ out) (ou : fget fs out = none) (mo : may out = true) (ht : temp.length ≤ 15) (hf : fget fs nin = some f) (hl : Rds f.now (0, [], false) l e) (hb : Bd l) (hK : l.length ≤ 1000000)
    (hb1 : 1 ≤ b) (hfan : 2 ≤ fan) (hh : 0 ≤ how ∧ how ≤ 2) :
    (∃ d' E, sortD nin out temp b fan how d = (d', 0, E) ∧ Is d' r fs ∧ Bad d fs l.length e E) ∨ (e = 0 ∧ ∃ d', sortD nin out temp b fan how d = (d', passes l.length b fan, 0) ∧ d'.files = Dk.fput fs out ⟨FB (fold how (sort l)), FB (fold how (sort l))⟩ ∧ (used fs + secN (fold how (sort l)).length ≤ r ∨ d'.Ok → Is d' r (Dk.fput fs out ⟨FB (fold how (sort l)), FB (fold how (sort l))⟩))) := by
  have hT : Tmp fs temp out 99999999 := by
    have := tmp_of (d := d) h.q.ok (temp := temp) (out := out) (by rw [h.fl]; exact hno) hd (by rw [h.fl]; exact ou) mo ht
    rwa [h.fl] at this
  have hs := sort_go h.q.up hT (how := how) e hf hl hb (by omega) hb1 hfan hh d.ops 0
  rw [← h.self] at hs
  rcases hs with ⟨⟨h1, _⟩, _⟩ | ⟨h1, _⟩ | ⟨o', a', h1, h2, h3, h4⟩ | ⟨he, o', a', h1, h2⟩
  · omega
  · omega
  · refine .inl ⟨dk d o' 0 fs, (sortD nin out temp b fan how d).2.2, ?_, h.same o', h4⟩
    exact Prod.ext (by rw [h1, h2 rfl]) (Prod.ext h3 rfl)
  · rw [h2 rfl] at h1
    refine .inr ⟨he, _, h1, rfl, fun hu => ?_⟩
    rcases hu with hu | hu
    · refine h.put o' mo (Nat.le_refl _) ?_
      rw [used_fput_new ou]; rw [sec_FBn]; exact hu
    · exact ⟨⟨hu, h.q.up, rfl⟩, h.rm, rfl⟩
theorem Is.sorts {nin out temp : Nm} {b fan how : Int} {s : By} {l : List R} (hno : ∀ k, fget fs (tname temp k) = none) (hd : (46 : UInt8) ∉ out) (ou : fget fs out = none) (mo : may out = true) (ht : temp.length ≤ 15) (hf : fget fs nin = some ⟨FB l, s⟩) (hb : Bd l) (hK : l.length ≤ 1000000)
    (hb1 : 1 ≤ b) (hfan : 2 ≤ fan) (hh : 0 ≤ how ∧ how ≤ 2) (hr : used fs + 4 * l.length ≤ r) : ∃ d', sortD nin out temp b fan how d = (d', passes l.length b fan, 0) ∧ Is d' r (Dk.fput fs out ⟨FB (fold how (sort l)), FB (fold how (sort l))⟩) := by
  have hle := secN_le (fold how (sort l)).length
  have hfl := fold_len how (sort l)
  rw [len_sort] at hfl
  rcases h.sort_ne hno hd ou mo ht hf (rds_FB hb) hb hK hb1 hfan hh with ⟨d', E, _, _, hB⟩ | ⟨_, d', h1, _, h2⟩
  · have := h.rm
    rcases hB with ⟨_, hB⟩ | ⟨_, hB⟩ <;> omega
  · exact ⟨d', h1, h2 (.inl (by omega))⟩
theorem Is.sort_is {nin out temp : Nm} {b fan how : Int} {f g : Fl} (hf : fget fs nin = some f) (hg : fget fs out = some g) (mo : may out = true) (hb1 : 1 ≤ b) (hfan : 2 ≤ fan) (hh : 0 ≤ how ∧ how ≤ 2) : ∃ d', sortD nin out temp b fan how d = (d', 0, 5) ∧ Is d' r fs := by
  refine ⟨dk d (nx (nx d.ops)) 0 fs, ?_, h.same _⟩
  conv => lhs; rw [h.self]
  rw [sortD, if_neg (by omega), size_up h.q.up _ _ _ (by decide) hf, if_neg (by simp)]
  simp only
  have e : (dk d (nx d.ops) (0 - 1) fs).create out = (dk d (nx (nx d.ops)) 0 fs, 5) := by
    unfold Disk.create; simp only; rw [mk_begin h.q.up _ _ _ (by decide), if_neg (by rw [mk_down h.q.up]; decide), if_neg (by rw [mo]; decide), if_pos (by show (fget fs out).isSome = true; rw [hg]; rfl)]
  rw [e, if_pos (by simp)]
theorem Is.sort_none {nin out temp : Nm} {b fan how : Int} (hf : fget fs nin = none) (hb1 : 1 ≤ b) (hfan : 2 ≤ fan) (hh : 0 ≤ how ∧ how ≤ 2) : ∃ d', sortD nin out temp b fan how d = (d', 0, 4) ∧ Is d' r fs := by
  refine ⟨dk d (nx d.ops) 0 fs, ?_, h.same _⟩
  conv => lhs; rw [h.self]
  rw [sortD, if_neg (by omega), size_none h.q.up _ _ _ (by decide) hf, if_pos (by simp)]
theorem Is.cnt : d.files.length = fs.length := by rw [h.fl]
end
theorem no_tn {fs : Fs} {ns : List Nm} (h : Names fs ns) (hd : ∀ n ∈ ns, (46 : UInt8) ∉ n) (temp : Nm) (k : Nat) : fget fs (tname temp k) = none := by
  cases hx : fget fs (tname temp k) with
  | none => rfl
  | some f => exact absurd rfl (tname_ne (temp := temp) (k := k) (hd _ (h _ (by rw [hx]; simp))))
theorem sort_arg0 {nin out temp : Nm} {b fan how : Int} {d : Disk} (h : b < 1 ∨ fan < 2 ∨ how < 0 ∨ 2 < how) : sortD nin out temp b fan how d = (d, 0, 1) := if_pos h
theorem one_len {n : Nm} {f : Fl} : (Dk.fput [] n f).length = 1 := fput_len rfl
theorem two_len {n m : Nm} {f g : Fl} (h : m ≠ n) : (Dk.fput (Dk.fput [] n f) m g).length = 2 := by rw [fput_len (by rw [fget_fput, if_neg h]; rfl), one_len]
theorem one_used {n : Nm} {l : List R} : used (Dk.fput [] n ⟨FB l, FB l⟩) = secN l.length := by rw [used_fput_new rfl, ← sec_FBn]; simp [used]
theorem one_names (n : Nm) (f : Fl) : Names (Dk.fput [] n f) [n] := Names.nil.put n f
theorem few_used {l : List R} (h : l.length ≤ 120) : secN l.length ≤ 240 := by have := secN_le l.length; omega
theorem sorted_few {how : Int} {l : List R} : (fold how (sort l)).length ≤ l.length := by have := fold_len how (sort l); rwa [len_sort] at this
theorem sorted_bd {how : Int} {l : List R} (h : Bd l) : Bd (fold how (sort l)) := fold_bd how _ h.sort
abbrev nIn : Nm := [105, 110]
abbrev nOut : Nm := [111, 117, 116]
abbrev nTemp : Nm := [116, 101, 109, 112]
theorem passes_10 : passes 10 2 2 = 3 := by
  unfold passes; rw [if_neg (by decide)]
  simp only [show (2 : Int).toNat = 2 from rfl, show ((10 - 1) / 2 + 1 : Int).toNat = 5 from rfl]
  rw [pgo, dif_pos (by decide), pgo, dif_pos (by decide), pgo, dif_pos (by decide), pgo, dif_neg (by decide)]
theorem passes_3 : passes 3 1 2 = 2 := by
  unfold passes; rw [if_neg (by decide)]
  simp only [show (2 : Int).toNat = 2 from rfl, show ((3 - 1) / 1 + 1 : Int).toNat = 3 from rfl]
  rw [pgo, dif_pos (by decide), pgo, dif_pos (by decide), pgo, dif_neg (by decide)]
theorem shown_plan : ∃ d1 d2 d3 d4 d5 ns, Rn.write ([105, 110]) [(3, 0), (1, 0), (2, 0)] (fresh 1000) = (d1, 0) ∧ sortD ([105, 110]) ([111, 117, 116]) ([116]) 1 2 0 d1 = (d2, 2, 0) ∧ Rn.read ([111, 117, 116]) d2 = (d3, [(1, 0), (2, 0), (3, 0)], 0) ∧
    sortD ([105, 110]) ([111, 117, 116]) ([116]) 1 2 0 d3 = (d4, 0, 5) ∧ sortD ([105, 110]) ([120]) ([116]) 0 2 0 d4 = (d4, 0, 1) ∧ d4.list = (d5, ns, 0) ∧ ns.length = 2 ∧ passes 10 2 2 = 3 ∧ d1.files.length ≤ 9 ∧ d2.files.length ≤ 9 ∧ d3.files.length ≤ 9 ∧ d4.files.length ≤ 9 := by
  have b1 : Bd [(3, 0), (1, 0), (2, 0)] := by intro z hz; simp at hz; rcases hz with rfl | rfl | rfl <;> decide
  have i0 : Is (fresh 1000) 1000 [] := Is.fresh (k := 1000) rfl (by decide)
  obtain ⟨d1, e1, i1⟩ := i0.write (n := [105, 110]) (by decide) rfl (l := [(3, 0), (1, 0), (2, 0)]) (by decide)
  obtain ⟨d2, e2, i2⟩ := i1.sorts (nin := [105, 110]) (out := [111, 117, 116]) (temp := [116]) (b := 1) (fan := 2) (how := 0) (no_tn (one_names _ _) (by decide) _) (by decide) (by rw [fget_fput, if_neg (by decide)]; rfl) (by decide) (by decide) (by rw [fget_fput, if_pos rfl]) b1 (by decide) (by decide) (by decide) (by decide) (by rw [one_used]; decide)
  have hF : fold 0 (sort [(3, 0), (1, 0), (2, 0)]) = [(1, 0), (2, 0), (3, 0)] := by rw [fold_zero]; decide
  rw [hF] at i2
  rw [show (passes (([(3, 0), (1, 0), (2, 0)] : List R).length : Nat) 1 2) = 2 from passes_3] at e2
  have b2 : Bd [(1, 0), (2, 0), (3, 0)] := by intro z hz; simp at hz; rcases hz with rfl | rfl | rfl <;> decide
  obtain ⟨d3, e3, i3⟩ := i2.read (n := [111, 117, 116]) (by rw [fget_fput, if_pos rfl]) b2
  obtain ⟨d4, e4, i4⟩ := i3.sort_is (nin := [105, 110]) (out := [111, 117, 116]) (temp := [116]) (b := 1) (fan := 2) (how := 0) (by rw [fget_fput, if_neg (by decide), fget_fput, if_pos rfl]) (by rw [fget_fput, if_pos rfl]) (by decide) (by decide) (by decide) (by decide)
  obtain ⟨d5, ns, e5, i5, hn⟩ := i4.list
  have c2 := two_len (n := [105, 110]) (m := [111, 117, 116]) (f := ⟨FB [(3, 0), (1, 0), (2, 0)], FB [(3, 0), (1, 0), (2, 0)]⟩) (g := ⟨FB [(1, 0), (2, 0), (3, 0)], FB [(1, 0), (2, 0), (3, 0)]⟩) (by decide)
  exact ⟨d1, d2, d3, d4, d5, ns, e1, e2, e3, e4, sort_arg0 (.inl (by decide)), e5, by rw [hn, c2], passes_10, by rw [i1.cnt, one_len]; decide, by rw [i2.cnt, c2]; decide, by rw [i3.cnt, c2]; decide, by rw [i4.cnt, c2]; decide⟩
section
variable {l : List R} (hl : l.length ≤ 120) (hb : Bd l)
include hl hb
omit hb in
theorem in_plan : ∃ d1, Rn.write ([105, 110]) l (fresh 10000) = (d1, 0) ∧ Is d1 10000 (Dk.fput [] nIn ⟨FB l, FB l⟩) := by
  have i0 : Is (fresh 10000) 10000 [] := Is.fresh (k := 10000) rfl (by decide)
  have := few_used hl
  exact i0.write (n := nIn) (by decide) rfl (by simp [used]; omega)
theorem tells_plan (b f how : Int) : ∃ d1, Rn.write ([105, 110]) l (fresh 10000) = (d1, 0) ∧ d1.files.length ≤ 9 ∧
    (((b < 1 ∨ f < 2 ∨ how < 0 ∨ 2 < how) ∧ ∃ d2 ns, sortD ([105, 110]) ([111, 117, 116]) ([116, 101, 109, 112]) b f how d1 = (d1, 0, 1) ∧ d1.list = (d2, ns, 0) ∧ ns.length = 1) ∨
    (¬ (b < 1 ∨ f < 2 ∨ how < 0 ∨ 2 < how) ∧ ∃ d2 d3 d4 d5 ns, sortD ([105, 110]) ([111, 117, 116]) ([116, 101, 109, 112]) b f how d1 = (d2, passes ((l.length : Nat) : Int) b f, 0) ∧ d2.list = (d3, ns, 0) ∧ Rn.read ([111, 117, 116]) d3 = (d4, fold how (sort l), 0) ∧ Rn.read ([105, 110]) d4 = (d5, l, 0) ∧ ns.length = 2 ∧ d2.files.length ≤ 9 ∧ d3.files.length ≤ 9 ∧ d4.files.length ≤ 9)) := by
  obtain ⟨d1, e1, i1⟩ := in_plan hl
  have hu := few_used hl
  refine ⟨d1, e1, by rw [i1.cnt, one_len]; decide, ?_⟩
  by_cases h : b < 1 ∨ f < 2 ∨ how < 0 ∨ 2 < how
  · obtain ⟨d2, ns, e2, _, hn⟩ := i1.list
    exact .inl ⟨h, d2, ns, sort_arg0 h, e2, by rw [hn, one_len]⟩
  · obtain ⟨d2, e2, i2⟩ := i1.sorts (nin := nIn) (out := nOut) (temp := nTemp) (b := b) (fan := f) (how := how) (no_tn (one_names _ _) (by decide) _) (by decide) (by rw [fget_fput, if_neg (by decide)]; rfl) (by decide) (by decide) (by rw [fget_fput, if_pos rfl]) hb (by omega) (by omega) (by omega) (by omega) (by rw [one_used]; omega)
    have c2 := two_len (n := nIn) (m := nOut) (f := ⟨FB l, FB l⟩) (g := ⟨FB (fold how (sort l)), FB (fold how (sort l))⟩) (by decide)
    obtain ⟨d3, ns, e3, i3, hn⟩ := i2.list
    obtain ⟨d4, e4, i4⟩ := i3.read (n := nOut) (by rw [fget_fput, if_pos rfl]) (sorted_bd hb)
    obtain ⟨d5, e5, i5⟩ := i4.read (n := nIn) (by rw [fget_fput, if_neg (by decide), fget_fput, if_pos rfl]) hb
    exact .inr ⟨h, d2, d3, d4, d5, ns, e2, e3, e4, e5, by rw [hn, c2], by rw [i2.cnt, c2]; decide, by rw [i3.cnt, c2]; decide, by rw [i4.cnt, c2]; decide⟩
theorem out_plan {k : List R} (hk : k.length ≤ 120) (hbk : Bd k) : ∃ d1 d2 d3 d4 d5 d6 d7 d8 ns, Rn.write ([105, 110]) l (fresh 10000) = (d1, 0) ∧ Rn.write ([111, 117, 116]) k d1 = (d2, 0) ∧
    sortD ([105, 110]) ([111, 117, 116]) ([116, 101, 109, 112]) 5 3 0 d2 = (d3, 0, 5) ∧ sortD ([105, 110]) ([105, 110]) ([116, 101, 109, 112]) 5 3 0 d3 = (d4, 0, 5) ∧ sortD ([110, 111, 110, 101]) ([110, 101, 119]) ([116, 101, 109, 112]) 5 3 0 d4 = (d5, 0, 4) ∧
    Rn.read ([105, 110]) d5 = (d6, l, 0) ∧ Rn.read ([111, 117, 116]) d6 = (d7, k, 0) ∧ d7.list = (d8, ns, 0) ∧ ns.length = 2 ∧ d1.files.length ≤ 9 ∧ d2.files.length ≤ 9 ∧ d3.files.length ≤ 9 ∧ d4.files.length ≤ 9 ∧ d5.files.length ≤ 9 ∧ d6.files.length ≤ 9 ∧ d7.files.length ≤ 9 := by
  obtain ⟨d1, e1, i1⟩ := in_plan hl
  have hu := few_used hl
  have hku := few_used hk
  obtain ⟨d2, e2, i2⟩ := i1.write (n := nOut) (by decide) (by rw [fget_fput, if_neg (by decide)]; rfl) (l := k) (by rw [one_used]; omega)
  have gi : fget (Dk.fput (Dk.fput [] nIn ⟨FB l, FB l⟩) nOut ⟨FB k, FB k⟩) nIn = some ⟨FB l, FB l⟩ := by rw [fget_fput, if_neg (by decide), fget_fput, if_pos rfl]
  have go : fget (Dk.fput (Dk.fput [] nIn ⟨FB l, FB l⟩) nOut ⟨FB k, FB k⟩) nOut = some ⟨FB k, FB k⟩ := by rw [fget_fput, if_pos rfl]
  obtain ⟨d3, e3, i3⟩ := i2.sort_is (nin := nIn) (out := nOut) (temp := nTemp) (b := 5) (fan := 3) (how := 0) gi go (by decide) (by decide) (by decide) (by decide)
  obtain ⟨d4, e4, i4⟩ := i3.sort_is (nin := nIn) (out := nIn) (temp := nTemp) (b := 5) (fan := 3) (how := 0) gi gi (by decide) (by decide) (by decide) (by decide)
  obtain ⟨d5, e5, i5⟩ := i4.sort_none (nin := [110, 111, 110, 101]) (out := [110, 101, 119]) (temp := nTemp) (b := 5) (fan := 3) (how := 0) (by rw [fget_fput, if_neg (by decide), fget_fput, if_neg (by decide)]; rfl) (by decide) (by decide) (by decide)
  obtain ⟨d6, e6, i6⟩ := i5.read gi hb
  obtain ⟨d7, e7, i7⟩ := i6.read go hbk
  obtain ⟨d8, ns, e8, i8, hn⟩ := i7.list
  have c2 := two_len (n := nIn) (m := nOut) (f := ⟨FB l, FB l⟩) (g := ⟨FB k, FB k⟩) (by decide)
  have k1 : (Dk.fput [] nIn ⟨FB l, FB l⟩).length = 1 := one_len
  have j1 := i1.cnt; have j2 := i2.cnt; have j3 := i3.cnt; have j4 := i4.cnt; have j5 := i5.cnt; have j6 := i6.cnt; have j7 := i7.cnt
  exact ⟨d1, d2, d3, d4, d5, d6, d7, d8, ns, e1, e2, e3, e4, e5, e6, e7, e8, by rw [hn, c2], by omega, by omega, by omega, by omega, by omega, by omega, by omega⟩
theorem space_plan (ro : Nat) (hro : ro ≤ 300) {b : Int} (hb1 : 1 ≤ b) : ∃ dB U, Rn.write ([105, 110]) l (fresh 10000) = (dB, 0) ∧ dB.used = U ∧ U ≤ 240 ∧ dB.files.length ≤ 9 ∧ ∃ d1 d2 p e, Rn.write ([105, 110]) l (fresh ((U + ro : Nat) : Int)) = (d1, 0) ∧ sortD ([105, 110]) ([111, 117, 116]) ([116, 101, 109, 112]) b 3 0 d1 = (d2, p, e) ∧
    d1.files.length ≤ 9 ∧ d2.files.length ≤ 9 ∧ (d2.Ok → ∃ d3 d4 ns, d2.list = (d3, ns, 0) ∧ Rn.read ([105, 110]) d3 = (d4, l, 0) ∧ d3.files.length ≤ 9 ∧ d4.files.length ≤ 9 ∧ ((e = 6 ∧ ns.length = 1 ∧ ro < 8 * l.length) ∨ (e = 0 ∧ ns.length = 2 ∧ ∃ d5, Rn.read ([111, 117, 116]) d4 = (d5, fold 0 (sort l), 0)))) := by
  obtain ⟨dB, eB, iB⟩ := in_plan hl
  have hu := few_used hl
  have k1 : (Dk.fput [] nIn ⟨FB l, FB l⟩).length = 1 := one_len
  have jB := iB.cnt
  refine ⟨dB, secN l.length, eB, by show used dB.files = _; rw [iB.fl, one_used], hu, by omega, ?_⟩
  have i0 : Is (fresh ((secN l.length + ro : Nat) : Int)) (secN l.length + ro) [] := Is.fresh rfl (by omega)
  obtain ⟨d1, e1, i1⟩ := i0.write (n := nIn) (by decide) rfl (l := l) (by simp [used])
  have j1 := i1.cnt
  have gi : fget (Dk.fput [] nIn ⟨FB l, FB l⟩) nIn = some ⟨FB l, FB l⟩ := by rw [fget_fput, if_pos rfl]
  rcases i1.sort_ne (nin := nIn) (out := nOut) (temp := nTemp) (b := b) (fan := 3) (how := 0) (no_tn (one_names _ _) (by decide) _) (by decide) (by rw [fget_fput, if_neg (by decide)]; rfl) (by decide) (by decide) gi (rds_FB hb) hb (by omega) hb1 (by decide) (by decide) with ⟨d2, E, e2, i2, hB⟩ | ⟨_, d2, e2, f2, i2⟩
  · rcases hB with ⟨_, hB⟩ | ⟨rfl, hB⟩
    · exact absurd rfl hB
    obtain ⟨d3, ns, e3, i3, hn⟩ := i2.list
    obtain ⟨d4, e4, i4⟩ := i3.read gi hb
    have j2 := i2.cnt; have j3 := i3.cnt; have j4 := i4.cnt
    rw [i1.rm, one_used] at hB
    exact ⟨d1, d2, 0, 6, e1, e2, by omega, by omega, fun _ => ⟨d3, d4, ns, e3, e4, by omega, by omega, .inl ⟨rfl, by omega, by omega⟩⟩⟩
  · have c2 := two_len (n := nIn) (m := nOut) (f := ⟨FB l, FB l⟩) (g := ⟨FB (fold 0 (sort l)), FB (fold 0 (sort l))⟩) (by decide)
    refine ⟨d1, d2, _, 0, e1, e2, by omega, by rw [f2, c2]; decide, fun hok => ?_⟩
    have i2 := i2 (.inr hok)
    obtain ⟨d3, ns, e3, i3, hn⟩ := i2.list
    obtain ⟨d4, e4, i4⟩ := i3.read (n := nIn) (by rw [fget_fput, if_neg (by decide), fget_fput, if_pos rfl]) hb
    obtain ⟨d5, e5, i5⟩ := i4.read (n := nOut) (by rw [fget_fput, if_pos rfl]) (sorted_bd hb)
    have j3 := i3.cnt; have j4 := i4.cnt
    exact ⟨d3, d4, ns, e3, e4, by omega, by omega, .inr ⟨rfl, by omega, d5, e5⟩⟩
omit hl hb in
theorem sort_cnt {nin out temp : Nm} {b fan how : Int} (d : Disk) : 16 * (sortD nin out temp b fan how d).1.files.length ≤ 16 * d.files.length + 3 * (d.size nin).2.1 + 32 := by
  have k1 := len_size d nin
  have k2 := len_create (d.size nin).1 out
  have k3 := len_remove ((d.size nin).1.create out).1 out
  unfold sortD
  split
  · simp only; omega
  split
  · simp only; omega
  simp only
  split
  · simp only; omega
  split
  · simp only; omega
  have k4 := all_cnt (nin := nin) (sz := (d.size nin).2.1) (out := out) (temp := temp) (how := how) (budget := b.toNat) (fan := fan.toNat) (by omega) (((d.size nin).1.create out).1.remove out).1
  split
  · have k5 := (gones_cnt ((all nin (d.size nin).2.1 out temp how b.toNat fan.toNat (((d.size nin).1.create out).1.remove out).1).2.1.2 ++ [out]) (all nin (d.size nin).2.1 out temp how b.toNat fan.toNat (((d.size nin).1.create out).1.remove out).1).2.1.2 (all nin (d.size nin).2.1 out temp how b.toNat fan.toNat (((d.size nin).1.create out).1.remove out).1).1).1
    simp only; omega
  · simp only; omega
/-- behind a crash, or none: it is sorted again -/
theorem again_plan {d : Disk} (hq : Q d) (hr : d.room = 10000) (hgi : fget d.files nIn = some ⟨FB l, FB l⟩) (hno : ∀ k, fget d.files (tname [109, 111, 114, 101] k) = none) (ho : fget d.files [97, 103, 97, 105, 110] = none) (hu : used d.files ≤ 1200) :
    ∃ d3 d4 d5 p, Rn.read ([105, 110]) d = (d3, l, 0) ∧ sortD ([105, 110]) ([97, 103, 97, 105, 110]) ([109, 111, 114, 101]) 7 3 1 d3 = (d4, p, 0) ∧ Rn.read ([97, 103, 97, 105, 110]) d4 = (d5, fold 1 (sort l), 0) ∧ d3.files.length = d.files.length ∧ d4.files.length ≤ d.files.length + 1 := by
  have i0 : Is d 10000 d.files := ⟨hq, hr, rfl⟩
  obtain ⟨d3, e3, i3⟩ := i0.read hgi hb
  obtain ⟨d4, e4, i4⟩ := i3.sorts (nin := nIn) (out := [97, 103, 97, 105, 110]) (temp := [109, 111, 114, 101]) (b := 7) (fan := 3) (how := 1) hno (by decide) ho (by decide) (by decide) hgi hb (by omega) (by decide) (by decide) (by decide) (by omega)
  obtain ⟨d5, e5, i5⟩ := i4.read (n := [97, 103, 97, 105, 110]) (by rw [fget_fput, if_pos rfl]) (sorted_bd hb)
  have := len_fput d.files [97, 103, 97, 105, 110] ⟨FB (fold 1 (sort l)), FB (fold 1 (sort l))⟩
  exact ⟨d3, d4, d5, _, e3, e4, e5, i3.cnt, by rw [i4.cnt]; exact this⟩
omit hl hb in
theorem tname_two {j k : Nat} : tname nTemp j ≠ tname [109, 111, 114, 101] k := fun e => by
  have := congrArg List.head? e
  simp [tname] at this
theorem down_plan (at_ : Nat) (keep : List Bool) : ∃ d1, Rn.write ([105, 110]) l (fresh 10000) = (d1, 0) ∧ d1.files.length ≤ 9 ∧ ∃ d2 p e, sortD ([105, 110]) ([111, 117, 116]) ([116, 101, 109, 112]) 7 3 1 (d1.arm ((at_ : Nat) : Int) keep) = (d2, p, e) ∧ d2.files.length ≤ 1000 ∧ ((e = 7 ∧ d2.down = true) ∨ (e = 0 ∧ d2.down = false)) ∧
    (d2.Ok → ∃ d3 d4 d5 p2, Rn.read ([105, 110]) (Disk.restart (Disk.arm 0 [] d2)) = (d3, l, 0) ∧ sortD ([105, 110]) ([97, 103, 97, 105, 110]) ([109, 111, 114, 101]) 7 3 1 d3 = (d4, p2, 0) ∧ Rn.read ([97, 103, 97, 105, 110]) d4 = (d5, fold 1 (sort l), 0) ∧ d3.files.length ≤ 1000 ∧ d4.files.length ≤ 1001) := by
  obtain ⟨d1, e1, i1⟩ := in_plan hl
  have hu := few_used hl
  have j1 := i1.cnt
  rw [one_len] at j1
  refine ⟨d1, e1, by omega, ?_⟩
  have gi : fget (Dk.fput [] nIn ⟨FB l, FB l⟩) nIn = some ⟨FB l, FB l⟩ := by rw [fget_fput, if_pos rfl]
  have gn : ∀ m, m ≠ nIn → fget (Dk.fput [] nIn ⟨FB l, FB l⟩) m = none := fun m hm => by rw [fget_fput, if_neg hm]; rfl
  obtain ⟨D, hD⟩ : ∃ D : Disk, D = { d1 with keep := keep } := ⟨_, rfl⟩
  have hDu : D.down = false := by rw [hD]; exact i1.q.up
  have hDr : D.room = 10000 := by rw [hD]; exact i1.rm
  have ha : d1.arm ((at_ : Nat) : Int) keep = dk D d1.ops at_ (Dk.fput [] nIn ⟨FB l, FB l⟩) := by rw [hD, ← i1.fl]; rfl
  have hcnt := sort_cnt (nin := [105, 110]) (out := [111, 117, 116]) (temp := [116, 101, 109, 112]) (b := 7) (fan := 3) (how := 1) (d1.arm ((at_ : Nat) : Int) keep)
  have hsz : ((d1.arm ((at_ : Nat) : Int) keep).size [105, 110]).2.1 ≤ 2200 := by
    have hlen : (FB l).length ≤ 2200 := by rw [FB_len]; split <;> omega
    rw [ha]
    by_cases a1 : at_ = 1
    · rw [a1, size_fall hDu]; exact Nat.zero_le _
    · rw [size_up hDu _ _ _ a1 gi]; exact hlen
  have hT : Tmp (Dk.fput [] nIn ⟨FB l, FB l⟩) nTemp nOut 99999999 := by
    have := tmp_of (d := d1) i1.q.ok (temp := nTemp) (out := nOut) (by rw [i1.fl]; exact no_tn (one_names _ _) (by decide) _) (by decide) (by rw [i1.fl]; exact gn _ (by decide)) (by decide) (by decide)
    rwa [i1.fl] at this
  have hs := sort_go hDu hT (how := 1) 0 gi (rds_FB hb) hb (by omega) (b := 7) (fan := 3) (by decide) (by decide) (by decide) d1.ops at_
  rw [← ha] at hs
  dsimp only [nIn, nOut, nTemp] at hs
  have hfl : (d1.arm ((at_ : Nat) : Int) keep).files.length = 1 := j1
  have hnB : ∀ E, ¬ Bad D (Dk.fput [] nIn ⟨FB l, FB l⟩) l.length 0 E := fun E hB => by
    rcases hB with ⟨_, hB⟩ | ⟨_, hB⟩
    · exact hB rfl
    · rw [hDr, one_used] at hB; omega
  rcases hs with ⟨⟨h1, o', f', h2, h3, h4⟩, h5⟩ | ⟨_, _, _, hB⟩ | ⟨_, _, _, _, _, hB⟩ | ⟨_, o', a', h1, h2⟩
  · rw [h2] at hcnt
    refine ⟨dn D o' (tornAll f' D.keep), 0, 7, Prod.ext h2 h5, by omega, .inl ⟨rfl, rfl⟩, fun hok => ?_⟩
    have hq : Q (Disk.restart (Disk.arm 0 [] (dn D o' (tornAll f' D.keep)))) := ⟨(hok.arm (by decide) []).restart, rfl, rfl⟩
    obtain ⟨d3, d4, d5, p2, q1, q2, q3, q4, q5⟩ := again_plan (d := Disk.restart (Disk.arm 0 [] (dn D o' (tornAll f' D.keep)))) hl hb hq hDr (torn_get D.keep (by rw [h4 _ (by decide) (fun k => (tname_ne (by decide)).symm)]; exact gi) rfl)
      (fun k => torn_none D.keep (by rw [h4 _ (tname_ne (by decide)) (fun j => tname_two.symm)]; exact gn _ (tname_ne (by decide)))) (torn_none D.keep (by rw [h4 _ (by decide) (fun k => (tname_ne (by decide)).symm)]; exact gn _ (by decide))) (by rw [one_used] at h3; show used (tornAll f' D.keep) ≤ 1200; omega)
    have q6 : (Disk.restart (Disk.arm 0 [] (dn D o' (tornAll f' D.keep)))).files.length = (dn D o' (tornAll f' D.keep)).files.length := rfl
    exact ⟨d3, d4, d5, p2, q1, q2, q3, by omega, by omega⟩
  · exact absurd hB (hnB _)
  · exact absurd hB (hnB _)
  · rw [h1] at hcnt
    refine ⟨_, _, 0, h1, by simp only at hcnt; omega, .inr ⟨rfl, hDu⟩, fun hok => ?_⟩
    have hq : Q (Disk.restart (Disk.arm 0 [] (dk D o' a' (Dk.fput (Dk.fput [] nIn ⟨FB l, FB l⟩) nOut ⟨FB (fold 1 (sort l)), FB (fold 1 (sort l))⟩)))) := ⟨(hok.arm (by decide) []).restart, rfl, rfl⟩
    have hF : (fold 1 (sort l)).length ≤ 120 := by have := sorted_few (how := 1) (l := l); omega
    have hFu := few_used hF
    obtain ⟨d3, d4, d5, p2, q1, q2, q3, q4, q5⟩ := again_plan (d := Disk.restart (Disk.arm 0 [] (dk D o' a' (Dk.fput (Dk.fput [] nIn ⟨FB l, FB l⟩) nOut ⟨FB (fold 1 (sort l)), FB (fold 1 (sort l))⟩)))) hl hb hq hDr (by show fget (Dk.fput _ _ _) _ = _; rw [fget_fput, if_neg (by decide)]; exact gi)
      (fun k => no_tn ((one_names _ _).put _ _) (by decide) _ k) (by show fget (Dk.fput _ _ _) _ = _; rw [fget_fput, if_neg (by decide)]; exact gn _ (by decide)) (by show used (Dk.fput _ _ _) ≤ _; rw [used_fput_new (gn _ (by decide)), one_used, sec_FBn]; omega)
    have q6 : (Disk.restart (Disk.arm 0 [] (dk D o' a' (Dk.fput (Dk.fput [] nIn ⟨FB l, FB l⟩) nOut ⟨FB (fold 1 (sort l)), FB (fold 1 (sort l))⟩)))).files.length = 2 := two_len (by decide)
    exact ⟨d3, d4, d5, p2, q1, q2, q3, by omega, by omega⟩
end
end Go.Cg.Xs
