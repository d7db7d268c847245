/- Plain laws of a mailbox over a disk. No condition. -/
import Derived.Test.YtembfpadojnpmaaGreatDoorBq
import Derived.Test.YtembfpadojnpmaaGreatDoorAg
namespace Go.Cg.Rn
set_option linter.unusedVariables false
set_option linter.unusedSimpArgs false
open Go.Cg.Dk Go.Cg.Oc Go.Cg.Cl

theorem itoa_nn (k : Nat) : Go.Lib.itoa (k : Int) = Go.Lib.decDigits k := by unfold Go.Lib.itoa; rw [if_neg (by omega)]; rfl
theorem digits_pos (u : Nat) : 0 < (Go.Lib.decDigits u).length := by
  unfold Go.Lib.decDigits; split <;> simp
theorem digits_inj : ∀ {u v : Nat}, Go.Lib.decDigits u = Go.Lib.decDigits v → u = v := by
  intro u
  induction u using Nat.strongRecOn with
  | ind u ih =>
    intro v h
    unfold Go.Lib.decDigits at h
    have c8 : ∀ {a b : Nat}, a < 10 → b < 10 → UInt8.ofNat (48 + a) = UInt8.ofNat (48 + b) → a = b := fun {a b} ha hb h => by
      have := congrArg UInt8.toNat h
      simp at this; omega
    by_cases h1 : u < 10 <;> by_cases h2 : v < 10
    · rw [dif_pos h1, dif_pos h2] at h
      exact c8 h1 h2 (by simpa using h)
    · rw [dif_pos h1, dif_neg h2] at h
      have h3 := congrArg List.length h
      have h4 := digits_pos (v / 10)
      rw [List.length_append, List.length_singleton, List.length_singleton] at h3; omega
    · rw [dif_neg h1, dif_pos h2] at h
      have h3 := congrArg List.length h
      have h4 := digits_pos (u / 10)
      rw [List.length_append, List.length_singleton, List.length_singleton] at h3; omega
    · rw [dif_neg h1, dif_neg h2] at h
      have h3 := List.append_inj' h rfl
      have h4 := ih (u / 10) (by omega) h3.1
      have h5 := c8 (by omega) (by omega) (List.singleton_inj.1 h3.2)
      omega
theorem digits_len : ∀ (k u : Nat), u < 10 ^ (k + 1) → (Go.Lib.decDigits u).length ≤ k + 1 := by
  intro k
  induction k with
  | zero =>
    intro u hu
    unfold Go.Lib.decDigits
    split
    · simp
    · exfalso; omega
  | succ k ih =>
    intro u hu
    unfold Go.Lib.decDigits
    split
    · simp
    · have := ih (u / 10) (by rw [Nat.pow_succ] at hu; omega)
      simp; omega
namespace Bx
set_option linter.unusedVariables false
set_option linter.unusedSimpArgs false
theorem file_inj {x : Bx} {i j : Nat} (h : x.file i = x.file j) : i = j := by
  unfold file at h
  have := List.append_cancel_left h
  rw [itoa_nn, itoa_nn] at this
  exact digits_inj this
theorem file_may {x : Bx} (hn : x.name.length ≤ 3) {i : Nat} (hi : i < 100000000) : may (x.file i) = true := by
  unfold may file
  have h1 := digits_len 7 i (by omega)
  rw [decide_eq_true_eq, itoa_nn]
  refine ⟨fun e => ?_, ?_⟩
  · have := congrArg List.length e; simp at this
  · simp; omega
/-- a box over files -/
structure On (fs : Fs) (x : Bx) (cs : List (List R)) : Prop where
  files : x.files = (List.range cs.length).map fun i => x.file (x.next - cs.length + i + 1)
  le : cs.length ≤ x.next
  get : ∀ i, i < cs.length → fget fs (x.file (x.next - cs.length + i + 1)) = some ⟨F1 (cs.getD i []), F1 (cs.getD i [])⟩
  free : ∀ i, x.next < i → fget fs (x.file i) = none
  one : ∀ l ∈ cs, 1 ≤ l.length ∧ l.length ≤ 50 ∧ Bd l
  name : x.name.length ≤ 3
  keys : (x.now.map (·.1)).Nodup
  bud : 1 ≤ x.budget ∧ x.budget ≤ 50
  now : x.now.length ≤ x.budget
  bd : Bd x.now
  how : x.how = 1 ∨ x.how = 2
  next : x.next ≤ 1000000
theorem On.new {fs : Fs} {name : Nm} {budget : Nat} {how : Int} (h1 : name.length ≤ 3) (h2 : 1 ≤ budget ∧ budget ≤ 50) (h3 : how = 1 ∨ how = 2) (hf : ∀ i, fget fs ((new name budget how).file i) = none) : On fs (new name budget how) [] :=
  ⟨rfl, Nat.le_refl _, fun i h => absurd h (Nat.not_lt_zero _), fun i _ => hf i, (fun l h => by cases h), h1, List.nodup_nil, h2, Nat.zero_le _, Bd.nil, h3, Nat.zero_le _⟩
theorem On.fit {fs : Fs} {x : Bx} {cs : List (List R)} (h : On fs x cs) : x.Fit 1000000 := by
  have h1 := h.now; have h2 := h.bud; have h3 := h.le; have h4 := h.next; have h5 := h.name
  exact ⟨by omega, by rw [h.files]; simp; omega, h.next, by omega, h.bd, by omega⟩
theorem On.len {fs : Fs} {x : Bx} {cs : List (List R)} (h : On fs x cs) : x.files.length = cs.length := by rw [h.files]; simp
theorem On.hne {fs : Fs} {x : Bx} {cs : List (List R)} (h : On fs x cs) : x.how ≠ 0 := by have := h.how; omega
/-- other files do not matter -/
theorem On.frame {fs fs' : Fs} {x : Bx} {cs : List (List R)} (h : On fs x cs) (hf : ∀ i, fget fs' (x.file i) = fget fs (x.file i)) : On fs' x cs :=
  ⟨h.files, h.le, fun i hi => by rw [hf]; exact h.get i hi, fun i hi => by rw [hf]; exact h.free i hi, h.one, h.name, h.keys, h.bud, h.now, h.bd, h.how, h.next⟩
/-- the table turns; the files stay -/
theorem On.turn {fs : Fs} {x : Bx} {cs : List (List R)} (h : On fs x cs) {now : List R} (hk : (now.map (·.1)).Nodup) (hn : now.length ≤ x.budget) (hb : Bd now) : On fs { x with now := now } cs :=
  ⟨h.files, h.le, h.get, h.free, h.one, h.name, hk, h.bud, hn, hb, h.how, h.next⟩
def has (x : Bx) (k : Nat) : Bool := (tlook x.now k).isSome
/-- what a put leaves -/
structure Put (fs fs' : Fs) (x x' : Bx) (cs cs' : List (List R)) (r : R) : Prop where
  on : On fs' x' cs'
  ris : rising fs'
  name : x'.name = x.name
  budget : x'.budget = x.budget
  how : x'.how = x.how
  agg : ∀ k, agg x.how (x'.now ++ cs'.flatten) k = agg x.how (x.now ++ cs.flatten ++ [r]) k
  pot : used fs' + 2 * x'.now.length ≤ used fs + 2 * x.now.length + 2
  frame : ∀ m, (∀ i, m ≠ x.file i) → fget fs' m = fget fs m
  keys : x'.now.map (·.1) = if x.has r.1 = true then x.now.map (·.1) else if x.now.length = x.budget then [r.1] else x.now.map (·.1) ++ [r.1]
  count : cs'.length = if x.has r.1 = false ∧ x.now.length = x.budget then cs.length + 1 else cs.length
  next : x'.next ≤ x.next + 1
  only : (∀ m, fget fs m ≠ none → m ∈ x.files) → ∀ m, fget fs' m ≠ none → m ∈ x'.files
  some : 1 ≤ x'.now.length
theorem file_with (x : Bx) (i : Nat) (now : List R) (files : List Nm) (next : Nat) : ({ x with now := now, files := files, next := next } : Bx).file i = x.file i := rfl
theorem On.spilled {fs fs' : Fs} {x : Bx} {cs : List (List R)} (h : On fs x cs) (hx : x.next + 1 ≤ 1000000) (hfull : x.now.length = x.budget) {r : R} (hr : r.1 < 18446744073709551616 ∧ r.2 < 18446744073709551616) (hget : ∀ m, fget fs' m = if m = x.file (x.next + 1) then some ⟨F1 (sort x.now), F1 (sort x.now)⟩ else fget fs m) :
    On fs' { x with now := [r], files := x.files ++ [x.file (x.next + 1)], next := x.next + 1 } (cs ++ [sort x.now]) := by
  have hle := h.le
  have hb := h.bud
  refine ⟨?_, by show (cs ++ [sort x.now]).length ≤ x.next + 1; simp; omega, fun i hi => ?_, fun i hi => ?_, fun l hl => ?_, h.name, by simp, h.bud, by simp; omega, fun z hz => by rw [List.mem_singleton.1 hz]; exact hr, h.how, hx⟩
  · show x.files ++ [x.file (x.next + 1)] = (List.range (cs ++ [sort x.now]).length).map fun i => x.file (x.next + 1 - (cs ++ [sort x.now]).length + i + 1)
    rw [List.length_append, List.length_singleton, List.range_succ, List.map_append]
    conv => lhs; rw [h.files]
    congr 1
    · refine List.map_congr_left fun i hi => ?_
      congr 1; have := List.mem_range.1 hi; omega
    · simp only [List.map_cons, List.map_nil]
      congr 2; omega
  · show fget fs' (x.file (x.next + 1 - (cs ++ [sort x.now]).length + i + 1)) = _
    rw [List.length_append, List.length_singleton] at hi ⊢
    rw [hget]
    by_cases e : i = cs.length
    · subst e
      rw [if_pos (by congr 1; omega)]
      simp [List.getD_eq_getElem?_getD]
    · rw [if_neg (fun he => by have := file_inj he; omega)]
      have := h.get i (by omega)
      rw [show x.next + 1 - (cs.length + 1) + i + 1 = x.next - cs.length + i + 1 from by omega, this]
      rw [List.getD_eq_getElem?_getD, List.getD_eq_getElem?_getD, List.getElem?_append_left (by omega)]
  · show fget fs' (x.file i) = none
    rw [hget, if_neg (fun he => by have h9 := file_inj he; have : x.next + 1 < i := hi; omega)]
    exact h.free i (by have : x.next + 1 < i := hi; omega)
  · rcases List.mem_append.1 hl with hl | hl
    · exact h.one l hl
    · rw [List.mem_singleton.1 hl]
      exact ⟨by rw [len_sort]; omega, by rw [len_sort]; omega, h.bd.sort⟩
/-- one record more: it is there, or the disk falls -/
theorem put_goC {d : Disk} (hu : d.down = false) (o : Int) (a : Nat) {fs : Fs} (hris : rising fs) {x : Bx} {cs : List (List R)} (h : On fs x cs) (hx : x.next + 1 ≤ 1000000) {r : R} (hr : r.1 < 18446744073709551616 ∧ r.2 < 18446744073709551616) (hroomC : tlook x.now r.1 = none → x.budget ≤ x.now.length → used fs + x.now.length + 1 ≤ d.room) :
    (1 ≤ a ∧ a ≤ 3 ∧ ∃ o' fs', x.put r (dk d o a fs) = (dn d o' (tornAll fs' d.keep), x, 7) ∧ ∀ m, m ≠ x.file (x.next + 1) → fget fs' m = fget fs m) ∨
    ∃ o' a' fs' x' cs', x.put r (dk d o a fs) = (dk d o' a' fs', x', 0) ∧ (a = 0 → a' = 0) ∧ Put fs fs' x x' cs cs' r := by
  have hb := h.bud
  have hnow := h.now
  cases hl : tlook x.now r.1 with
  | some v =>
    right
    have hv := tlook_lt h.bd hl
    have hsome : x.has r.1 = true := by unfold has; rw [hl]; rfl
    refine ⟨o, a, fs, x.into r.1 (comb x.how v r.2), cs, by unfold put; rw [hl], id, ?_⟩
    have hk : (tupd x.now r.1 (comb x.how v r.2)).map (·.1) = x.now.map (·.1) := tupd_keys hl
    have hlen : (tupd x.now r.1 (comb x.how v r.2)).length = x.now.length := by have := congrArg List.length hk; simpa using this
    refine ⟨h.turn (by rw [hk]; exact h.keys) (by rw [hlen]; exact hnow) (tupd_bd hr.1 (comb_lt hv hr.2) h.bd), hris, rfl, rfl, rfl, fun k => ?_, ?_, fun _ _ => rfl, ?_, ?_, Nat.le_succ _, fun ho => ho, ?_⟩
    · show Rn.agg x.how (tupd x.now r.1 (comb x.how v r.2) ++ cs.flatten) k = _
      rw [agg_app, agg_tupd k h.keys hl, agg_app, agg_app, agg_app, oc_assoc, oc_assoc, oc_comm x.how (Rn.agg x.how [(r.1, r.2)] k)]
    · show used fs + 2 * (tupd x.now r.1 (comb x.how v r.2)).length ≤ _
      rw [hlen]; omega
    · rw [if_pos hsome]; exact hk
    · rw [if_neg (by rw [hsome]; simp)]
    · show 1 ≤ (tupd x.now r.1 (comb x.how v r.2)).length
      rw [hlen]
      have := tlook_mem hl
      have h1 : x.now ≠ [] := by rintro e; rw [e] at this; simp at this
      exact List.length_pos_iff.2 h1
  | none =>
    have hnone : x.has r.1 = false := by unfold has; rw [hl]; rfl
    by_cases hf : x.budget ≤ x.now.length
    · have hfull : x.now.length = x.budget := by omega
      have hroom := hroomC hl hf
      have hw := write_go hu o a fs hris (n := x.file (x.next + 1)) (file_may h.name (by omega)) (h.free _ (by omega)) (l := sort x.now) (by rw [len_sort]; omega) (by rw [len_sort]; omega) (by rw [len_sort]; omega)
      rcases hw with ⟨h1, h3, o', fs', hw, hfr⟩ | ⟨ha, o', fs', hw, hris', hget, hus, hlen⟩
      · left
        refine ⟨h1, h3, nx o', fs', ?_, hfr⟩
        have hs : x.spill (dk d o a fs) = (dn d (nx o') (tornAll fs' d.keep), x, 7) := by
          unfold spill; rw [hw, if_pos (by simp), if_pos (by simp), remove_dn]
        unfold put; rw [hl]; simp only
        rw [if_pos hf, hs, if_pos (by simp)]
      · right
        have hs : x.spill (dk d o a fs) = (dk d o' (a - 3) fs', { x with now := [], files := x.files ++ [x.file (x.next + 1)], next := x.next + 1 }, 0) := by
          unfold spill; rw [hw, if_neg (by simp)]
        refine ⟨o', a - 3, fs', { x with now := [r], files := x.files ++ [x.file (x.next + 1)], next := x.next + 1 }, cs ++ [sort x.now], ?_, (fun h => by omega), ?_⟩
        · unfold put; rw [hl]; simp only
          rw [if_pos hf, hs, if_neg (by simp)]; rfl
        · refine ⟨h.spilled hx hfull hr hget, hris', rfl, rfl, rfl, fun k => ?_, ?_, fun m hm => ?_, ?_, ?_, Nat.le_refl _, fun ho m hm => ?_, Nat.le_refl _⟩
          · show Rn.agg x.how ([r] ++ (cs ++ [sort x.now]).flatten) k = _
            rw [List.flatten_append]
            simp only [List.flatten_cons, List.flatten_nil, List.append_nil]
            rw [agg_app, agg_app, agg_app, agg_app, agg_perm (sort_perm x.now), oc_comm x.how (Rn.agg x.how [r] k), oc_comm x.how (Rn.agg x.how cs.flatten k)]
          · show used fs' + 2 * 1 ≤ _
            rw [hus, len_sort]; omega
          · rw [hget, if_neg (hm _)]
          · rw [if_neg (by rw [hnone]; simp), if_pos hfull]; rfl
          · rw [if_pos ⟨hnone, hfull⟩]; simp
          · show m ∈ x.files ++ [x.file (x.next + 1)]
            rw [hget] at hm
            by_cases e : m = x.file (x.next + 1)
            · rw [e]; simp
            · rw [if_neg e] at hm; exact List.mem_append_left _ (ho m hm)
    · right
      have hnf : ¬ x.now.length = x.budget := by omega
      have ht : tupd x.now r.1 r.2 = x.now ++ [r] := tupd_new hl
      refine ⟨o, a, fs, { x with now := x.now ++ [r] }, cs, ?_, id, ?_⟩
      · unfold put; rw [hl]; simp only
        rw [if_neg hf]; unfold into; rw [ht]
      · refine ⟨h.turn (nodup_new h.keys hl) (by simp; omega) (h.bd.app fun z hz => by rw [List.mem_singleton.1 hz]; exact hr), hris, rfl, rfl, rfl, fun k => ?_, ?_, fun _ _ => rfl, ?_, ?_, Nat.le_succ _, fun ho => ho, ?_⟩
        · show Rn.agg x.how (x.now ++ [r] ++ cs.flatten) k = _
          rw [agg_app, agg_app, agg_app, agg_app, oc_assoc, oc_assoc, oc_comm x.how (Rn.agg x.how [r] k)]
        · show used fs + 2 * (x.now ++ [r]).length ≤ _
          simp; omega
        · rw [if_neg (by rw [hnone]; simp), if_neg hnf]; simp
        · rw [if_neg (fun hc => hnf hc.2)]
        · show 1 ≤ (x.now ++ [r]).length
          simp
theorem put_go {d : Disk} (hu : d.down = false) (o : Int) (a : Nat) {fs : Fs} (hris : rising fs) {x : Bx} {cs : List (List R)} (h : On fs x cs) (hx : x.next + 1 ≤ 1000000) {r : R} (hr : r.1 < 18446744073709551616 ∧ r.2 < 18446744073709551616) (hroom : used fs + x.now.length + 1 ≤ d.room) :
    (1 ≤ a ∧ a ≤ 3 ∧ ∃ o' fs', x.put r (dk d o a fs) = (dn d o' (tornAll fs' d.keep), x, 7) ∧ ∀ m, m ≠ x.file (x.next + 1) → fget fs' m = fget fs m) ∨
    ∃ o' a' fs' x' cs', x.put r (dk d o a fs) = (dk d o' a' fs', x', 0) ∧ (a = 0 → a' = 0) ∧ Put fs fs' x x' cs cs' r := put_goC hu o a hris h hx hr fun _ _ => hroom
/-- no room: nothing is lost -/
theorem put_space {d : Disk} (hq : Q d) {x : Bx} {cs : List (List R)} (h : On d.files x cs) (hx : x.next + 1 ≤ 1000000) {r : R} (hl : tlook x.now r.1 = none) (hf : x.budget ≤ x.now.length) (hroom : d.room < used d.files + x.now.length + 1) : ∃ o, x.put r d = (dk d o 0 d.files, x, 6) := by
  have hb := h.bud
  have hnow := h.now
  obtain ⟨o', fs', hw, hg, hd⟩ := write_full hq.up d.ops d.files hq.ok.ris (n := x.file (x.next + 1)) (file_may h.name (by omega)) (h.free _ (by omega)) (l := sort x.now) (by rw [len_sort]; omega) (by rw [len_sort]; omega) (by rw [len_sort]; omega)
  rw [← hq.self] at hw
  have hrm := remove_up hq.up o' 0 fs' (by decide) hg
  rw [hd] at hrm
  have hs : x.spill d = (dk d (nx o') 0 d.files, x, 6) := by
    unfold spill; rw [hw, if_pos (by simp), if_pos (by simp)]
    simp only
    rw [hrm]
  refine ⟨nx o', ?_⟩
  unfold put; rw [hl]; simp only
  rw [if_pos hf, hs, if_pos (by simp)]
/-! ### all of them -/
theorem reads_q {d : Disk} (hu : d.down = false) {fs : Fs} (hq : ∀ o, Q (dk d o 0 fs)) : ∀ (ns : List Nm) (cs ls : List (List R)) (o : Int), ns.length = cs.length → (∀ i, i < cs.length → ∃ s, fget fs (ns.getD i []) = some ⟨F1 (cs.getD i []), s⟩) → (∀ l ∈ cs, 1 ≤ l.length ∧ l.length ≤ 50 ∧ Bd l) →
    ∃ o', reads ns ls (dk d o 0 fs) = (dk d o' 0 fs, ls ++ cs, 0)
  | [], [], ls, o, _, _, _ => ⟨o, by simp [reads]⟩
  | [], _ :: _, _, _, h, _, _ => by simp at h
  | _ :: _, [], _, _, h, _, _ => by simp at h
  | n :: ns, c :: cs, ls, o, hl, hg, h1 => by
    obtain ⟨s, hs⟩ := hg 0 (by simp)
    simp only [List.getD_cons_zero] at hs
    obtain ⟨a1, a2, a3⟩ := h1 c List.mem_cons_self
    obtain ⟨o1, hr⟩ := read_one (hq o) (n := n) (l := c) (s := s) hs a1 a2 a3
    have hr : Rn.read n (dk d o 0 fs) = (dk d o1 0 fs, c, 0) := hr
    obtain ⟨o2, h2⟩ := reads_q hu hq ns cs (ls ++ [c]) o1 (by simpa using hl) (fun i hi => by simpa using hg (i + 1) (by simpa using hi)) (fun l h => h1 l (List.mem_cons_of_mem _ h))
    refine ⟨o2, ?_⟩
    rw [reads, hr, if_neg (by simp)]
    simp only
    rw [h2, List.append_assoc]; rfl
theorem On.getD {fs : Fs} {x : Bx} {cs : List (List R)} (h : On fs x cs) {i : Nat} (hi : i < cs.length) : x.files.getD i [] = x.file (x.next - cs.length + i + 1) := by
  rw [h.files, List.getD_eq_getElem?_getD]; simp [hi]
theorem On.reads {d : Disk} (hq : Q d) {x : Bx} {cs : List (List R)} (h : On d.files x cs) : ∃ o, reads x.files [sort x.now] d = (dk d o 0 d.files, sort x.now :: cs, 0) := by
  have := reads_q hq.up (fs := d.files) (fun o => hq.same o) x.files cs [sort x.now] d.ops h.len (fun i hi => ⟨F1 (cs.getD i []), by rw [h.getD hi]; exact h.get i hi⟩) h.one
  rw [← hq.self] at this
  exact this
theorem On.all {d : Disk} (hq : Q d) {x : Bx} {cs : List (List R)} (h : On d.files x cs) : ∃ o, x.all d = (dk d o 0 d.files, fold x.how (sort (x.now ++ cs.flatten)), 0) := by
  obtain ⟨o, hr⟩ := h.reads hq
  refine ⟨o, ?_⟩
  unfold Bx.all
  rw [hr, if_neg (by simp)]
  have hm : merge x.how (sort x.now :: cs) = (fold x.how (sort (x.now ++ cs.flatten)), 0) := by
    unfold merge hright
    rw [if_pos (by have := h.how; simp; omega), List.flatten_cons, sort_of_perm ((sort_perm x.now).append_right cs.flatten)]
  rw [hm]
/-- the sum of their lengths -/
theorem On.sum {fs : Fs} {x : Bx} {cs : List (List R)} (h : On fs x cs) : (sort x.now :: cs).flatten.length ≤ 1099511627776 := by
  have key : ∀ cs : List (List R), (∀ l ∈ cs, 1 ≤ l.length ∧ l.length ≤ 50 ∧ Bd l) → cs.flatten.length ≤ 50 * cs.length := by
    intro cs
    induction cs with
    | nil => intro _; simp
    | cons c cs ih =>
      intro h
      have h1 := ih fun l hl => h l (List.mem_cons_of_mem _ hl)
      have h2 := (h c List.mem_cons_self).2.1
      simp only [List.flatten_cons, List.length_append, List.length_cons]; omega
  have h1 := key cs h.one
  have h2 := h.now; have h3 := h.bud; have h4 := h.le; have h5 := h.next
  simp only [List.flatten_cons, List.length_append, len_sort]; omega
/-! ### all gone -/
theorem clears_q {d : Disk} (hu : d.down = false) : ∀ (ns : List Nm) (fs : Fs) (o : Int), rising fs → ns.Nodup → (∀ n ∈ ns, fget fs n ≠ none) → ∃ o' fs', clears ns (dk d o 0 fs) = (dk d o' 0 fs', [], 0) ∧ rising fs' ∧ (∀ m, fget fs' m = if m ∈ ns then none else fget fs m) ∧ used fs' ≤ used fs
  | [], fs, o, hr, _, _ => ⟨o, fs, rfl, hr, fun m => by simp, Nat.le_refl _⟩
  | n :: ns, fs, o, hr, hn, hg => by
    obtain ⟨f, hf⟩ : ∃ f, fget fs n = some f := by
      cases hf : fget fs n with
      | none => exact absurd hf (hg n List.mem_cons_self)
      | some f => exact ⟨f, rfl⟩
    rw [List.nodup_cons] at hn
    have h1 := remove_up hu o 0 fs (by decide) hf
    obtain ⟨o', fs', h2, h3, h4, h5⟩ := clears_q hu ns (fdel fs n) (nx o) (rising_fdel hr n) hn.2 (fun m hm => by rw [fget_fdel, if_neg (fun e => hn.1 (by rw [← e]; exact hm))]; exact hg m (List.mem_cons_of_mem _ hm))
    refine ⟨o', fs', ?_, h3, fun m => ?_, Nat.le_trans h5 (used_fdel_le hr n)⟩
    · rw [clears, h1, if_neg (by simp)]; exact h2
    · rw [h4, fget_fdel]
      by_cases e1 : m = n
      · rw [if_pos e1, if_pos (show m ∈ n :: ns by rw [e1]; simp)]; split <;> rfl
      · by_cases e2 : m ∈ ns
        · rw [if_pos e2, if_pos (List.mem_cons_of_mem _ e2)]
        · rw [if_neg e2, if_neg e1, if_neg (by simp [e1, e2])]
theorem On.nodup {fs : Fs} {x : Bx} {cs : List (List R)} (h : On fs x cs) : x.files.Nodup := by
  rw [h.files]
  refine List.Pairwise.map _ (fun i j hij e => hij (by have := file_inj e; omega)) List.nodup_range
theorem On.mem {fs : Fs} {x : Bx} {cs : List (List R)} (h : On fs x cs) {m : Nm} (hm : m ∈ x.files) : fget fs m ≠ none := by
  rw [h.files] at hm
  obtain ⟨i, hi, rfl⟩ := List.mem_map.1 hm
  rw [h.get i (List.mem_range.1 hi)]; simp
theorem On.clear {d : Disk} (hq : Q d) {x : Bx} {cs : List (List R)} (h : On d.files x cs) : ∃ d', x.clear d = (d', { x with now := [], files := [] }, 0) ∧ Q d' ∧ On d'.files { x with now := [], files := [] } [] ∧ (∀ m, fget d'.files m = if m ∈ x.files then none else fget d.files m) ∧ d'.room = d.room ∧ used d'.files ≤ used d.files := by
  obtain ⟨o', fs', h1, h2, h3, h4⟩ := clears_q hq.up x.files d.files d.ops hq.ok.ris h.nodup (fun n hn => h.mem hn)
  rw [← hq.self] at h1
  have hok : ∀ (ns : List Nm) (d : Disk), d.Ok → (clears ns d).1.Ok := by
    intro ns
    induction ns with
    | nil => exact fun d h => h
    | cons n ns ih =>
      intro d h
      unfold clears; split
      · exact h.remove n
      · exact ih _ (h.remove n)
  have hok2 := hok x.files d hq.ok
  rw [h1] at hok2
  refine ⟨dk d o' 0 fs', by unfold Bx.clear; rw [h1], ⟨hok2, hq.up, rfl⟩, ?_, h3, rfl, h4⟩
  refine ⟨rfl, Nat.zero_le _, fun i hi => absurd hi (Nat.not_lt_zero _), fun i hi => ?_, (fun l hl => by cases hl), h.name, List.nodup_nil, h.bud, Nat.zero_le _, Bd.nil, h.how, h.next⟩
  show fget fs' (x.file i) = none
  rw [h3]; split
  · rfl
  · exact h.free i hi
/-- as many files as names -/
theorem On.count {fs : Fs} (hr : rising fs) {x : Bx} {cs : List (List R)} (h : On fs x cs) (ho : ∀ m, fget fs m ≠ none → m ∈ x.files) : fs.length = cs.length := by
  have hn : (fs.map (·.1)).Nodup := by
    unfold List.Nodup
    rw [List.pairwise_map]
    refine List.Pairwise.imp ?_ hr
    intro a b hab e
    rw [e] at hab
    exact lt_irrefl _ hab
  have hp : (fs.map (·.1)).Perm x.files := by
    refine (List.perm_ext_iff_of_nodup hn h.nodup).2 fun m => ⟨fun hm => ?_, fun hm => ?_⟩
    · obtain ⟨p, hp, rfl⟩ := List.mem_map.1 hm
      exact ho _ (by rw [fget_of_mem hr (f := p.2) hp]; simp)
    · have := h.mem hm
      cases hf : fget fs m with
      | none => exact absurd hf this
      | some f => exact List.mem_map.2 ⟨_, mem_of_fget hf, rfl⟩
  have := hp.length_eq
  rw [h.len] at this
  simpa using this
end Bx
end Go.Cg.Rn
