/- Plans of the mailbox: a crash, a disk that is full. No condition. -/
import Derived.Test.YtembfpadojnpmaaGreatDoorBp
namespace Go.Cg.Rn
set_option linter.unusedVariables false
set_option linter.unusedSimpArgs false
open Go.Cg.Dk Go.Cg.Oc Go.Cg.Cl
theorem agg_mem {how : Int} {k : Nat} : ∀ {l : List R}, agg how l k = none → ∀ z ∈ l, z.1 ≠ k
  | [], _, z, hz => by cases hz
  | r :: l, h, z, hz => by
    rw [agg] at h
    split at h
    · cases hx : agg how l k <;> rw [hx] at h <;> cases h
    · rename_i hk
      rcases List.mem_cons.1 hz with rfl | hz
      · exact hk
      · exact agg_mem h z hz
namespace Bx
set_option linter.unusedVariables false
set_option linter.unusedSimpArgs false
/-- the records that are put ahead of a crash -/
def own (i : Nat) : List R := (List.range i).map fun j => (7 * j, j)
@[simp] theorem own_len (i : Nat) : (own i).length = i := by simp [own]
theorem own_succ (i : Nat) : own (i + 1) = own i ++ [(7 * i, i)] := by simp [own, List.range_succ]
theorem own_kup (i : Nat) : KUp (own i) := by
  unfold own KUp
  rw [List.pairwise_map]
  exact (List.pairwise_lt_range (n := i)).imp fun {a b} h => by show 7 * a < 7 * b; omega
theorem own_bd {i : Nat} (h : i ≤ 1000) : Bd (own i) := by
  intro z hz
  obtain ⟨j, hj, rfl⟩ := List.mem_map.1 hz
  have := List.mem_range.1 hj
  exact ⟨by show 7 * j < _; omega, by show j < _; omega⟩
/-- a disk that is up again, on which all that was spilled is -/
theorem again_all {nm : Nm} {b : Nat} {k : Nat} {l : List R} {fs : Fs} {x : Bx} {cs : List (List R)} {d : Disk} (hq : Q d) (h : RunK nm b 2 k l fs x cs) (hg : ∀ i, i < cs.length → ∃ s, fget d.files (x.file (x.next - cs.length + i + 1)) = some ⟨F1 (cs.getD i []), s⟩) :
    (reads x.files [sort x.now] d).2.1.flatten.length ≤ 1099511627776 ∧ ∃ o, x.all d = (dk d o 0 d.files, fold 2 (sort l), 0) := by
  obtain ⟨o, hr⟩ := reads_q hq.up (fs := d.files) (fun o => hq.same o) x.files cs [sort x.now] d.ops h.on.len (fun i hi => by rw [h.on.getD hi]; exact hg i hi) h.on.one
  rw [← hq.self] at hr
  refine ⟨by rw [hr]; exact h.on.sum, o, ?_⟩
  unfold Bx.all
  rw [hr, if_neg (by simp)]
  have hm : merge x.how (sort x.now :: cs) = (fold 2 (sort l), 0) := by
    have hw := h.hw
    unfold merge hright
    rw [if_pos (by rw [hw]; decide), List.flatten_cons, sort_of_perm ((sort_perm x.now).append_right cs.flatten), hw, fold_eq (how := 2) (by decide) h.sum]
  show ((dk d o 0 d.files, (merge x.how (sort x.now :: cs)).1, (merge x.how (sort x.now :: cs)).2) : Disk × List R × Nat) = _
  rw [hm]
theorem down_go {nm : Nm} {b : Nat} {k : Nat} {l : List R} {fs : Fs} {x : Bx} {cs : List (List R)} {D : Disk} (hu : D.down = false) {o : Int} {a : Nat} (hok : (dk D o a fs).Ok) (h : RunK nm b 2 k l fs x cs) :
    Q (Disk.restart (Disk.arm 0 [] (dk D o a fs))) ∧ (reads x.files [sort x.now] (Disk.restart (Disk.arm 0 [] (dk D o a fs)))).2.1.flatten.length ≤ 1099511627776 ∧ ∃ o', x.all (Disk.restart (Disk.arm 0 [] (dk D o a fs))) = (dk (Disk.restart (Disk.arm 0 [] (dk D o a fs))) o' 0 (Disk.restart (Disk.arm 0 [] (dk D o a fs))).files, fold 2 (sort l), 0) := by
  have hq : Q (Disk.restart (Disk.arm 0 [] (dk D o a fs))) := ⟨(hok.arm (by decide) []).restart, rfl, rfl⟩
  have h1 := again_all hq h (fun i hi => ⟨_, h.on.get i hi⟩)
  exact ⟨hq, h1.1, h1.2⟩
theorem down_fall {nm : Nm} {b : Nat} {k : Nat} {l : List R} {fs fs' : Fs} {x : Bx} {cs : List (List R)} {D : Disk} {o : Int} (hok : (dn D o (tornAll fs' D.keep)).Ok) (h : RunK nm b 2 k l fs x cs) (hf : ∀ m, m ≠ x.file (x.next + 1) → fget fs' m = fget fs m) :
    Q (Disk.restart (Disk.arm 0 [] (dn D o (tornAll fs' D.keep)))) ∧ (reads x.files [sort x.now] (Disk.restart (Disk.arm 0 [] (dn D o (tornAll fs' D.keep))))).2.1.flatten.length ≤ 1099511627776 ∧ ∃ o', x.all (Disk.restart (Disk.arm 0 [] (dn D o (tornAll fs' D.keep)))) = (dk (Disk.restart (Disk.arm 0 [] (dn D o (tornAll fs' D.keep)))) o' 0 (Disk.restart (Disk.arm 0 [] (dn D o (tornAll fs' D.keep)))).files, fold 2 (sort l), 0) := by
  have hq : Q (Disk.restart (Disk.arm 0 [] (dn D o (tornAll fs' D.keep)))) := ⟨(hok.arm (by decide) []).restart, rfl, rfl⟩
  have h1 := again_all hq h (fun i hi => by
    have hle := h.on.le
    have hne : x.file (x.next - cs.length + i + 1) ≠ x.file (x.next + 1) := fun e => by have := file_inj e; omega
    have hg := h.on.get i hi
    rw [← hf _ hne] at hg
    show ∃ s, fget (tornAll fs' D.keep) _ = _
    rcases tornAll_get (x.file (x.next - cs.length + i + 1)) fs' D.keep with ⟨h0, _⟩ | ⟨f, k', h0, h2⟩
    · rw [h0] at hg; cases hg
    · rw [h0] at hg
      have hfe := Option.some.inj hg
      rw [hfe, torn_clean] at h2
      exact ⟨_, h2⟩)
  exact ⟨hq, h1.1, h1.2⟩
theorem put_ok' {x x' : Bx} {r : R} {d d' : Disk} {e : Nat} (h : x.put r d = (d', x', e)) (hd : d.Ok) : d'.Ok := by
  have := put_ok (x := x) (r := r) hd; rwa [h] at this
/-- a key that is not there -/
theorem RunK.new_key {nm : Nm} {b : Nat} {how : Int} {k : Nat} {l : List R} {fs : Fs} {x : Bx} {cs : List (List R)} (h : RunK nm b how k l fs x cs) {q : Nat} (hq : ∀ z ∈ l, z.1 ≠ q) : tlook x.now q = none := by
  have h1 := h.sum q
  rw [agg_no hq, agg_app] at h1
  have h2 : agg how x.now q = none := by
    cases hx : agg how x.now q with
    | none => rfl
    | some v => rw [hx] at h1; cases hy : agg how cs.flatten q <;> rw [hy] at h1 <;> cases h1
  cases hl : tlook x.now q with
  | none => rfl
  | some v =>
    obtain ⟨z, hz, e⟩ := List.mem_map.1 (tlook_mem hl)
    exact absurd e (agg_mem h2 z hz)
end Bx
end Go.Cg.Rn
