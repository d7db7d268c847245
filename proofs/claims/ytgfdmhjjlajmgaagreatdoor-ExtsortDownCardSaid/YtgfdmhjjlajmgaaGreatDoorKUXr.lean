/- Plain laws of what readers and their heap may be, on any disk. No condition. -/
import Derived.Test.YtgfdmhjjlajmgaaGreatDoorKUXm
namespace Go.Cg.Xs
set_option linter.unusedVariables false
set_option linter.unusedSimpArgs false
open Go.Cg.Dk Go.Cg.Oc Go.Cg.Sn
open Go.Cg.Rn hiding HeapOk MInv NextP UpEx DnEx lst

theorem rnext_bd {n : Nm} {sz : Nat} {s : Rs} {d : Disk} {r : R} (h : (rnext n sz s d).2.2.1 = some r) : (r.1 < 18446744073709551616 ∧ r.2 < 18446744073709551616) ∧ (rnext n sz s d).2.2.2 = 0 := by
  unfold rnext at h ⊢
  split at h
  · rename_i hc
    rw [if_pos hc]
    split at h
    · simp at h
    · rename_i h0
      rw [if_neg h0]
      have := Option.some.inj h
      exact ⟨by rw [← this]; exact recOf_lt _, rfl⟩
  · rename_i hc
    rw [if_neg hc]
    split at h
    · simp at h
    · rename_i h0
      rw [if_neg h0]
      have := Option.some.inj h
      exact ⟨by rw [← this]; exact recOf_lt _, rfl⟩
theorem rnext_pos {n : Nm} {sz : Nat} {s : Rs} {d : Disk} (h : s.1 ≤ sz) : (rnext n sz s d).2.1.1 ≤ sz := by
  unfold rnext
  split
  · split
    · exact h
    · rename_i h0
      exact rin_le h (by omega)
  · split <;> exact h
/-- readers as they may be -/
def RdsOk (rds : List Rd) : Prop := ∀ j, j < rds.length → RsOk (rds.getD j rd0).2.1 (rds.getD j rd0).2.2 ∧ (rds.getD j rd0).2.2.1 ≤ (rds.getD j rd0).2.1 ∧ (rds.getD j rd0).2.1 ≤ 17592186044416
theorem RdsOk.nil : RdsOk [] := fun j h => absurd h (Nat.not_lt_zero _)
theorem RdsOk.snoc {rds : List Rd} (h : RdsOk rds) {n : Nm} {sz : Nat} (hz : sz ≤ 17592186044416) : RdsOk (rds ++ [(n, sz, (0, [], false))]) := by
  intro j hj
  rw [getD_snoc]
  by_cases e : j = rds.length
  · rw [if_pos e]; exact ⟨RsOk.start _, Nat.zero_le _, hz⟩
  · rw [if_neg e]; exact h j (by simp at hj; omega)
theorem RdsOk.push {rds : List Rd} (h : RdsOk rds) (i : Nat) (hs : List Hd) (d : Disk) : RdsOk (mpush rds i hs d).2.1.1 := by
  show RdsOk (rds.set (i - 1) _)
  intro j hj
  rw [List.length_set] at hj
  by_cases hi : i - 1 < rds.length
  · rw [getD_set hi]
    by_cases e : j = i - 1
    · rw [if_pos e]
      obtain ⟨h1, h2, h3⟩ := h (i - 1) hi
      exact ⟨(h1.next (n := (rds.getD (i - 1) rd0).1) (d := d)).1, rnext_pos h2, h3⟩
    · rw [if_neg e]; exact h j hj
  · rw [List.set_eq_of_length_le (by omega)]; exact h j hj
@[simp] theorem mpush_rlen (rds : List Rd) (i : Nat) (hs : List Hd) (d : Disk) : (mpush rds i hs d).2.1.1.length = rds.length := by
  show (rds.set (i - 1) _).length = _; simp
theorem mpush_cnt (rds : List Rd) (i : Nat) (hs : List Hd) (d : Disk) : (mpush rds i hs d).1.files.length = d.files.length := rnext_cnt _ _ _ _
theorem mpush_none {rds : List Rd} {i : Nat} {hs : List Hd} {d : Disk} (h : (rnext (rds.getD (i - 1) rd0).1 (rds.getD (i - 1) rd0).2.1 (rds.getD (i - 1) rd0).2.2 d).2.2.1 = none) : (mpush rds i hs d).2.1.2 = hs := by
  unfold mpush; simp only; rw [h]
theorem mpush_some {rds : List Rd} {i : Nat} {hs : List Hd} {d : Disk} {r : R} (h : (rnext (rds.getD (i - 1) rd0).1 (rds.getD (i - 1) rd0).2.1 (rds.getD (i - 1) rd0).2.2 d).2.2.1 = some r) : (mpush rds i hs d).2.1.2 = hpush hs (r, i) := by
  unfold mpush; simp only; rw [h]
/-- a heap as it may be: of so many readers -/
structure HBd (n : Nat) (hs : List Hd) : Prop where
  ok : HeapOk hs
  bd : ∀ h ∈ hs, (1 ≤ h.2 ∧ h.2 ≤ n) ∧ h.1.1 < 18446744073709551616 ∧ h.1.2 < 18446744073709551616
theorem HBd.nil (n : Nat) : HBd n [] := ⟨Sn.HeapOk.nil, fun h hh => by cases hh⟩
theorem HBd.more {n m : Nat} {hs : List Hd} (h : HBd n hs) (hm : n ≤ m) : HBd m hs := ⟨h.ok, fun x hx => ⟨⟨(h.bd x hx).1.1, by have := (h.bd x hx).1.2; omega⟩, (h.bd x hx).2⟩⟩
theorem HBd.pop {n : Nat} {hs : List Hd} (h : HBd n hs) (h0 : hs ≠ []) : HBd n (hpop hs) ∧ (1 ≤ (hg hs 0).2 ∧ (hg hs 0).2 ≤ n) ∧ (hg hs 0).1.1 < 18446744073709551616 ∧ (hg hs 0).1.2 < 18446744073709551616 := by
  obtain ⟨h1, h2⟩ := hpop_ok h.ok (List.length_pos_iff.2 h0)
  exact ⟨⟨h1, fun x hx => h.bd x (h2.mem_iff.2 (List.mem_cons_of_mem _ hx))⟩, h.bd _ (h2.mem_iff.2 List.mem_cons_self)⟩
theorem HBd.push {n : Nat} {hs : List Hd} (h : HBd n hs) {rds : List Rd} {i : Nat} {d : Disk} (hi : 1 ≤ i ∧ i ≤ n) : HBd n (mpush rds i hs d).2.1.2 ∧ (mpush rds i hs d).2.1.2.length ≤ hs.length + 1 := by
  cases hx : (rnext (rds.getD (i - 1) rd0).1 (rds.getD (i - 1) rd0).2.1 (rds.getD (i - 1) rd0).2.2 d).2.2.1 with
  | none => rw [mpush_none hx]; exact ⟨h, Nat.le_succ _⟩
  | some r =>
    rw [mpush_some hx]
    obtain ⟨h1, h2⟩ := hpush_ok h.ok (r, i)
    refine ⟨⟨h1, fun x hx' => ?_⟩, by simp⟩
    rcases List.mem_cons.1 (h2.mem_iff.1 hx') with rfl | hm
    · exact ⟨hi, (rnext_bd hx).1⟩
    · exact h.bd x hm
theorem sum_set {α : Type} (f : α → Nat) : ∀ (l : List α) (j : Nat) (x z : α), j < l.length → ((l.set j x).map f).sum + f (l.getD j z) = (l.map f).sum + f x
  | [], _, _, _, h => absurd h (Nat.not_lt_zero _)
  | a :: l, 0, x, z, _ => by simp; omega
  | a :: l, j + 1, x, z, h => by
    have := sum_set f l j x z (by simpa using h)
    simp only [List.set_cons_succ, List.map_cons, List.sum_cons, List.getD_cons_succ] at *
    omega
/-- less is left -/
theorem mleft_lt {rds : List Rd} {hs : List Hd} {d : Disk} (hr : RdsOk rds) (h : HBd rds.length hs) (h0 : hs ≠ []) : mleft (mpush rds (hg hs 0).2 (hpop hs) d).2.1.1 (mpush rds (hg hs 0).2 (hpop hs) d).2.1.2 < mleft rds hs := by
  obtain ⟨h1, ⟨h2, h3⟩, _⟩ := h.pop h0
  have hl := hpop_len hs
  have hp := List.length_pos_iff.2 h0
  obtain ⟨k1, _, _⟩ := hr ((hg hs 0).2 - 1) (by omega)
  have hn := k1.next (n := (rds.getD ((hg hs 0).2 - 1) rd0).1) (d := d)
  have hsum := sum_set (fun e : Rd => rleft e.2.1 e.2.2) rds ((hg hs 0).2 - 1) ((rds.getD ((hg hs 0).2 - 1) rd0).1, (rds.getD ((hg hs 0).2 - 1) rd0).2.1, (rnext (rds.getD ((hg hs 0).2 - 1) rd0).1 (rds.getD ((hg hs 0).2 - 1) rd0).2.1 (rds.getD ((hg hs 0).2 - 1) rd0).2.2 d).2.1) rd0 (by omega)
  cases hx : (rnext (rds.getD ((hg hs 0).2 - 1) rd0).1 (rds.getD ((hg hs 0).2 - 1) rd0).2.1 (rds.getD ((hg hs 0).2 - 1) rd0).2.2 d).2.2.1 with
  | none =>
    rw [mpush_none hx]
    have hle : rleft (rds.getD ((hg hs 0).2 - 1) rd0).2.1 (rnext (rds.getD ((hg hs 0).2 - 1) rd0).1 (rds.getD ((hg hs 0).2 - 1) rd0).2.1 (rds.getD ((hg hs 0).2 - 1) rd0).2.2 d).2.1 ≤ rleft (rds.getD ((hg hs 0).2 - 1) rd0).2.1 (rds.getD ((hg hs 0).2 - 1) rd0).2.2 := by
      have : (rnext (rds.getD ((hg hs 0).2 - 1) rd0).1 (rds.getD ((hg hs 0).2 - 1) rd0).2.1 (rds.getD ((hg hs 0).2 - 1) rd0).2.2 d).2.1 = (rds.getD ((hg hs 0).2 - 1) rd0).2.2 := by
        unfold rnext at hx ⊢
        split
        · rename_i hc
          rw [if_pos hc] at hx
          split
          · rfl
          · rename_i h0; rw [if_neg h0] at hx; simp at hx
        · rename_i hc
          rw [if_neg hc] at hx
          split
          · rfl
          · rename_i h0; rw [if_neg h0] at hx; simp at hx
      rw [this]; exact Nat.le_refl _
    unfold mleft
    show ((rds.set _ _).map _).sum + _ < _
    simp only at hsum
    omega
  | some r =>
    rw [mpush_some hx]
    have hlt := hn.2 (by rw [hx]; rfl)
    unfold mleft
    show ((rds.set _ _).map _).sum + _ < _
    simp only [hpush_len] at hsum ⊢
    omega
section
variable {n : Nm} {ns : List Nm} {rs : List Rd} {hs : List Hd} {d : Disk}
theorem mopen_b1 (h : (d.size n).2.2 ≠ 0) : mopen (n :: ns) rs hs d = ((d.size n).1, (rs, hs), (d.size n).2.2) := by rw [mopen, if_pos h]
theorem mopen_b2 (h : (d.size n).2.2 = 0) (h2 : (mpush (rs ++ [(n, (d.size n).2.1, (0, [], false))]) (rs.length + 1) hs (d.size n).1).2.2 ≠ 0) : mopen (n :: ns) rs hs d = mpush (rs ++ [(n, (d.size n).2.1, (0, [], false))]) (rs.length + 1) hs (d.size n).1 := by
  rw [mopen, if_neg (fun c => c h), if_pos h2]
theorem mopen_one (h : (d.size n).2.2 = 0) (h2 : (mpush (rs ++ [(n, (d.size n).2.1, (0, [], false))]) (rs.length + 1) hs (d.size n).1).2.2 = 0) : mopen (n :: ns) rs hs d = mopen ns (mpush (rs ++ [(n, (d.size n).2.1, (0, [], false))]) (rs.length + 1) hs (d.size n).1).2.1.1 (mpush (rs ++ [(n, (d.size n).2.1, (0, [], false))]) (rs.length + 1) hs (d.size n).1).2.1.2 (mpush (rs ++ [(n, (d.size n).2.1, (0, [], false))]) (rs.length + 1) hs (d.size n).1).1 := by
  rw [mopen, if_neg (fun c => c h), if_neg (fun c => c h2)]
end
theorem merge_b1 {how : Int} {out : Nm} {ns : List Nm} {d : Disk} (h : (mopen ns [] [] d).2.2 ≠ 0) : merge how out ns d = ((mopen ns [] [] d).1, (mopen ns [] [] d).2.2) := by unfold merge; rw [if_pos h]
theorem merge_b2 {how : Int} {out : Nm} {ns : List Nm} {d : Disk} (h : (mopen ns [] [] d).2.2 = 0) (h2 : ((mopen ns [] [] d).1.create out).2 ≠ 0) : merge how out ns d = (mopen ns [] [] d).1.create out := by unfold merge; rw [if_neg (fun c => c h), if_pos h2]
theorem merge_g {how : Int} {out : Nm} {ns : List Nm} {d : Disk} (h : (mopen ns [] [] d).2.2 = 0) (h2 : ((mopen ns [] [] d).1.create out).2 = 0) : merge how out ns d = mloop how out (mleft (mopen ns [] [] d).2.1.1 (mopen ns [] [] d).2.1.2 + 1) (mopen ns [] [] d).2.1.1 (mopen ns [] [] d).2.1.2 none [] ((mopen ns [] [] d).1.create out).1 := by
  unfold merge; rw [if_neg (fun c => c h), if_neg (fun c => c h2)]
end Go.Cg.Xs
