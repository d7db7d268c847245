/- Plain laws of the commits: what is saved, what is kept, by names. No condition. -/
import Derived.Test.YtfndfpgmgnacgaaGreatDoorCl
namespace Go.Cg.Cl
set_option linter.unusedVariables false
set_option linter.unusedSimpArgs false
open Go.Cg.Dk Go.Cg.Oc Go.Cg.Cm

theorem itoa_nn (k : Nat) : Go.Lib.itoa (k : Int) = Go.Lib.decDigits k := by unfold Go.Lib.itoa; rw [if_neg (by omega)]; rfl
theorem itoa_0 : itoa 0 = [48] := by unfold itoa; rw [itoa_nn]; unfold Go.Lib.decDigits; rfl
theorem itoa_1 : itoa 1 = [49] := by unfold itoa; rw [itoa_nn]; unfold Go.Lib.decDigits; rfl
theorem slot_0 : slotN 0 = [115, 108, 111, 116, 46, 48] := by unfold slotN; rw [itoa_0]; rfl
theorem slot_1 : slotN 1 = [115, 108, 111, 116, 46, 49] := by unfold slotN; rw [itoa_1]; rfl
theorem slot_new : nSlot ++ nNew = [115, 108, 111, 116, 46, 110, 101, 119] := rfl
theorem slot_ne : slotN 0 ≠ slotN 1 := by rw [slot_0, slot_1]; decide
theorem slot_nw {i : Nat} (h : i < 2) : slotN i ≠ nSlot ++ nNew := by
  match i, h with
  | 0, _ => rw [slot_0, slot_new]; decide
  | 1, _ => rw [slot_1, slot_new]; decide
theorem state_slot (x y : Nm) : nState ++ x ≠ nSlot ++ y := by
  intro e
  have := congrArg (fun l : Nm => l.getD 1 0) e
  simp [nState, nSlot] at this
theorem state_slotN (x : Nm) (i : Nat) : nState ++ x ≠ slotN i := state_slot x _
/-! ### numerals -/
theorem dig_le : ∀ (k u : Nat), u < 10 ^ (k + 1) → (Go.Lib.decDigits u).length ≤ k + 1 ∧ ∀ c ∈ Go.Lib.decDigits u, 48 ≤ c.toNat ∧ c.toNat ≤ 57
  | 0, u, hu => by
    unfold Go.Lib.decDigits
    rw [dif_pos (by omega)]
    simp
    omega
  | k + 1, u, hu => by
    have ih := dig_le k (u / 10) (by rw [Nat.pow_succ] at hu; omega)
    unfold Go.Lib.decDigits
    split
    · simp; omega
    · refine ⟨by simp; omega, fun c hc => ?_⟩
      rcases List.mem_append.1 hc with h | h
      · exact ih.2 c h
      · simp at h; subst h; simp; omega
theorem dig_5 {x : Int} (h0 : 0 ≤ x) (h1 : x ≤ 99999) : (Go.Lib.itoa x).length ≤ 5 ∧ nNew ≠ Go.Lib.itoa x := by
  obtain ⟨k, rfl⟩ := Int.eq_ofNat_of_zero_le h0
  have := dig_le 4 k (by omega)
  rw [itoa_nn]
  refine ⟨this.1, fun e => ?_⟩
  have h2 := this.2 110 (by rw [← e]; decide)
  revert h2; decide
theorem may_state {x : Int} (h0 : 0 ≤ x) (h1 : x ≤ 99999) : may (nState ++ Go.Lib.itoa x) = true := by
  have := (dig_5 h0 h1).1
  unfold may
  rw [decide_eq_true_eq]
  refine ⟨by simp [nState], by rw [List.length_append]; simp [nState]; omega⟩
/-! ### one manifest of two slots -/
theorem mdec_nil : (mdec []).2 ≠ 0 := by decide
theorem choose_l {m : Mf} (h : mright m = true) (hs : m.seq < 18446744073709551616) (hst : m.start < 4294967296) : Oc.choose (menc m).1 [] = (m, 0, true) := by
  unfold Oc.choose; simp only
  rw [mdec_menc h hs hst]
  rw [if_neg (by intro h; exact mdec_nil h.1)]; simp
theorem choose_r {m : Mf} (h : mright m = true) (hs : m.seq < 18446744073709551616) (hst : m.start < 4294967296) : Oc.choose [] (menc m).1 = (m, 1, true) := by
  unfold Oc.choose; simp only
  rw [mdec_menc h hs hst]
  rw [if_neg mdec_nil]; simp
theorem choose_2 {m m' : Mf} (h : mright m = true) (hs : m.seq < 18446744073709551616) (hst : m.start < 4294967296) (h' : mright m' = true) (hs' : m'.seq < 18446744073709551616) (hst' : m'.start < 4294967296) :
    Oc.choose (menc m).1 (menc m').1 = if m.seq < m'.seq then (m', 1, true) else (m, 0, true) := by
  unfold Oc.choose; simp only
  rw [mdec_menc h hs hst, mdec_menc h' hs' hst']; simp
theorem choose_0 : Oc.choose [] [] = (mf0, 0, false) := by
  unfold Oc.choose; simp only
  rw [if_neg mdec_nil, if_neg (by intro h; exact mdec_nil h.1)]
/-! ### what is saved -/
theorem fits_slot {d : Disk} {m : Mf} (hr : mright m = true) (hroom : 4 + used d.files ≤ d.room) : Fits nSlot (itoa (m.seq % 2)) (menc m).1 d := by
  have hl := menc_len hr
  refine ⟨by decide, ?_, ?_, by rw [hl]; exact hroom⟩
  · rcases Nat.mod_two_eq_zero_or_one m.seq with h | h <;> rw [h]
    · rw [itoa_0]; decide
    · rw [itoa_1]; decide
  · rcases Nat.mod_two_eq_zero_or_one m.seq with h | h <;> rw [h]
    · rw [itoa_0]; decide
    · rw [itoa_1]; decide
theorem save_put {m : Mf} (hr : mright m = true) (d : Disk) : Cm.save m d = Cm.put nSlot (itoa (m.seq % 2)) (menc m).1 d := by
  unfold Cm.save; rw [if_neg (by rw [menc_ok hr]; decide)]
theorem save_q {d : Disk} (h : Q d) {m : Mf} (hr : mright m = true) (hroom : 4 + used d.files ≤ d.room) :
    ∃ d', Cm.save m d = (d', 0) ∧ Af d d' (fun n => if n = slotN (m.seq % 2) then some ⟨(menc m).1, (menc m).1⟩ else if n = nSlot ++ nNew then none else fget d.files n) := by
  rw [save_put hr]; exact put_q h (fits_slot hr hroom)
/-! ### what is kept -/
theorem senc_0 {step : Int} {vals : List Nat} {live : List Bool} (h0 : 0 ≤ step) (hl : vals.length = live.length) (hn : vals.length ≤ 1048576) : (senc step vals live).2 = 0 := by
  unfold senc; rw [if_neg (by omega)]
theorem fits_state {d : Disk} {step : Int} (h0 : 0 ≤ step) (h1 : step ≤ 99999) {b : By} (hroom : sectors b.length + used d.files ≤ d.room) : Fits nState (Go.Lib.itoa step) b d :=
  ⟨by decide, may_state h0 h1, (dig_5 h0 h1).2, hroom⟩
theorem keep_put {step : Int} {vals : List Nat} {live : List Bool} (h0 : 0 ≤ step) (hl : vals.length = live.length) (hn : vals.length ≤ 1048576) (d : Disk) : Cm.keep step vals live d = Cm.put nState (Go.Lib.itoa step) (senc step vals live).1 d := by
  unfold Cm.keep; rw [if_neg (by rw [senc_0 h0 hl hn]; decide)]
theorem keep_q {d : Disk} (h : Q d) {step : Int} {vals : List Nat} {live : List Bool} (h0 : 0 ≤ step) (h1 : step ≤ 99999) (hl : vals.length = live.length) (hn : vals.length ≤ 1048576) (hroom : sectors (senc step vals live).1.length + used d.files ≤ d.room) :
    ∃ d', Cm.keep step vals live d = (d', 0) ∧ Af d d' (fun n => if n = nState ++ Go.Lib.itoa step then some ⟨(senc step vals live).1, (senc step vals live).1⟩ else if n = nState ++ nNew then none else fget d.files n) := by
  rw [keep_put h0 hl hn]; exact put_q h (fits_state h0 h1 hroom)
theorem sdec_keep {step : Int} {vals : List Nat} {live : List Bool} (h0 : 0 ≤ step) (h1 : step ≤ 99999) (hl : vals.length = live.length) (hn : vals.length ≤ 1048576) (h64 : ∀ x ∈ vals, x < 18446744073709551616) : sdec (senc step vals live).1 = (step, (vals, live), 0) := by
  obtain ⟨k, rfl⟩ := Int.eq_ofNat_of_zero_le h0
  exact sdec_senc (by omega) hl hn h64
/-- few vertices: few bytes -/
theorem senc_60 {step : Int} {vals : List Nat} {live : List Bool} (hn : vals.length ≤ 60) : (senc step vals live).1.length ≤ 568 := by
  unfold senc; split
  · simp
  · have hz : (vals.zip live).length ≤ 60 := by rw [List.length_zip]; omega
    generalize vals.zip live = z at hz
    show (joined (stexts step.toNat z)).length ≤ 568
    have hc : chunks z.length z = if z = [] then [] else [z] := by
      cases z with
      | nil => rfl
      | cons x r =>
        rw [if_neg (List.cons_ne_nil _ _), List.length_cons, chunks, if_neg (List.cons_ne_nil _ _), List.take_of_length_le (by simp at hz ⊢; omega), List.drop_eq_nil_of_le (by simp at hz ⊢; omega)]
        cases r.length <;> simp [chunks]
    have h1 : (le 8 step.toNat ++ le 8 z.length).length ≤ 1000 := by simp [le_len]
    have h2 : (vtext z).length ≤ 1000 := by rw [vtext_len]; omega
    unfold stexts
    rw [hc]
    split
    · simp only [List.map_nil, joined, List.length_append, enc_len h1, le_len, List.length_nil]; omega
    · simp only [List.map_cons, List.map_nil, joined, List.length_append, enc_len h1, enc_len h2, le_len, vtext_len, List.length_nil]; omega
end Go.Cg.Cl
