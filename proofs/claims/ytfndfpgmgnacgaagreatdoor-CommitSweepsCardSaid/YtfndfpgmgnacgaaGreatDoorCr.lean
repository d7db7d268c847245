/- Plain laws: how the statements' own cases go: bytes of slots, what is saved, a crash on the way. No condition. -/
import Derived.Test.YtfndfpgmgnacgaaGreatDoorCq
namespace Go.Cg.Cl
set_option linter.unusedVariables false
set_option linter.unusedSimpArgs false
open Go.Cg.Dk Go.Cg.Oc Go.Cg.Cm

/-- a manifest that is right, from any -/
def right (m : Mf) (q : Nat) : Mf := if 0 ≤ m.step then ⟨q, m.n % 65536 % 50, 1 + m.shards % 65536 % 9, m.step % 65536, 2 + 2 * (m.kind % 2), 0⟩ else ⟨q, m.n % 65536 % 50, 1 + m.shards % 65536 % 9, -1, 0, 0⟩
theorem right_ok (m : Mf) {q : Nat} (hq : q ≠ 0) : mright (right m q) = true := by
  unfold right
  have h1 : 0 ≤ m.n % 65536 % 50 ∧ m.n % 65536 % 50 < 50 := by omega
  have h2 : 0 ≤ m.shards % 65536 % 9 ∧ m.shards % 65536 % 9 < 9 := by omega
  have h3 : 0 ≤ m.step % 65536 ∧ m.step % 65536 < 65536 := by omega
  have h4 : 0 ≤ m.kind % 2 ∧ m.kind % 2 < 2 := by omega
  have hp : Oc.part (m.n % 65536 % 50) (1 + m.shards % 65536 % 9) = true := decide_eq_true ⟨by omega, by omega, by omega, by omega⟩
  split
  · unfold mright
    rw [hp, if_neg (by show ¬ m.step % 65536 = -1; omega)]
    simp only [Bool.true_and, Bool.and_eq_true, decide_eq_true_eq, Tr.right]
    refine ⟨⟨hq, by omega⟩, h3.1, by omega, by omega, by omega, by omega, by omega⟩
  · unfold mright
    rw [hp, if_pos rfl]
    simp only [Bool.true_and, Bool.and_eq_true, decide_eq_true_eq]
    exact ⟨⟨hq, by decide⟩, by simp⟩
theorem right_seq (m : Mf) (q : Nat) : (right m q).seq = q := by unfold right; split <;> rfl
theorem right_start (m : Mf) (q : Nat) : (right m q).start < 4294967296 := by unfold right; split <;> (show 0 < 4294967296; decide)
/-! ### bytes that slots have -/
theorem bytes_plan (a b : By) (ha : a.length ≤ 200) (hb : b.length ≤ 200) : ∃ d1 d2 d3 d4 d5, (fresh 100).create [115, 108, 111, 116, 46, 48] = (d1, 0) ∧ d1.append [115, 108, 111, 116, 46, 48] a = (d2, 0) ∧ d2.create [115, 108, 111, 116, 46, 49] = (d3, 0) ∧ d3.append [115, 108, 111, 116, 46, 49] b = (d4, 0) ∧
    Cm.load d4 = (d5, (Oc.choose a b).1, (Oc.choose a b).2.2, 0) ∧ (d1.files.length ≤ 20 ∧ d2.files.length ≤ 20 ∧ d3.files.length ≤ 20 ∧ d4.files.length ≤ 20) := by
  have q0 : Q (fresh 100) := fresh_q (by decide)
  rw [← slot_0, ← slot_1]
  have s200 : ∀ x : By, x.length ≤ 200 → sectors x.length ≤ 13 := fun x h => by unfold sectors; omega
  have ha' := s200 a ha
  have hb' := s200 b hb
  obtain ⟨d1, h1, A1⟩ := create_q q0 (n := slotN 0) (by rw [slot_0]; decide) rfl
  have G1 : ∀ n, fget d1.files n = if n = slotN 0 then some ⟨[], []⟩ else none := fun n => by rw [A1.get]; rfl
  have u1 := used_names A1.q.ok.ris [slotN 0] 0 fun n f hf => by
    rw [G1] at hf
    split at hf
    · rename_i hn; cases hf; exact ⟨by simp [hn], Nat.le_refl _⟩
    · cases hf
  obtain ⟨d2, h2, A2⟩ := append_q A1.q (n := slotN 0) (f := ⟨[], []⟩) a (by rw [G1, if_pos rfl]) (by have := u1.1; rw [A1.room]; show used d1.files + sectors (0 + a.length) ≤ 100; rw [Nat.zero_add]; simp [sectors] at this ⊢; unfold sectors at ha'; omega)
  have G2 : ∀ n, fget d2.files n = if n = slotN 0 then some ⟨a, []⟩ else none := fun n => by rw [A2.get, G1]; split <;> rfl
  have u2 := used_names A2.q.ok.ris [slotN 0] 200 fun n f hf => by
    rw [G2] at hf
    split at hf
    · rename_i hn; cases hf; exact ⟨by simp [hn], ha⟩
    · cases hf
  obtain ⟨d3, h3, A3⟩ := create_q A2.q (n := slotN 1) (by rw [slot_1]; decide) (by rw [G2, if_neg slot_ne.symm])
  have G3 : ∀ n, fget d3.files n = if n = slotN 1 then some ⟨[], []⟩ else if n = slotN 0 then some ⟨a, []⟩ else none := fun n => by rw [A3.get, G2]
  have u3 := used_names A3.q.ok.ris [slotN 0, slotN 1] 200 fun n f hf => by
    rw [G3] at hf
    split at hf
    · rename_i hn; cases hf; exact ⟨by simp [hn], Nat.zero_le _⟩
    · split at hf
      · rename_i hn; cases hf; exact ⟨by simp [hn], ha⟩
      · cases hf
  obtain ⟨d4, h4, A4⟩ := append_q A3.q (n := slotN 1) (f := ⟨[], []⟩) b (by rw [G3, if_pos rfl]) (by have := u3.1; rw [A3.room, A2.room, A1.room]; show used d3.files + sectors (0 + b.length) ≤ 100; rw [Nat.zero_add]; simp [sectors] at this ⊢; unfold sectors at hb'; omega)
  obtain ⟨o5, h5⟩ := load_q A4.q
  have c0 : cont d4 (slotN 0) = a := cont_some (f := ⟨a, []⟩) (by rw [A4.get, if_neg slot_ne, G3, if_neg slot_ne, if_pos rfl])
  have c1 : cont d4 (slotN 1) = b := cont_some (f := ⟨b, []⟩) (by rw [A4.get, if_pos rfl]; rfl)
  rw [c0, c1] at h5
  have n1 := A1.cnt
  have n2 := A2.cnt
  have n3 := A3.cnt
  have n4 := A4.cnt
  have n0 : (fresh 100).files.length = 0 := rfl
  exact ⟨d1, d2, d3, d4, _, h1, h2, h3, h4, h5, by omega, by omega, by omega, by omega⟩
/-! ### what was saved last -/
structure Sv (i : Nat) (D : Disk) : Prop where
  q : Q D
  room : D.room = 1000
  fs : ∀ n f, fget D.files n = some f → (n = slotN 0 ∨ n = slotN 1) ∧ f.now = f.syn ∧ ∃ m, mright m = true ∧ m.seq ≤ i ∧ m.start < 4294967296 ∧ f.now = (menc m).1
theorem Sv.used {i : Nat} {D : Disk} (h : Sv i D) : used D.files ≤ 8 ∧ D.files.length ≤ 2 := by
  have := used_names h.q.ok.ris [slotN 0, slotN 1] 54 fun n f hf => by
    obtain ⟨h1, _, m, hm, _, _, e⟩ := h.fs n f hf
    exact ⟨by simpa using h1, by rw [e, menc_len hm]; exact Nat.le_refl _⟩
  exact this
theorem Sv.clean {i : Nat} {D : Disk} (h : Sv i D) : Clean D.files := fun n f hf => (h.fs n f hf).2.1
theorem sv_0 : Sv 0 (fresh 1000) := ⟨fresh_q (by decide), rfl, fun n f h => by cases h⟩
theorem sv_load {i : Nat} {D : Disk} (hi : i < 1000) {m : Mf} (hm : mright m = true) (hs : m.seq = i + 1) (hst : m.start < 4294967296) (hq : Q D) (h1 : fget D.files (slotN (m.seq % 2)) = some ⟨(menc m).1, (menc m).1⟩)
    (h2 : ∀ f, fget D.files (slotN ((m.seq + 1) % 2)) = some f → ∃ m', mright m' = true ∧ m'.seq ≤ i ∧ m'.start < 4294967296 ∧ f.now = (menc m').1) : ∃ o, Cm.load D = (dk D o 0 D.files, m, true, 0) := by
  obtain ⟨o, h⟩ := load_q hq
  refine ⟨o, ?_⟩
  rw [h]
  have key : (Oc.choose (cont D (slotN 0)) (cont D (slotN 1))).1 = m ∧ (Oc.choose (cont D (slotN 0)) (cont D (slotN 1))).2.2 = true := by
    rcases Nat.mod_two_eq_zero_or_one m.seq with hp | hp
    · have hp2 : (m.seq + 1) % 2 = 1 := by omega
      rw [hp] at h1; rw [hp2] at h2
      rw [cont_some h1]
      cases hf : fget D.files (slotN 1) with
      | none => rw [cont_none hf, choose_l hm (by omega) hst]; exact ⟨rfl, rfl⟩
      | some f =>
        obtain ⟨m', a1, a2, a3, a4⟩ := h2 f hf
        rw [cont_some hf, a4, choose_2 hm (by omega) hst a1 (by omega) a3, if_neg (by omega)]; exact ⟨rfl, rfl⟩
    · have hp2 : (m.seq + 1) % 2 = 0 := by omega
      rw [hp] at h1; rw [hp2] at h2
      rw [cont_some h1]
      cases hf : fget D.files (slotN 0) with
      | none => rw [cont_none hf, choose_r hm (by omega) hst]; exact ⟨rfl, rfl⟩
      | some f =>
        obtain ⟨m', a1, a2, a3, a4⟩ := h2 f hf
        rw [cont_some hf, a4, choose_2 a1 (by omega) a3 hm (by omega) hst, if_pos (by omega)]; exact ⟨rfl, rfl⟩
  rw [key.1, key.2]
theorem saves_step {i : Nat} {D : Disk} (h : Sv i D) (hi : i < 1000) {m : Mf} (hm : mright m = true) (hs : m.seq = i + 1) (hst : m.start < 4294967296) (k : List Bool) :
    ∃ d1 d2 d4, Cm.save m D = (d1, 0) ∧ Cm.load d1 = (d2, m, true, 0) ∧ Cm.load (d2.crash k).restart = (d4, m, true, 0) ∧ Sv (i + 1) d4 ∧ D.files.length ≤ 10 ∧ d1.files.length ≤ 10 ∧ d2.files.length ≤ 10 ∧ (d2.crash k).restart.files.length ≤ 10 := by
  have hu := h.used
  obtain ⟨d1, h1, A1⟩ := save_q h.q hm (by rw [h.room]; omega)
  have hlt : m.seq % 2 < 2 := Nat.mod_lt _ (by omega)
  have hne : slotN ((m.seq + 1) % 2) ≠ slotN (m.seq % 2) := by
    rcases Nat.mod_two_eq_zero_or_one m.seq with hp | hp
    · rw [hp, show (m.seq + 1) % 2 = 1 from by omega]; exact slot_ne.symm
    · rw [hp, show (m.seq + 1) % 2 = 0 from by omega]; exact slot_ne
  have S1 : Sv (i + 1) d1 := ⟨A1.q, by rw [A1.room, h.room], fun n f hf => by
    rw [A1.get] at hf
    split at hf
    · rename_i hn
      cases hf
      refine ⟨?_, rfl, m, hm, by omega, hst, rfl⟩
      rcases Nat.mod_two_eq_zero_or_one m.seq with hp | hp <;> rw [hp] at hn
      · exact .inl hn
      · exact .inr hn
    · split at hf
      · cases hf
      · obtain ⟨a1, a2, m', a3, a4, a5, a6⟩ := h.fs n f hf
        exact ⟨a1, a2, m', a3, by omega, a5, a6⟩⟩
  have g1 : fget d1.files (slotN (m.seq % 2)) = some ⟨(menc m).1, (menc m).1⟩ := by rw [A1.get, if_pos rfl]
  have g2 : ∀ f, fget d1.files (slotN ((m.seq + 1) % 2)) = some f → ∃ m', mright m' = true ∧ m'.seq ≤ i ∧ m'.start < 4294967296 ∧ f.now = (menc m').1 := fun f hf => by
    rw [A1.get, if_neg hne, if_neg (slot_nw (Nat.mod_lt _ (by omega)))] at hf
    obtain ⟨_, _, m', a3, a4, a5, a6⟩ := h.fs _ f hf
    exact ⟨m', a3, a4, a5, a6⟩
  obtain ⟨o2, h2⟩ := sv_load hi hm hs hst A1.q g1 g2
  have q2 := A1.q.same o2
  have A3 := crash_q q2 (show Clean (dk d1 o2 0 d1.files).files from S1.clean) k
  obtain ⟨o4, h4⟩ := sv_load hi hm hs hst A3.q (by rw [A3.get]; exact g1) (fun f hf => by rw [A3.get] at hf; exact g2 f hf)
  have S4 : Sv (i + 1) (dk ((dk d1 o2 0 d1.files).crash k).restart o4 0 ((dk d1 o2 0 d1.files).crash k).restart.files) := ⟨A3.q.same o4, by show ((dk d1 o2 0 d1.files).crash k).restart.room = 1000; rw [A3.room]; exact S1.room, fun n f hf => by
    have hf' : fget ((dk d1 o2 0 d1.files).crash k).restart.files n = some f := hf
    rw [A3.get] at hf'
    exact S1.fs n f hf'⟩
  have hu1 := S1.used
  have hu4 := S4.used
  exact ⟨d1, _, _, h1, h2, h4, S4, by omega, by omega, by show d1.files.length ≤ 10; omega, by have h9 := hu4.2; show ((dk d1 o2 0 d1.files).crash k).restart.files.length ≤ 10; exact Nat.le_trans h9 (by omega)⟩
/-! ### a crash on the way -/
theorem stays_no (m : Mf) (is : Bool) : stays (nSlot ++ nNew) m is = false := by
  unfold stays
  rw [if_neg (by rintro (h | h); (exact slot_nw (i := 0) (by omega) h.symm); (exact slot_nw (i := 1) (by omega) h.symm)), if_neg (by rintro ⟨h, _⟩; revert h; decide), Bool.and_eq_false_iff]
  right
  rw [List.any_eq_false]
  intro k _ h
  rw [decide_eq_true_eq] at h
  have := congrArg (fun l : Nm => l.getD 1 0) h
  simp [nSlot, nNew, nShard] at this
theorem crash_plan (x y : Mf) (hx : mright x = true) (hx4 : x.seq = 4) (hxs : x.start < 4294967296) (hy : mright y = true) (hy5 : y.seq = 5) (hys : y.start < 4294967296) (at_ : Int) (h1 : 1 ≤ at_) (h2 : at_ ≤ 12) (k : List Bool) :
    ∃ d1 d2 eE zZ d4 d5 d6 d7 l, Cm.save x (fresh 1000) = (d1, 0) ∧ Cm.save y (d1.arm at_ k) = (d2, eE) ∧ Cm.load ((d2.arm 0 []).crash k).restart = (d4, zZ, true, 0) ∧ Cm.sweep d4 = (d5, 0) ∧ Cm.load d5 = (d6, zZ, true, 0) ∧ d6.list = (d7, l, 0) ∧ l.length ≤ 2 ∧ ((eE = 0 ∧ zZ = y) ∨ (eE = 7 ∧ zZ = x)) ∧
    (d1.files.length ≤ 10 ∧ (d1.arm at_ k).files.length ≤ 10 ∧ (d2.arm 0 []).files.length ≤ 10 ∧ ((d2.arm 0 []).crash k).restart.files.length ≤ 10 ∧ d4.files.length ≤ 10 ∧ d5.files.length ≤ 10 ∧ d6.files.length ≤ 10) := by
  have q0 : Q (fresh 1000) := fresh_q (by decide)
  obtain ⟨d1, e1, A1⟩ := save_q q0 hx (by show 4 + 0 ≤ 1000; omega)
  rw [show x.seq % 2 = 0 from by omega] at A1
  obtain ⟨X, hX⟩ : ∃ X, X = (menc x).1 := ⟨_, rfl⟩
  rw [← hX] at A1
  have hXl : X.length = 54 := by rw [hX]; exact menc_len hx
  have G1 : ∀ n, fget d1.files n = if n = slotN 0 then some ⟨X, X⟩ else none := fun n => by
    rw [A1.get]; split; (rfl); split <;> rfl
  have hc : Clean d1.files := fun n f hf => by rw [G1] at hf; split at hf; (cases hf; rfl); (cases hf)
  have u1 := used_names A1.q.ok.ris [slotN 0] 54 fun n f hf => by
    rw [G1] at hf
    split at hf
    · rename_i hn; cases hf; exact ⟨by simp [hn], by rw [hXl]; exact Nat.le_refl _⟩
    · cases hf
  have hfit := fits_slot (d := d1) hy (by have := u1.1; rw [A1.room]; show 4 + used d1.files ≤ 1000; simp [sectors] at this; omega)
  obtain ⟨d2, eE, e2, g, A3, hg⟩ := crash_put A1.q hc hfit at_ h1 (by omega) k k
  rw [← save_put hy] at e2
  have hcnt2 : d2.files.length ≤ (d1.arm at_ k).files.length + 1 := by
    have := put_cnt (d1.arm at_ k) nSlot (itoa (y.seq % 2)) (menc y).1
    rw [← save_put hy, e2] at this; exact this
  rw [show y.seq % 2 = 1 from by omega] at hg
  obtain ⟨Y, hY⟩ : ∃ Y, Y = (menc y).1 := ⟨_, rfl⟩
  rw [← hY] at hg
  obtain ⟨zZ, hz, hload, hnames⟩ : ∃ zZ, ((eE = 0 ∧ zZ = y) ∨ (eE = 7 ∧ zZ = x)) ∧ Oc.choose (cont ((d2.arm 0 []).crash k).restart (slotN 0)) (cont ((d2.arm 0 []).crash k).restart (slotN 1)) = (zZ, (Oc.choose (cont ((d2.arm 0 []).crash k).restart (slotN 0)) (cont ((d2.arm 0 []).crash k).restart (slotN 1))).2.1, true) ∧
      ∀ n, (g n).isSome = true → n = slotN 0 ∨ n = slotN 1 ∨ n = nSlot ++ nNew := by
    have s01 : slotN 0 ≠ nSlot ++ itoa 1 := slot_ne
    rcases hg with ⟨he, hg⟩ | ⟨he, hg⟩
    · refine ⟨y, .inl ⟨he, rfl⟩, ?_, fun n hn => ?_⟩
      · rw [cont_some (f := ⟨X, X⟩) (by rw [A3.get, hg, if_neg s01, if_neg (slot_nw (by omega)), G1, if_pos rfl]), cont_some (n := slotN 1) (f := ⟨Y, Y⟩) (by rw [A3.get, hg]; exact if_pos rfl), hX, hY, choose_2 hx (by omega) hxs hy (by omega) hys, if_pos (by omega)]
      · rw [hg] at hn
        split at hn
        · rename_i h; exact .inr (.inl h)
        · split at hn
          · cases hn
          · rw [G1] at hn
            split at hn
            · rename_i h; exact .inl h
            · cases hn
    · refine ⟨x, .inr ⟨he, rfl⟩, ?_, fun n hn => ?_⟩
      · rw [cont_some (f := ⟨X, X⟩) (by rw [A3.get, hg _ (slot_nw (by omega)), G1, if_pos rfl]), cont_none (n := slotN 1) (by rw [A3.get, hg _ (slot_nw (by omega)), G1, if_neg slot_ne.symm]), hX, choose_l hx (by omega) hxs]
      · by_cases h : n = nSlot ++ nNew
        · exact .inr (.inr h)
        · rw [hg n h, G1] at hn
          split at hn
          · rename_i h; exact .inl h
          · cases hn
  obtain ⟨D3, hD3⟩ : ∃ D3, D3 = ((d2.arm 0 []).crash k).restart := ⟨_, rfl⟩
  rw [← hD3] at A3 hload
  obtain ⟨o4, e4⟩ := load_q A3.q
  rw [hload] at e4
  have q4 := A3.q.same o4
  obtain ⟨d4, hd4⟩ : ∃ d4, d4 = dk D3 o4 0 D3.files := ⟨_, rfl⟩
  have f4 : d4.files = D3.files := by rw [hd4]; rfl
  rw [← hd4] at e4 q4
  have c4 : ∀ n, cont d4 n = cont D3 n := fun n => by unfold cont; rw [f4]
  obtain ⟨d5, e5, A5⟩ := sweep_q q4 (m := zZ) (is := true) (by rw [c4, c4, hload]) (by rw [c4, c4, hload])
  have c5 : ∀ i, i < 2 → cont d5 (slotN i) = cont D3 (slotN i) := fun i hi => by unfold cont; rw [A5.get, if_pos (stays_slot hi _ _), f4]
  obtain ⟨o6, e6⟩ := load_q A5.q
  rw [c5 0 (by omega), c5 1 (by omega), hload] at e6
  have q6 := A5.q.same o6
  obtain ⟨d6, hd6⟩ : ∃ d6, d6 = dk d5 o6 0 d5.files := ⟨_, rfl⟩
  have f6 : d6.files = d5.files := by rw [hd6]; rfl
  rw [← hd6] at e6 q6
  obtain ⟨o7, e7⟩ := list_q q6
  have hl2 : (d6.files.map (·.1)).length ≤ 2 := by
    have := len_names (nodup_names q6.ok.ris) (ns := [slotN 0, slotN 1]) fun n hn => by
      have h3 := mem_names.1 hn
      rw [f6, A5.get] at h3
      split at h3
      · rename_i hst
        rw [f4, A3.get] at h3
        rcases hnames n h3 with h | h | h
        · simp [h]
        · simp [h]
        · rw [h, stays_no] at hst; cases hst
      · cases h3
    exact this
  have n1 := A1.cnt
  have n0 : (fresh 1000).files.length = 0 := rfl
  have n3 := A3.cnt
  have n5 := A5.cnt
  have nA : (d1.arm at_ k).files.length = d1.files.length := rfl
  have nB : (d2.arm 0 []).files.length = d2.files.length := rfl
  exact ⟨d1, d2, eE, zZ, d4, d5, d6, _, _, e1, e2, by rw [← hD3]; exact e4, e5, e6, e7, hl2, hz, by omega, by omega, by omega, by rw [← hD3]; omega, by rw [f4]; omega, by rw [f4] at n5; omega, by rw [f6]; rw [f4] at n5; omega⟩
end Go.Cg.Cl
