/- Plain laws: how the set's own small case goes. No condition. -/
import Derived.Test.YtfndfpgmgnacgaaGreatDoorCp
namespace Go.Cg.Cl
set_option linter.unusedVariables false
set_option linter.unusedSimpArgs false
open Go.Cg.Dk Go.Cg.Oc Go.Cg.Cm

theorem fresh_q {r : Int} (h : r ≤ 1099511627776) : Q (fresh r) := ⟨fresh_ok h, rfl, rfl⟩
def ms : Mf := ⟨3, 1, 1, 0, 5, 0⟩
def nGarb : Nm := [103, 97, 114, 98, 97, 103, 101]
theorem garb_ne : nGarb ≠ slotN 1 ∧ nGarb ≠ slotN 0 ∧ nGarb ≠ nState ++ Go.Lib.itoa 0 ∧ nGarb ≠ nSlot ++ nNew ∧ nGarb ≠ nState ++ nNew := by
  rw [slot_0, slot_1, show Go.Lib.itoa 0 = [48] from itoa_0]; decide
theorem ms_ok : mright ms = true := by decide
theorem stays_slot {i : Nat} (h : i < 2) (m : Mf) (is : Bool) : stays (slotN i) m is = true := by
  unfold stays
  match i, h with
  | 0, _ => rw [if_pos (.inl rfl)]
  | 1, _ => rw [if_pos (.inr rfl)]
theorem stays_step (m : Mf) (k : Nat) (h : (k : Int) ≤ m.step) : stays (nState ++ itoa k) m true = true := by
  unfold stays
  rw [if_neg (by rintro (h | h) <;> exact state_slotN _ _ h), if_pos ⟨by simp, rfl⟩, List.any_eq_true]
  exact ⟨k, List.mem_range.2 (by omega), by simp [nState]⟩
theorem shown_plan : ∃ d1 d2 d3 d4 d5 d6 d7 d8 d9 d10 l, Cm.load (fresh 1000) = (d1, mf0, false, 0) ∧ Cm.keep 0 [9] [false] d1 = (d2, 0) ∧ Cm.save ms d2 = (d3, 0) ∧ Cm.load d3 = (d4, ms, true, 0) ∧ Cm.state 0 d4 = (d5, ([9], [false]), 0) ∧ Cm.state 1 d5 = (d6, ([], []), 4) ∧ d6.create nGarb = (d7, 0) ∧
    Cm.sweep d7 = (d8, 0) ∧ d8.list = (d9, l, 0) ∧ l.length = 2 ∧ d9.size (slotN 1) = (d10, 54, 0) ∧
    (d1.files.length ≤ 20 ∧ d2.files.length ≤ 20 ∧ d3.files.length ≤ 20 ∧ d4.files.length ≤ 20 ∧ d5.files.length ≤ 20 ∧ d6.files.length ≤ 20 ∧ d7.files.length ≤ 20 ∧ d8.files.length ≤ 20 ∧ d9.files.length ≤ 20) ∧
    (Cm.read (nState ++ Go.Lib.itoa 0) d4).2.1.length ≤ 4398046511104 ∧ (Cm.read (nState ++ Go.Lib.itoa 1) d5).2.1.length ≤ 4398046511104 := by
  have q0 : Q (fresh 1000) := fresh_q (by decide)
  obtain ⟨o1, h1⟩ := load_q q0
  rw [cont_none (d := fresh 1000) rfl, cont_none (d := fresh 1000) rfl, choose_0] at h1
  have q1 := q0.same o1
  obtain ⟨d1, hd1⟩ : ∃ x, x = dk (fresh 1000) o1 0 (fresh 1000).files := ⟨_, rfl⟩
  have f1 : d1.files = [] := by rw [hd1]; rfl
  have r1 : d1.room = 1000 := by rw [hd1]; rfl
  rw [← hd1] at h1 q1
  have hs := senc_60 (step := 0) (vals := [9]) (live := [false]) (by decide)
  obtain ⟨s, hs0⟩ : ∃ s, s = (senc 0 [9] [false]).1 := ⟨_, rfl⟩
  have hse : sectors s.length ≤ 36 := by unfold sectors; rw [hs0]; omega
  obtain ⟨d2, h2, A2⟩ := keep_q q1 (step := 0) (vals := [9]) (live := [false]) (by decide) (by decide) rfl (by decide) (by rw [f1, r1, ← hs0, used_nil]; omega)
  rw [← hs0] at A2
  obtain ⟨e, he⟩ : ∃ e, e = (menc ms).1 := ⟨_, rfl⟩
  have hel : e.length = 54 := by rw [he]; exact menc_len ms_ok
  have u2 := used_names A2.q.ok.ris [nState ++ Go.Lib.itoa 0] 568 fun n f hf => by
    rw [A2.get, f1] at hf
    split at hf
    · rename_i hn; cases hf; exact ⟨by simp [hn], by rw [hs0]; exact hs⟩
    · split at hf <;> cases hf
  obtain ⟨d3, h3, A3⟩ := save_q A2.q ms_ok (by have := u2.1; rw [A2.room, r1]; simp [sectors] at this ⊢; omega)
  rw [← he] at A3
  have hm2 : ms.seq % 2 = 1 := rfl
  rw [hm2] at A3
  have c0 : cont d3 (slotN 0) = [] := cont_none (by rw [A3.get, if_neg slot_ne, if_neg (slot_nw (by omega)), A2.get, if_neg (fun h => state_slotN _ _ h.symm), if_neg (fun h => state_slotN _ _ h.symm), f1]; rfl)
  have c1 : cont d3 (slotN 1) = e := cont_some (f := ⟨e, e⟩) (by rw [A3.get, if_pos rfl])
  obtain ⟨o4, h4⟩ := load_q A3.q
  rw [c0, c1, he, choose_r ms_ok (by decide) (by decide)] at h4
  have q4 := A3.q.same o4
  obtain ⟨d4, hd4⟩ : ∃ x, x = dk d3 o4 0 d3.files := ⟨_, rfl⟩
  have f4 : d4.files = d3.files := by rw [hd4]; rfl
  rw [← hd4] at h4 q4
  have g4 : fget d4.files (nState ++ Go.Lib.itoa 0) = some ⟨s, s⟩ := by rw [f4, A3.get, if_neg (state_slotN _ _), if_neg (state_slot _ _), A2.get, if_pos rfl]
  obtain ⟨o5, h5⟩ := state_q q4 (step := 0) (c := ([9], [false])) g4 (by rw [hs0]; exact sdec_keep (by decide) (by decide) rfl (by decide) (by decide))
  have q5 := q4.same o5
  obtain ⟨d5, hd5⟩ : ∃ x, x = dk d4 o5 0 d4.files := ⟨_, rfl⟩
  have f5 : d5.files = d3.files := by rw [hd5]; exact f4
  rw [← hd5] at h5 q5
  have i01 : nState ++ Go.Lib.itoa 1 ≠ nState ++ Go.Lib.itoa 0 ∧ nState ++ Go.Lib.itoa 1 ≠ nState ++ nNew := by rw [show Go.Lib.itoa 1 = [49] from itoa_1, show Go.Lib.itoa 0 = [48] from itoa_0]; decide
  have g5 : fget d5.files (nState ++ Go.Lib.itoa 1) = none := by rw [f5, A3.get, if_neg (state_slotN _ _), if_neg (state_slot _ _), A2.get, if_neg i01.1, if_neg i01.2, f1]; rfl
  obtain ⟨o6, h6⟩ := state_none q5 (step := 1) g5
  have q6 := q5.same o6
  obtain ⟨d6, hd6⟩ : ∃ x, x = dk d5 o6 0 d5.files := ⟨_, rfl⟩
  have f6 : d6.files = d3.files := by rw [hd6]; exact f5
  rw [← hd6] at h6 q6
  obtain ⟨gn1, gn0, gn2, gn3, gn4⟩ := garb_ne
  have g6 : fget d6.files nGarb = none := by rw [f6, A3.get, if_neg gn1, if_neg gn3, A2.get, if_neg gn2, if_neg gn4, f1]; rfl
  obtain ⟨d7, h7, A7⟩ := create_q q6 (n := nGarb) (by decide) g6
  have G7 : ∀ n, fget d7.files n = if n = nGarb then some ⟨[], []⟩ else if n = slotN 1 then some ⟨e, e⟩ else if n = nSlot ++ nNew then none else if n = nState ++ Go.Lib.itoa 0 then some ⟨s, s⟩ else none := fun n => by
    rw [A7.get, f6, A3.get, A2.get, f1]
    split; (rfl); split; (rfl); split; (rfl); split; (rfl); split <;> rfl
  have c70 : cont d7 (slotN 0) = [] := cont_none (by rw [G7, if_neg gn0.symm, if_neg slot_ne, if_neg (slot_nw (by omega)), if_neg (fun h => state_slotN _ _ h.symm)])
  have c71 : cont d7 (slotN 1) = e := cont_some (f := ⟨e, e⟩) (by rw [G7, if_neg gn1.symm, if_pos rfl])
  obtain ⟨d8, h8, A8⟩ := sweep_q A7.q (m := ms) (is := true) (by rw [c70, c71, he, choose_r ms_ok (by decide) (by decide)]) (by rw [c70, c71, he, choose_r ms_ok (by decide) (by decide)])
  have sg : stays nGarb ms true = false := by
    unfold stays
    rw [slot_0, slot_1]; decide
  have ss : stays (nState ++ Go.Lib.itoa 0) ms true = true := stays_step ms 0 (by decide)
  have G8 : ∀ n, (fget d8.files n).isSome = true ↔ n ∈ [slotN 1, nState ++ Go.Lib.itoa 0] := fun n => by
    rw [A8.get, G7]
    simp only [List.mem_cons, List.not_mem_nil, or_false]
    constructor
    · intro h
      split at h
      · split at h
        · rename_i hst hn; rw [hn, sg] at hst; cases hst
        · split at h
          · rename_i hn; exact .inl hn
          · split at h
            · cases h
            · split at h
              · rename_i hn; exact .inr hn
              · cases h
      · cases h
    · rintro (rfl | rfl)
      · rw [if_pos (stays_slot (by omega) _ _), if_neg gn1.symm, if_pos rfl]; rfl
      · rw [if_pos ss, if_neg gn2.symm, if_neg (state_slotN _ _), if_neg (state_slot _ _), if_pos rfl]; rfl
  obtain ⟨o9, h9⟩ := list_q A8.q
  have hll : (d8.files.map (·.1)).length = 2 := by
    have a1 := len_names (nodup_names A8.q.ok.ris) (ns := [slotN 1, nState ++ Go.Lib.itoa 0]) fun x hx => (G8 x).1 (mem_names.1 hx)
    have a2 := len_names (l := [slotN 1, nState ++ Go.Lib.itoa 0]) (ns := d8.files.map (·.1)) (by rw [List.nodup_cons]; exact ⟨by simp only [List.mem_cons, List.not_mem_nil, or_false]; exact fun h => state_slotN _ _ h.symm, List.nodup_cons.2 ⟨List.not_mem_nil, List.nodup_nil⟩⟩) fun x hx => mem_names.2 ((G8 x).2 hx)
    simp at a1 a2 ⊢; omega
  have q9 := A8.q.same o9
  obtain ⟨d9, hd9⟩ : ∃ x, x = dk d8 o9 0 d8.files := ⟨_, rfl⟩
  have f9 : d9.files = d8.files := by rw [hd9]; rfl
  rw [← hd9] at h9 q9
  obtain ⟨o10, h10⟩ := size_q q9 (n := slotN 1) (f := ⟨e, e⟩) (by rw [f9, A8.get, if_pos (stays_slot (by omega) _ _), G7, if_neg gn1.symm, if_pos rfl])
  rw [show (⟨e, e⟩ : Fl).now = e from rfl, hel] at h10
  have n1 : d1.files.length = 0 := by rw [f1]; rfl
  have n2 := A2.cnt
  have n3 := A3.cnt
  have n7 := A7.cnt
  have n8 := A8.cnt
  refine ⟨d1, d2, d3, d4, d5, d6, d7, d8, d9, _, _, h1, h2, h3, h4, h5, h6, h7, h8, h9, hll, h10, ⟨by omega, by omega, by omega, by rw [f4]; omega, by rw [f5]; omega, by rw [f6]; omega, by rw [f6] at n7; omega, by rw [f6] at n7; omega, by rw [f6] at n7; rw [f9]; omega⟩, ?_, ?_⟩
  · rw [read_len q4, cont_some g4, hs0]; show (senc 0 [9] [false]).1.length ≤ _; omega
  · rw [read_len q5, cont_none g5]; decide
end Go.Cg.Cl
