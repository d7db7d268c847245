/- Plain laws: a config that is kept, a crash on the way. No condition. -/
import Derived.Test.YtfndfpgmgnacgaaGreatDoorCr
namespace Go.Cg.Cl
set_option linter.unusedVariables false
set_option linter.unusedSimpArgs false
open Go.Cg.Dk Go.Cg.Oc Go.Cg.Cm

def digv (l : Nm) : Nat := l.foldl (fun a c => a * 10 + (c.toNat - 48)) 0
theorem digv_snoc (l : Nm) (c : UInt8) : digv (l ++ [c]) = digv l * 10 + (c.toNat - 48) := by simp [digv, List.foldl_append]
theorem digv_dec : ∀ (k u : Nat), u < 10 ^ (k + 1) → digv (Go.Lib.decDigits u) = u
  | 0, u, hu => by
    unfold Go.Lib.decDigits
    rw [dif_pos (by omega)]
    simp [digv]
    omega
  | k + 1, u, hu => by
    have ih := digv_dec k (u / 10) (by rw [Nat.pow_succ] at hu; omega)
    unfold Go.Lib.decDigits
    split
    · rename_i h; simp [digv]; omega
    · rw [digv_snoc, ih]
      simp
      omega
theorem itoa_inj {x y : Int} (h0 : 0 ≤ x) (h1 : x ≤ 99999) (h2 : 0 ≤ y) (h3 : y ≤ 99999) (h : Go.Lib.itoa x = Go.Lib.itoa y) : x = y := by
  obtain ⟨a, rfl⟩ := Int.eq_ofNat_of_zero_le h0
  obtain ⟨b, rfl⟩ := Int.eq_ofNat_of_zero_le h2
  rw [itoa_nn, itoa_nn] at h
  have := congrArg digv h
  rw [digv_dec 4 a (by omega), digv_dec 4 b (by omega)] at this
  omega
structure Cf (v : List Nat) (l : List Bool) : Prop where
  len : v.length = l.length
  few : v.length ≤ 60
  u64 : ∀ x ∈ v, x < 18446744073709551616
theorem keeps_plan {step : Int} (h0 : 0 ≤ step) (h1 : step ≤ 65535) {va vb : List Nat} {la lb : List Bool} (ha : Cf va la) (hb : Cf vb lb) (at_ : Int) (t1 : 1 ≤ at_) (t2 : at_ ≤ 12) (k : List Bool) :
    ∃ d1 d2 d3 d5 d6 eE vz lz, Cm.keep step va la (fresh 1000) = (d1, 0) ∧ Cm.state step d1 = (d2, (va, la), 0) ∧ Cm.keep step vb lb (d2.arm at_ k) = (d3, eE) ∧ Cm.state step ((d3.arm 0 []).crash k).restart = (d5, (vz, lz), 0) ∧ Cm.state (step + 1) d5 = (d6, ([], []), 4) ∧
    ((eE = 0 ∧ vz = vb ∧ lz = lb) ∨ (eE = 7 ∧ vz = va ∧ lz = la)) ∧ ((fresh 1000).files.length ≤ 10 ∧ d1.files.length ≤ 10 ∧ (d2.arm at_ k).files.length ≤ 10 ∧ (d3.arm 0 []).files.length ≤ 10 ∧ ((d3.arm 0 []).crash k).restart.files.length ≤ 10 ∧ d5.files.length ≤ 10) ∧
    ((Cm.read (nState ++ Go.Lib.itoa step) d1).2.1.length ≤ 4398046511104 ∧ (Cm.read (nState ++ Go.Lib.itoa step) ((d3.arm 0 []).crash k).restart).2.1.length ≤ 4398046511104 ∧ (Cm.read (nState ++ Go.Lib.itoa (step + 1)) d5).2.1.length ≤ 4398046511104) := by
  have q0 : Q (fresh 1000) := fresh_q (by decide)
  have la60 := senc_60 (step := step) (vals := va) (live := la) ha.few
  have lb60 := senc_60 (step := step) (vals := vb) (live := lb) hb.few
  have fa := ha.few
  have fb := hb.few
  obtain ⟨X, hX⟩ : ∃ X, X = (senc step va la).1 := ⟨_, rfl⟩
  obtain ⟨Y, hY⟩ : ∃ Y, Y = (senc step vb lb).1 := ⟨_, rfl⟩
  rw [← hX] at la60
  rw [← hY] at lb60
  have sX : sectors X.length ≤ 36 := by unfold sectors; omega
  have sY : sectors Y.length ≤ 36 := by unfold sectors; omega
  have dX : sdec X = (step, (va, la), 0) := by rw [hX]; exact sdec_keep h0 (by omega) ha.len (by omega) ha.u64
  have dY : sdec Y = (step, (vb, lb), 0) := by rw [hY]; exact sdec_keep h0 (by omega) hb.len (by omega) hb.u64
  obtain ⟨N, hN⟩ : ∃ N, N = nState ++ Go.Lib.itoa step := ⟨_, rfl⟩
  have hnew : N ≠ nState ++ nNew := by rw [hN]; intro e; exact (dig_5 h0 (by omega)).2 (List.append_cancel_left e).symm
  have hN1 : nState ++ Go.Lib.itoa (step + 1) ≠ N := by rw [hN]; intro e; have := itoa_inj (by omega) (by omega) h0 (by omega) (List.append_cancel_left e); omega
  have hnew1 : nState ++ Go.Lib.itoa (step + 1) ≠ nState ++ nNew := by intro e; exact (dig_5 (x := step + 1) (by omega) (by omega)).2 (List.append_cancel_left e).symm
  obtain ⟨d1, e1, A1⟩ := keep_q q0 h0 (by omega) ha.len (by omega) (by rw [← hX]; show sectors X.length + 0 ≤ 1000; omega)
  rw [← hX, ← hN] at A1
  have G1 : ∀ n, fget d1.files n = if n = N then some ⟨X, X⟩ else none := fun n => by
    rw [A1.get]; split; (rfl); split <;> rfl
  obtain ⟨o2, e2⟩ := state_q A1.q (step := step) (f := ⟨X, X⟩) (by rw [← hN, G1, if_pos rfl]) dX
  have q2 := A1.q.same o2
  obtain ⟨d2, hd2⟩ : ∃ d2, d2 = dk d1 o2 0 d1.files := ⟨_, rfl⟩
  have f2 : d2.files = d1.files := by rw [hd2]; rfl
  have r2 : d2.room = 1000 := by rw [hd2]; exact A1.room
  rw [← hd2] at e2 q2
  have hc : Clean d2.files := fun n f hf => by rw [f2, G1] at hf; split at hf; (cases hf; rfl); (cases hf)
  have u2 := used_names q2.ok.ris [N] 568 fun n f hf => by
    rw [f2, G1] at hf
    split at hf
    · rename_i hn; cases hf; exact ⟨by simp [hn], la60⟩
    · cases hf
  have hfit : Fits nState (Go.Lib.itoa step) (senc step vb lb).1 d2 := fits_state h0 (by omega) (by rw [← hY, r2]; have := u2.1; simp [sectors] at this sY ⊢; omega)
  obtain ⟨d3, eE, e3, g, A4, hg⟩ := crash_put q2 hc hfit at_ t1 (by omega) k k
  rw [← keep_put h0 hb.len (by omega)] at e3
  have hcnt3 : d3.files.length ≤ (d2.arm at_ k).files.length + 1 := by
    have := put_cnt (d2.arm at_ k) nState (Go.Lib.itoa step) (senc step vb lb).1
    rw [← keep_put h0 hb.len (by omega), e3] at this; exact this
  rw [← hY, ← hN] at hg
  obtain ⟨D4, hD4⟩ : ∃ D4, D4 = ((d3.arm 0 []).crash k).restart := ⟨_, rfl⟩
  rw [← hD4] at A4
  obtain ⟨vz, lz, Z, hz, hgz, hdz, hlz⟩ : ∃ vz lz Z, ((eE = 0 ∧ vz = vb ∧ lz = lb) ∨ (eE = 7 ∧ vz = va ∧ lz = la)) ∧ g N = some ⟨Z, Z⟩ ∧ sdec Z = (step, (vz, lz), 0) ∧ Z.length ≤ 568 := by
    rcases hg with ⟨he, hg⟩ | ⟨he, hg⟩
    · exact ⟨vb, lb, Y, .inl ⟨he, rfl, rfl⟩, by rw [hg, if_pos rfl], dY, lb60⟩
    · exact ⟨va, la, X, .inr ⟨he, rfl, rfl⟩, by rw [hg _ hnew, f2, G1, if_pos rfl], dX, la60⟩
  have hg1 : g (nState ++ Go.Lib.itoa (step + 1)) = none := by
    rcases hg with ⟨_, hg⟩ | ⟨_, hg⟩
    · rw [hg, if_neg hN1, if_neg hnew1, f2, G1, if_neg hN1]
    · rw [hg _ hnew1, f2, G1, if_neg hN1]
  have g4 : fget D4.files N = some ⟨Z, Z⟩ := by rw [A4.get]; exact hgz
  obtain ⟨o5, e5⟩ := state_q A4.q (step := step) (f := ⟨Z, Z⟩) (by rw [← hN]; exact g4) hdz
  have q5 := A4.q.same o5
  obtain ⟨d5, hd5⟩ : ∃ d5, d5 = dk D4 o5 0 D4.files := ⟨_, rfl⟩
  have f5 : d5.files = D4.files := by rw [hd5]; rfl
  rw [← hd5] at e5 q5
  have g5 : fget d5.files (nState ++ Go.Lib.itoa (step + 1)) = none := by rw [f5, A4.get]; exact hg1
  obtain ⟨o6, e6⟩ := state_none q5 (step := step + 1) g5
  have n0 : (fresh 1000).files.length = 0 := rfl
  have n1 := A1.cnt
  have n4 := A4.cnt
  have nA : (d2.arm at_ k).files.length = d2.files.length := rfl
  have nB : (d3.arm 0 []).files.length = d3.files.length := rfl
  refine ⟨d1, d2, d3, d5, _, eE, vz, lz, e1, e2, e3, by rw [← hD4]; exact e5, e6, hz, ⟨by omega, by omega, by rw [nA, f2]; omega, by rw [nB]; rw [nA, f2] at hcnt3; omega, by rw [← hD4]; rw [f2] at n4; omega, by rw [f5]; rw [f2] at n4; omega⟩, ?_, ?_, ?_⟩
  · rw [read_len A1.q, ← hN, cont_some (f := ⟨X, X⟩) (by rw [G1, if_pos rfl])]; show X.length ≤ _; omega
  · rw [← hD4, read_len A4.q, ← hN, cont_some g4]; show Z.length ≤ _; omega
  · rw [read_len q5, cont_none g5]; decide
end Go.Cg.Cl
