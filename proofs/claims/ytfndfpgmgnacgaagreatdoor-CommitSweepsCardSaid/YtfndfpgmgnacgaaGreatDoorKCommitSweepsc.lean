/- Walks of functions of the program, over slots and resources, and what they rest on. No condition. -/
import Derived.Test.YtfndfpgmgnacgaaGreatDoorKCommitSweepsb
import Derived.Test.YtfndfpgmgnacgaaGreatDoorRg
import Derived.RangeFuncBox
import Derived.Shelf.Abstract
import Derived.WalkKit
import Derived.OwnWalkIn
import Derived.TacticsInMore
import Derived.LoopNIn
import Derived.LoopIn
import Derived.BigRegionIn
namespace Go.Proofs.YtfndfpgmgnacgaaGreatDoor
open Go.RowKit Go.Cg
set_option linter.unusedVariables false
set_option linter.unusedSimpArgs false
set_option maxRecDepth 8000
set_option synthInstance.maxHeartbeats 1000000
set_option synthInstance.maxSize 1000000
open Go.Cg.Dk (By Nm)
open Go.Cg.Oc (Mf)
theorem itoa_le {x : Int} (h0 : -9223372036854775808 ≤ x) (h1 : x ≤ 9223372036854775807) : (Go.Lib.itoa x).length ≤ 9223372036854775000 := by
  have h : ∀ u : Nat, (Go.Lib.decDigits u).length ≤ u + 1 := by
    intro u
    induction u using Nat.strongRecOn with
    | _ u ih =>
      unfold Go.Lib.decDigits
      split
      · simp
      · have := ih (u / 10) (by omega)
        simp; omega
  have h20 : ∀ (k u : Nat), u < 10 ^ k → (Go.Lib.decDigits u).length ≤ k + 1 := by
    intro k
    induction k with
    | zero => intro u hu; have := h u; omega
    | succ k ih =>
      intro u hu
      unfold Go.Lib.decDigits
      split
      · simp
      · have := ih (u / 10) (by rw [Nat.pow_succ] at hu; omega)
        simp; omega
  unfold Go.Lib.itoa
  split
  · have := h20 19 x.natAbs (by omega); simp; omega
  · have := h20 19 x.toNat (by omega); omega
theorem name_ct (w : World) (fr : List Res) (hl : Laid fr) (i : Int) (h0 : -9223372036854775808 ≤ i) (h1 : i ≤ 9223372036854775807) (H : Sat w (fr)) :
    Rt Tryz.prog 63 #[.int .i64 i] w fun v w' => v = str (Cm.nShard ++ Go.Lib.itoa i) ∧ Sat w' fr := by
  refine en1 Tryz.func63 rfl Tryz.ntmps63 rfl fun a S => ?_
  have hil := itoa_le h0 h1
  refine sr 1 S H t0 fun a w S H => ?_
  refine sb ?_
  refine rn 1 S H t0 fun a w S H => ?_
  refine r_call (args := #[.int .i64 i]) S rfl rfl Tryz.call40 (itoa_ct (H := H) _ _ hl.1 i (by omega) (by omega)) rfl rfl rfl fun v a w hR S => ?_
  obtain ⟨rfl, H⟩ := hR
  refine r_y S H (y_addS S rfl rfl rfl (by simp; omega)) rfl rfl rfl fun a S => ?_
  refine rs 1 S H t0 fun a w S H => ?_
  refine wp_ret ?_
  refine r_ret1 S H Tryz.results63 (ro_tmp S rfl) ?_
  exact ⟨rfl, H⟩

end Go.Proofs.YtfndfpgmgnacgaaGreatDoor
namespace Go.Proofs.YtfndfpgmgnacgaaGreatDoor
open Go.RowKit Go.Cg
set_option linter.unusedVariables false
set_option linter.unusedSimpArgs false
set_option maxRecDepth 8000
set_option synthInstance.maxHeartbeats 1000000
set_option synthInstance.maxSize 1000000
open Go.Cg.Dk (By Nm)
open Go.Cg.Oc (Mf)
theorem slot0 : Cm.slotN 0 = [115, 108, 111, 116, 46, 48] := by simp [Cm.slotN, Cm.nSlot, Cm.itoa, Go.Lib.itoa, Go.Lib.decDigits]
theorem slot1 : Cm.slotN 1 = [115, 108, 111, 116, 46, 49] := by simp [Cm.slotN, Cm.nSlot, Cm.itoa, Go.Lib.itoa, Go.Lib.decDigits]
theorem decVal {l : Nm} {acc u : Nat} : True := trivial
theorem stays_slot {name : Nm} {m : Mf} {is : Bool} (h : name = [115, 108, 111, 116, 46, 48] ∨ name = [115, 108, 111, 116, 46, 49]) : Cm.stays name m is = true := by
  unfold Cm.stays; rw [slot0, slot1, if_pos h]
theorem stays_state {name : Nm} {m : Mf} {is : Bool} (h : ¬ (name = [115, 108, 111, 116, 46, 48] ∨ name = [115, 108, 111, 116, 46, 49])) (hp : Go.Lib.hasPrefix name Cm.nState = true) (hi : is = true) : Cm.stays name m is = (List.range (m.step + 1).toNat).any fun k => decide (Cm.itoa k = name.drop 6) := by
  unfold Cm.stays; rw [slot0, slot1, if_neg h, if_pos ⟨hp, hi⟩]
theorem stays_shard {name : Nm} {m : Mf} {is : Bool} (h : ¬ (name = [115, 108, 111, 116, 46, 48] ∨ name = [115, 108, 111, 116, 46, 49])) (hp : ¬ (Go.Lib.hasPrefix name Cm.nState = true ∧ is = true)) : Cm.stays name m is = (is && (List.range m.shards.toNat).any fun i => decide (name = Cm.nShard ++ Cm.itoa i)) := by
  unfold Cm.stays; rw [slot0, slot1, if_neg h, if_neg (by simpa [Go.Lib.hasPrefix] using hp)]
theorem state_yes {r : Nm} {x step : Int} (h0 : 0 ≤ x) (h1 : x ≤ step) : decide (Go.Lib.itoa x = r) = true → ((List.range (step + 1).toNat).any fun k => decide (Cm.itoa k = r)) = true := by
  intro h
  rw [List.any_eq_true]
  refine ⟨x.toNat, List.mem_range.2 (by omega), ?_⟩
  have e : ((x.toNat : Nat) : Int) = x := by omega
  unfold Cm.itoa; rw [e]; exact h
theorem digitVal_at (u : Nat) (h : u < 10) : Go.Lib.digitVal (UInt8.ofNat (48 + u)) = some u := by
  match u, h with
  | 0, _ => rfl
  | 1, _ => rfl
  | 2, _ => rfl
  | 3, _ => rfl
  | 4, _ => rfl
  | 5, _ => rfl
  | 6, _ => rfl
  | 7, _ => rfl
  | 8, _ => rfl
  | 9, _ => rfl
theorem decFrom_snoc {b : UInt8} {d : Nat} (hd : Go.Lib.digitVal b = some d) : ∀ (l : Nm) (acc n : Nat), Go.Lib.decFrom acc l = some n → Go.Lib.decFrom acc (l ++ [b]) = some (n * 10 + d)
  | [], acc, n, h => by
    simp only [Go.Lib.decFrom, Option.some.injEq] at h
    subst h
    simp [Go.Lib.decFrom, hd]
  | x :: r, acc, n, h => by
    simp only [List.cons_append, Go.Lib.decFrom] at h ⊢
    cases hx : Go.Lib.digitVal x with
    | none => rw [hx] at h; cases h
    | some v => rw [hx] at h; exact decFrom_snoc hd r _ n h
theorem decFrom_digits (u : Nat) : Go.Lib.decFrom 0 (Go.Lib.decDigits u) = some u := by
  induction u using Nat.strongRecOn with
  | _ u ih =>
    unfold Go.Lib.decDigits
    split
    · rename_i h
      simp only [Go.Lib.decFrom]; rw [digitVal_at u h]; simp
    · rename_i h
      rw [decFrom_snoc (digitVal_at (u % 10) (by omega)) _ _ _ (ih (u / 10) (by omega))]
      congr 1; omega
theorem atoi_itoa (u : Nat) : Go.Lib.atoi (Cm.itoa u) = some (u : Int) := by
  unfold Cm.itoa; rw [Go.Lib.itoa_nonneg]
  have h := decFrom_digits u
  cases hl : Go.Lib.decDigits u with
  | nil => unfold Go.Lib.decDigits at hl; split at hl <;> simp at hl
  | cons b r =>
    rw [hl] at h
    have hb : ∃ v, Go.Lib.digitVal b = some v := by
      simp only [Go.Lib.decFrom] at h
      cases hx : Go.Lib.digitVal b with
      | none => rw [hx] at h; cases h
      | some v => exact ⟨v, rfl⟩
    have h45 : (b == 45) = false := by
      cases e : b == 45 with
      | false => rfl
      | true => have e' := eq_of_beq e; subst e'; obtain ⟨v, hv⟩ := hb; rw [show Go.Lib.digitVal 45 = none from by decide] at hv; cases hv
    have h43 : (b == 43) = false := by
      cases e : b == 43 with
      | false => rfl
      | true => have e' := eq_of_beq e; subst e'; obtain ⟨v, hv⟩ := hb; rw [show Go.Lib.digitVal 43 = none from by decide] at hv; cases hv
    simp [Go.Lib.atoi, h45, h43, Go.Lib.decNat, h]
theorem state_no {r : Nm} {step : Int} (h : ∀ x, Go.Lib.atoi r = some x → 0 ≤ x → x ≤ step → Go.Lib.itoa x ≠ r) : ((List.range (step + 1).toNat).any fun k => decide (Cm.itoa k = r)) = false := by
  rw [Bool.eq_false_iff]
  intro hc
  obtain ⟨k, hk, e⟩ := List.any_eq_true.1 hc
  have hk := List.mem_range.1 hk
  simp only [decide_eq_true_eq] at e
  have ha := atoi_itoa k
  rw [e] at ha
  exact h k ha (by omega) (by omega) e
end Go.Proofs.YtfndfpgmgnacgaaGreatDoor
namespace Go.Proofs.YtfndfpgmgnacgaaGreatDoor
open Go.RowKit Go.Cg
set_option linter.unusedVariables false
set_option linter.unusedSimpArgs false
set_option maxRecDepth 8000
set_option synthInstance.maxHeartbeats 1000000
set_option synthInstance.maxSize 1000000
open Go.Cg.Dk (By Nm)
open Go.Cg.Oc (Mf)
theorem stays_ct (w : World) (fr : List Res) (hl : Laid fr) (name : Nm) (m : Mf) (is : Bool) (hn : name.length ≤ 24) (hsh1 : m.shards ≤ 9223372036854775807) (hstp : m.step ≤ 9223372036854775806) (H : Sat w (fr)) :
    Rt Tryz.prog 33 #[str (name), .agg #[.int .u64 ((m.seq : Nat) : Int), .int .i64 m.n, .int .i64 m.shards, .int .i64 m.step, .int .i64 m.kind, .int .u32 ((m.start : Nat) : Int)], .bool is] w fun v w' => v = .bool (Cm.stays name m is) ∧ Sat w' fr := by
  refine en3 Tryz.func33 rfl Tryz.ntmps33 rfl fun a S => ?_
  refine sb ?_
  refine r_box (c := #[.int .u64 ((m.seq : Nat) : Int), .int .i64 m.n, .int .i64 m.shards, .int .i64 m.step, .int .i64 m.kind, .int .u32 ((m.start : Nat) : Int)]) S H rfl rfl rfl rfl rfl rfl fun a w b1 S H => ?_
  refine rs 1 S H t0 fun a w S H => ?_
  refine r_seq ?_
  refine sb ?_
  refine rn 3 S H t0 fun a w S H => ?_
  refine scO 1 S H (fun _ => t0) fun a w S H => ?_
  refine sn ?_
  refine r_cond S rfl (fun h17 => ?_) (fun h17 => ?_)
  · skip
    refine sr 1 S H t0 fun a w S H => ?_
    refine wp_ret ?_
    refine x_thenRet ?_
    refine r_ret1 S H Tryz.results33 (ro_tmp S rfl) ?_
    have hs2 : name = [115, 108, 111, 116, 46, 48] ∨ name = [115, 108, 111, 116, 46, 49] := by simpa using h17
    rw [stays_slot hs2]
    exact ⟨rfl, H.drop⟩
  · skip
    refine wp_skip ?_
    refine x_then ?_
    refine r_seq ?_
    have hns : ¬ (name = [115, 108, 111, 116, 46, 48] ∨ name = [115, 108, 111, 116, 46, 49]) := by simpa using h17
    refine sb ?_
    refine rn 1 S H t0 fun a w S H => ?_
    refine r_call (args := #[str (name), str ([115, 116, 97, 116, 101, 46])]) S rfl rfl Tryz.call61 (cut_ct (H := H) _ _ name ([115, 116, 97, 116, 101, 46])) rfl rfl rfl fun v a w hR S => ?_
    obtain ⟨rfl, H⟩ := hR
    refine rs 5 S H t0 fun a w S H => ?_
    refine sb ?_
    refine rn 2 S H t0 fun a w S H => ?_
    refine scA 0 S H (fun _ => t0) fun a w S H => ?_
    refine sn ?_
    refine r_cond S rfl (fun h26 => ?_) (fun h26 => ?_)
    · skip
      have hpre : Go.Lib.hasPrefix name [115, 116, 97, 116, 101, 46] = true ∧ is = true := by simpa using h26
      have htp : Go.Lib.trimPrefix name [115, 116, 97, 116, 101, 46] = name.drop 6 := by unfold Go.Lib.trimPrefix; rw [if_pos hpre.1]; rfl
      have hst := stays_state (m := m) hns hpre.1 hpre.2
      have S := S.retell (v' := str (name.drop 6)) 21 rfl (by rw [htp])
      have S := S.retell (v' := str (name.drop 6)) 7 rfl (by rw [htp])
      refine sb ?_
      refine rn 1 S H t0 fun a w S H => ?_
      refine r_call (args := #[str (name.drop 6)]) S rfl rfl Tryz.call62 (atoi_ct (H := H) _ _ (hl.via fun _ H => H.drop) (name.drop 6) (by simp; omega)) rfl rfl rfl fun v a w hR S => ?_
      obtain ⟨x, ev, rfl, hat, H⟩ := hR
      refine rs 5 S H t0 fun a w S H => ?_
      rcases (show (Go.Lib.atoi (name.drop 6) = none ∧ ∃ t p, ev = .iface t p) ∨ (Go.Lib.atoi (name.drop 6) = some x ∧ ev = .nilIface ∧ x < 0) ∨ (Go.Lib.atoi (name.drop 6) = some x ∧ ev = .nilIface ∧ 0 ≤ x ∧ m.step < x) ∨ (Go.Lib.atoi (name.drop 6) = some x ∧ ev = .nilIface ∧ 0 ≤ x ∧ x ≤ m.step) by rcases hat with ⟨h1, h2⟩ | h1; (rcases Int.lt_or_le x 0 with h3 | h3; (exact .inr (.inl ⟨h1, h2, h3⟩)); (rcases Int.lt_or_le m.step x with h4 | h4; (exact .inr (.inr (.inl ⟨h1, h2, h3, h4⟩))); (exact .inr (.inr (.inr ⟨h1, h2, h3, h4⟩))))); (exact .inl h1)) with ⟨ha, tt, pp, rfl⟩ | ⟨ha, rfl, hx0⟩ | ⟨ha, rfl, hx0, hx1⟩ | ⟨ha, rfl, hx0, hx1⟩
      · skip
        refine sb ?_
        refine rn 1 S H t0 fun a w S H => ?_
        refine r_y S H (y_eqIface S rfl rfl Tryz.underlying118) rfl rfl rfl fun a S => ?_
        refine rs 17 S H t0 fun a w S H => ?_
        refine wp_ret ?_
        refine x_thenRet ?_
        refine r_ret1 S H Tryz.results33 (ro_tmp S rfl) ?_
        rw [hst, state_no (fun y hy _ _ _ => by rw [ha] at hy; cases hy)]
        exact ⟨rfl, H.drop⟩
      · skip
        refine sb ?_
        refine rn 1 S H t0 fun a w S H => ?_
        refine r_y S H (y_eqNilI S rfl rfl Tryz.underlying118) rfl rfl rfl fun a S => ?_
        refine rn 2 S H t0 fun a w S H => ?_
        refine r_y S H (y_ge S rfl rfl rfl) rfl rfl rfl fun a S => ?_
        have S := S.retell (v' := .bool false) 36 rfl (congrArg Value.bool (decide_eq_false (by omega)))
        refine rs 14 S H t0 fun a w S H => ?_
        refine wp_ret ?_
        refine x_thenRet ?_
        refine r_ret1 S H Tryz.results33 (ro_tmp S rfl) ?_
        rw [hst, state_no (fun y hy h0 _ _ => by rw [ha] at hy; cases hy; omega)]
        exact ⟨rfl, H.drop⟩
      · skip
        refine sb ?_
        refine rn 1 S H t0 fun a w S H => ?_
        refine r_y S H (y_eqNilI S rfl rfl Tryz.underlying118) rfl rfl rfl fun a S => ?_
        refine rn 2 S H t0 fun a w S H => ?_
        refine r_y S H (y_ge S rfl rfl rfl) rfl rfl rfl fun a S => ?_
        have S := S.retell (v' := .bool true) 36 rfl (congrArg Value.bool (decide_eq_true (by omega)))
        refine rn 5 S H t0 fun a w S H => ?_
        refine r_y S H (y_le S rfl rfl rfl) rfl rfl rfl fun a S => ?_
        have S := S.retell (v' := .bool false) 42 rfl (congrArg Value.bool (decide_eq_false (by omega)))
        refine rs 8 S H t0 fun a w S H => ?_
        refine wp_ret ?_
        refine x_thenRet ?_
        refine r_ret1 S H Tryz.results33 (ro_tmp S rfl) ?_
        rw [hst, state_no (fun y hy _ h1 _ => by rw [ha] at hy; cases hy; omega)]
        exact ⟨rfl, H.drop⟩
      · skip
        refine sb ?_
        refine rn 1 S H t0 fun a w S H => ?_
        refine r_y S H (y_eqNilI S rfl rfl Tryz.underlying118) rfl rfl rfl fun a S => ?_
        refine rn 2 S H t0 fun a w S H => ?_
        refine r_y S H (y_ge S rfl rfl rfl) rfl rfl rfl fun a S => ?_
        have S := S.retell (v' := .bool true) 36 rfl (congrArg Value.bool (decide_eq_true (by omega)))
        refine rn 5 S H t0 fun a w S H => ?_
        refine r_y S H (y_le S rfl rfl rfl) rfl rfl rfl fun a S => ?_
        have S := S.retell (v' := .bool true) 42 rfl (congrArg Value.bool (decide_eq_true (by omega)))
        refine rn 3 S H t0 fun a w S H => ?_
        refine r_call (args := #[.int .i64 x]) S rfl rfl Tryz.call40 (itoa_ct (H := H) _ _ (hl.via fun _ H => H.drop).1 x (by omega) (by omega)) rfl rfl rfl fun v a w hR S => ?_
        obtain ⟨rfl, H⟩ := hR
        refine rs 4 S H t0 fun a w S H => ?_
        refine wp_ret ?_
        refine x_thenRet ?_
        refine r_ret1 S H Tryz.results33 (ro_tmp S rfl) ?_
        rw [hst]
        refine ⟨congrArg Value.bool ?_, H.drop⟩
        cases hd : decide (Go.Lib.itoa x = name.drop 6)
        · exact (state_no (fun y hy _ _ e => by rw [ha] at hy; cases hy; simp at hd; exact hd e)).symm
        · exact (state_yes (by omega) (by omega) hd).symm
    · skip
      refine wp_skip ?_
      refine x_then ?_
      refine r_seq ?_
      have hnp : ¬ (Go.Lib.hasPrefix name Cm.nState = true ∧ is = true) := by have h26' := h26; simp only [Bool.and_eq_false_iff] at h26'; rintro ⟨h1, h2⟩; rcases h26' with h | h; (rw [show Cm.nState = [115, 116, 97, 116, 101, 46] from rfl] at h1; rw [h1] at h; cases h); (rw [h2] at h; cases h)
      have hsh := stays_shard (m := m) hns hnp
      refine sr 3 S H t0 fun a w S H => ?_
      refine r_block ?_
      refine r_loop (ι := Nat) (fun i a w => Slots a 63 [(0, str (name)), (1, .agg #[.int .u64 ((m.seq : Nat) : Int), .int .i64 m.n, .int .i64 m.shards, .int .i64 m.step, .int .i64 m.kind, .int .u32 ((m.start : Nat) : Int)]), (2, .bool is), (4, .pointer (some ⟨b1, 0, none⟩)), (7, str (Go.Lib.trimPrefix name ([115, 116, 97, 116, 101, 46]))), (8, .bool (Go.Lib.hasPrefix name ([115, 116, 97, 116, 101, 46]))), (12, str (name)), (13, .bool (decide (name = [115, 108, 111, 116, 46, 48]))), (14, .bool (decide (name = [115, 108, 111, 116, 46, 48]))), (17, .bool ((decide (name = [115, 108, 111, 116, 46, 48])) || (decide (name = [115, 108, 111, 116, 46, 49])))), (18, .tuple #[str (Go.Lib.trimPrefix name ([115, 116, 97, 116, 101, 46])), .bool (Go.Lib.hasPrefix name ([115, 116, 97, 116, 101, 46]))]), (19, str (name)), (20, .tuple #[str (Go.Lib.trimPrefix name ([115, 116, 97, 116, 101, 46])), .bool (Go.Lib.hasPrefix name ([115, 116, 97, 116, 101, 46]))]), (21, str (Go.Lib.trimPrefix name ([115, 116, 97, 116, 101, 46]))), (22, .bool (Go.Lib.hasPrefix name ([115, 116, 97, 116, 101, 46]))), (23, .bool (Go.Lib.hasPrefix name ([115, 116, 97, 116, 101, 46]))), (24, .bool (Go.Lib.hasPrefix name ([115, 116, 97, 116, 101, 46]))), (26, .bool ((Go.Lib.hasPrefix name ([115, 116, 97, 116, 101, 46])) && is)), (50, .pointer (some ⟨b1, 2, none⟩)), (51, .int .i64 m.shards), (52, .int .i64 ((i : Nat) : Int)), (63, undef)] ∧ Sat w (blk b1 (.cells #[.int .u64 ((m.seq : Nat) : Int), .int .i64 m.n, .int .i64 m.shards, .int .i64 m.step, .int .i64 m.kind, .int .u32 ((m.start : Nat) : Int)] 27) :: fr) ∧ (((i : Nat) : Int) ≤ max m.shards 0 ∧ ∀ j, j < i → ¬ (is = true ∧ name = Cm.nShard ++ Cm.itoa j))) (fun i => m.shards.toNat - i) 0 ⟨S.sub ⟨rfl, rfl, rfl, rfl, rfl, rfl, rfl, rfl, rfl, rfl, rfl, rfl, rfl, rfl, rfl, rfl, rfl, rfl, rfl, rfl, rfl, rfl, trivial⟩, H, ⟨by omega, fun j hj => absurd hj (Nat.not_lt_zero _)⟩⟩ (fun i a w hI => ?_)
      obtain ⟨S, H, hI⟩ := hI
      obtain ⟨him, hno⟩ := hI
      refine sr 1 S H t0 fun a w S H => ?_
      refine r_seq ?_
      refine r_test S rfl (fun h53 => ?_) (fun h53 => ?_)
      · skip
        refine wp_skip ?_
        refine x_then ?_
        refine r_seq ?_
        refine r_block ?_
        refine sr 2 S H t0 fun a w S H => ?_
        rcases Bool.eq_false_or_eq_true is with hisb | hisb
        · skip
          have S := S.retell (v' := .bool true) 2 rfl (by rw [hisb])
          refine sb ?_
          refine rn 4 S H t0 fun a w S H => ?_
          refine r_call (args := #[.int .i64 ((i : Nat) : Int)]) S rfl rfl Tryz.call63 (name_ct (H := H) _ _ (hl.via fun _ H => H.drop) ((i : Nat) : Int) (by omega) (by omega)) rfl rfl rfl fun v a w hR S => ?_
          obtain ⟨rfl, H⟩ := hR
          refine rs 2 S H t0 fun a w S H => ?_
          refine r_test S rfl (fun h61 => ?_) (fun h61 => ?_)
          · skip
            have hgo : is = true ∧ name = Cm.nShard ++ Cm.itoa i := ⟨hisb, by first | exact h61 | exact of_decide_eq_true (by simpa using h61)⟩
            refine sr 1 S H t0 fun a w S H => ?_
            refine wp_ret ?_
            refine x_blockRet ?_
            refine x_thenRet ?_
            refine x_thenRet ?_
            refine x_blockRet ?_
            refine x_thenRet ?_
            refine r_ret1 S H Tryz.results33 (ro_tmp S rfl) ?_
            rw [hsh]
            refine ⟨congrArg Value.bool (Eq.symm ?_), H.drop⟩
            rw [Bool.and_eq_true]
            exact ⟨hgo.1, List.any_eq_true.2 ⟨i, List.mem_range.2 (by omega), by simpa using hgo.2⟩⟩
          · skip
            have hng : ¬ (is = true ∧ name = Cm.nShard ++ Cm.itoa i) := fun h => by first | exact h61 h.2 | (simp at h61; exact h61 h.2)
            refine wp_skip ?_
            refine x_blockEnd ?_
            refine x_then ?_
            refine er 2 S H (by omega) fun a w S H => ?_
            refine x_then ?_
            exact ⟨(i + 1), ⟨S.sub ⟨rfl, rfl, (by rw [hisb]; rfl), rfl, rfl, rfl, rfl, rfl, rfl, rfl, rfl, rfl, rfl, rfl, rfl, rfl, rfl, rfl, rfl, rfl, rfl, rfl, trivial⟩, H, ⟨by omega, fun j hj => by rcases Nat.lt_or_ge j i with h | h; (exact hno j h); (obtain rfl : j = i := by omega); (exact hng)⟩⟩, by show m.shards.toNat - (i + 1) < m.shards.toNat - i; omega⟩
        · skip
          have hng : ¬ (is = true ∧ name = Cm.nShard ++ Cm.itoa i) := fun h => by rw [hisb] at h; cases h.1
          have S := S.retell (v' := .bool false) 2 rfl (by rw [hisb])
          refine sr 7 S H t0 fun a w S H => ?_
          refine r_condF S rfl ?_
          refine wp_skip ?_
          refine x_blockEnd ?_
          refine x_then ?_
          refine er 2 S H (by omega) fun a w S H => ?_
          refine x_then ?_
          exact ⟨(i + 1), ⟨S.sub ⟨rfl, rfl, (by rw [hisb]; rfl), rfl, rfl, rfl, rfl, rfl, rfl, rfl, rfl, rfl, rfl, rfl, rfl, rfl, rfl, rfl, rfl, rfl, rfl, rfl, trivial⟩, H, ⟨by omega, fun j hj => by rcases Nat.lt_or_ge j i with h | h; (exact hno j h); (obtain rfl : j = i := by omega); (exact hng)⟩⟩, by show m.shards.toNat - (i + 1) < m.shards.toNat - i; omega⟩
      · skip
        refine wp_exit ?_
        refine x_thenExit ?_
        refine x_thenExit ?_
        refine x_blockHere ?_
        refine x_then ?_
        refine sr 1 S H t0 fun a w S H => ?_
        refine wp_ret ?_
        refine r_ret1 S H Tryz.results33 (ro_tmp S rfl) ?_
        rw [hsh]
        refine ⟨congrArg Value.bool (Eq.symm ?_), H.drop⟩
        cases his : is
        · rfl
        · rw [Bool.true_and, Bool.eq_false_iff]; intro hc; obtain ⟨j, hj, e⟩ := List.any_eq_true.1 hc; have hj := List.mem_range.1 hj; exact hno j (by omega) ⟨his, by simpa using e⟩

end Go.Proofs.YtfndfpgmgnacgaaGreatDoor
namespace Go.Proofs.YtfndfpgmgnacgaaGreatDoor
open Go.RowKit Go.Cg
set_option linter.unusedVariables false
set_option linter.unusedSimpArgs false
set_option maxRecDepth 8000
set_option synthInstance.maxHeartbeats 1000000
set_option synthInstance.maxSize 1000000
open Go.Cg.Dk (By Nm)
open Go.Cg.Oc (Mf)
def Small (m : Mf) : Prop := m.shards ≤ 4096 ∧ m.step ≤ 1099511627776 ∧ m.start < 4294967296 ∧ m.seq < 18446744073709551616
theorem small0 : Small Oc.mf0 := by unfold Small Oc.mf0; decide
theorem mdec_small (b : By) : Small (Oc.mdec b).1 := by
  by_cases h : (Oc.mdec b).2 = 0
  · have h1 := Oc.mright_facts (Oc.mdec_zero h).1
    refine ⟨h1.2.2.2.1, h1.2.2.2.2.2.2.1, ?_, ?_⟩
    · unfold Oc.mdec; split
      · exact (by decide : Oc.mf0.start < 4294967296)
      · split
        · exact (by decide : Oc.mf0.start < 4294967296)
        · show Oc.word _ 5 % 4294967296 < _; omega
    · unfold Oc.mdec; split
      · exact (by decide : Oc.mf0.seq < 18446744073709551616)
      · split
        · exact (by decide : Oc.mf0.seq < 18446744073709551616)
        · exact word_lt _ 0
  · unfold Oc.mdec at h ⊢
    split
    · exact small0
    · rename_i h1
      rw [if_neg h1] at h
      split
      · exact small0
      · rename_i h2; rw [if_neg h2] at h; exact absurd rfl h
theorem choose_small (x y : By) : Small (Oc.choose x y).1 := by
  unfold Oc.choose; simp only
  by_cases h1 : (Oc.mdec x).2 = 0
  · rw [if_pos h1]; split
    · exact mdec_small y
    · exact mdec_small x
  · rw [if_neg h1]; split
    · exact mdec_small y
    · exact small0
theorem load_small (d : Dk.Disk) : Small (Cm.load d).2.1 := by
  unfold Cm.load; simp only
  split
  · exact small0
  · split
    · exact small0
    · exact choose_small _ _
theorem len_load (d : Dk.Disk) : (Cm.load d).1.files.length = d.files.length := by
  unfold Cm.load; simp only
  split
  · exact len_read d _
  · split
    · rw [len_read]; exact len_read d _
    · rw [len_read]; exact len_read d _
theorem list_nam {d : Dk.Disk} (h : d.Ok) : ∀ n ∈ d.list.2.1, n.length ≤ 24 := by
  unfold Dk.Disk.list; simp only
  split
  · intro n hn; exact (List.not_mem_nil hn).elim
  · intro n hn
    obtain ⟨p, hp, e⟩ := List.mem_map.1 hn
    rw [← e]; exact h.begin_.nam p hp
theorem names_len (d : Dk.Disk) : d.list.2.1.length ≤ d.files.length := by
  unfold Dk.Disk.list; simp only
  split
  · simp
  · rw [List.length_map, Dk.len_begin]; exact Nat.le_refl _
theorem removes_stay {m : Mf} {is : Bool} {ns : List Nm} {i : Nat} (hi : i < ns.length) (D : Dk.Disk) (h : Cm.stays (ns.getD i []) m is = true) : Cm.removes m is (ns.drop i) D = Cm.removes m is (ns.drop (i + 1)) D := by
  rw [List.drop_eq_getElem_cons hi, Cm.removes, if_pos (by rw [List.getD_eq_getElem?_getD, List.getElem?_eq_getElem hi] at h; exact h)]
theorem removes_err {m : Mf} {is : Bool} {ns : List Nm} {i : Nat} (hi : i < ns.length) (D : Dk.Disk) (h : Cm.stays (ns.getD i []) m is = false) (he : (D.remove (ns.getD i [])).2 ≠ 0) : Cm.removes m is (ns.drop i) D = D.remove (ns.getD i []) := by
  rw [List.getD_eq_getElem?_getD, List.getElem?_eq_getElem hi, Option.getD_some] at h he ⊢
  rw [List.drop_eq_getElem_cons hi, Cm.removes, if_neg (by simpa using h), if_pos he]
theorem removes_go {m : Mf} {is : Bool} {ns : List Nm} {i : Nat} (hi : i < ns.length) (D : Dk.Disk) (h : Cm.stays (ns.getD i []) m is = false) (he : ¬ (D.remove (ns.getD i [])).2 ≠ 0) : Cm.removes m is (ns.drop i) D = Cm.removes m is (ns.drop (i + 1)) (D.remove (ns.getD i [])).1 := by
  rw [List.getD_eq_getElem?_getD, List.getElem?_eq_getElem hi, Option.getD_some] at h he ⊢
  rw [List.drop_eq_getElem_cons hi, Cm.removes, if_neg (by simpa using h), if_neg he]
theorem sweep_ct (w : World) (fr : List Res) (hl : Laid fr) (db : Nat) (d : Dk.Disk) (hcnt : d.files.length ≤ 4398046511104) (H : Sat w (diskR db d :: fr)) :
    Rt Tryz.prog 14 #[.pointer (some ⟨db, 0, none⟩)] w fun v w' => v = .int .i64 (((Cm.sweep d).2 : Nat) : Int) ∧ Sat w' (diskR db (Cm.sweep d).1 :: fr) := by
  refine en1 Tryz.func14 rfl Tryz.ntmps14 rfl fun a S => ?_
  refine sr 1 S H t0 fun a w S H => ?_
  refine sb ?_
  refine rn 1 S H t0 fun a w S H => ?_
  refine r_call (args := #[.pointer (some ⟨db, 0, none⟩)]) S rfl rfl Tryz.call17 (load_ct (H := H) _ _ db d (by omega)) rfl rfl rfl fun v a w hR S => ?_
  obtain ⟨rfl, H⟩ := hR
  refine rn 4 S H t0 fun a w S H => ?_
  refine r_alloc S H rfl Tryz.zeroValue27 rfl rfl rfl rfl fun a w b1 S H => ?_
  replace H : Sat _ (blk b1 (.cells #[.int .u64 0, .int .i64 0, .int .i64 0, .int .i64 0, .int .i64 0, .int .u32 0] 27) :: diskR db (Cm.load d).1 :: fr) := H
  refine rs 3 S H t0 fun a w S H => ?_
  refine r_seq ?_
  obtain ⟨D1, m, is, e1, hld⟩ : ∃ D1 m is e1, Cm.load d = (D1, m, is, e1) := ⟨_, _, _, _, rfl⟩
  have hsm : Small m := by have := load_small d; rw [hld] at this; exact this
  have hl1 : D1.files.length = d.files.length := by have := len_load d; rw [hld] at this; exact this
  obtain ⟨sm1, sm2, sm3, sm4⟩ := hsm
  rw [hld] at S H
  replace S := S.sub (E' := [(0, .pointer (some ⟨db, 0, none⟩)), (2, .int .i64 0), (3, .pointer (some ⟨b1, 0, none⟩)), (4, .bool (is)), (5, .int .i64 ((e1 : Nat) : Int)), (10, .tuple #[.agg #[.int .u64 ((m.seq : Nat) : Int), .int .i64 (m.n), .int .i64 (m.shards), .int .i64 (m.step), .int .i64 (m.kind), .int .u32 ((m.start : Nat) : Int)], .bool (is), .int .i64 ((e1 : Nat) : Int)]), (11, .pointer (some ⟨db, 0, none⟩)), (12, .tuple #[.agg #[.int .u64 ((m.seq : Nat) : Int), .int .i64 (m.n), .int .i64 (m.shards), .int .i64 (m.step), .int .i64 (m.kind), .int .u32 ((m.start : Nat) : Int)], .bool (is), .int .i64 ((e1 : Nat) : Int)]), (13, .agg #[.int .u64 ((m.seq : Nat) : Int), .int .i64 (m.n), .int .i64 (m.shards), .int .i64 (m.step), .int .i64 (m.kind), .int .u32 ((m.start : Nat) : Int)]), (14, .bool (is)), (15, .int .i64 ((e1 : Nat) : Int)), (44, undef)]) ⟨rfl, rfl, rfl, rfl, rfl, rfl, rfl, rfl, rfl, rfl, rfl, rfl, trivial⟩
  replace H : Sat _ (blk b1 (.cells #[.int .u64 ((m.seq : Nat) : Int), .int .i64 (m.n), .int .i64 (m.shards), .int .i64 (m.step), .int .i64 (m.kind), .int .u32 ((m.start : Nat) : Int)] 27) :: diskR db D1 :: fr) := H
  refine sr 2 S H t0 fun a w S H => ?_
  refine r_test S rfl (fun h17 => ?_) (fun h17 => ?_)
  · skip
    refine sr 2 S H t0 fun a w S H => ?_
    refine wp_ret ?_
    refine x_thenRet ?_
    refine r_ret1 S H Tryz.results14 (ro_tmp S rfl) ?_
    have e : (Cm.sweep d) = (D1, e1) := by unfold Cm.sweep; simp only; rw [hld]; simp only; rw [if_pos (by omega)]
    rw [e]
    exact ⟨rfl, pk [1] 2 H⟩
  · skip
    refine wp_skip ?_
    refine x_then ?_
    have hok1 := ((pk [1, 0] 2 H)).diskOk
    refine sb ?_
    refine rn 1 S H t0 fun a w S H => ?_
    refine r_call (args := #[.pointer (some ⟨db, 0, none⟩)]) S rfl rfl Tryz.call15 (list_ct (H := (pk [1, 0] 2 H)) _ _ db D1 (by omega)) rfl rfl rfl fun v a w hR S => ?_
    obtain ⟨A6, c7, rfl, H⟩ := hR
    refine rs 5 S H t0 fun a w S H => ?_
    refine r_seq ?_
    obtain ⟨D2, ns, e2, hls⟩ : ∃ D2 ns e2, D1.list = (D2, ns, e2) := ⟨_, _, _, rfl⟩
    have hnam : ∀ n ∈ ns, n.length ≤ 24 := by have := list_nam hok1; rw [hls] at this; exact this
    have hl2 : D2.files.length = D1.files.length := by have := Dk.len_list D1; rw [hls] at this; exact this
    have hnl : ns.length ≤ D1.files.length := by have := names_len D1; rw [hls] at this; exact this
    rw [hls] at S H
    replace S := S.sub (E' := [(0, .pointer (some ⟨db, 0, none⟩)), (2, .int .i64 0), (3, .pointer (some ⟨b1, 0, none⟩)), (4, .bool (is)), (5, .int .i64 ((e2 : Nat) : Int)), (6, .slice A6 (ns.length) c7), (10, .tuple #[.agg #[.int .u64 ((m.seq : Nat) : Int), .int .i64 (m.n), .int .i64 (m.shards), .int .i64 (m.step), .int .i64 (m.kind), .int .u32 ((m.start : Nat) : Int)], .bool (is), .int .i64 ((e1 : Nat) : Int)]), (11, .pointer (some ⟨db, 0, none⟩)), (12, .tuple #[.agg #[.int .u64 ((m.seq : Nat) : Int), .int .i64 (m.n), .int .i64 (m.shards), .int .i64 (m.step), .int .i64 (m.kind), .int .u32 ((m.start : Nat) : Int)], .bool (is), .int .i64 ((e1 : Nat) : Int)]), (13, .agg #[.int .u64 ((m.seq : Nat) : Int), .int .i64 (m.n), .int .i64 (m.shards), .int .i64 (m.step), .int .i64 (m.kind), .int .u32 ((m.start : Nat) : Int)]), (14, .bool (is)), (15, .int .i64 ((e1 : Nat) : Int)), (16, .int .i64 ((e1 : Nat) : Int)), (17, .bool (decide (((e1 : Nat) : Int) ≠ 0))), (19, .tuple #[.slice A6 (ns.length) c7, .int .i64 ((e2 : Nat) : Int)]), (20, .pointer (some ⟨db, 0, none⟩)), (21, .tuple #[.slice A6 (ns.length) c7, .int .i64 ((e2 : Nat) : Int)]), (22, .slice A6 (ns.length) c7), (23, .int .i64 ((e2 : Nat) : Int)), (44, undef)]) ⟨rfl, rfl, rfl, rfl, rfl, rfl, rfl, rfl, rfl, rfl, rfl, rfl, rfl, rfl, rfl, rfl, rfl, rfl, rfl, rfl, trivial⟩
    replace H : Sat _ (diskR db D2 :: row 9 1 (.slice A6 (ns.length) c7) (ns.length) (strs ns) :: blk b1 (.cells #[.int .u64 ((m.seq : Nat) : Int), .int .i64 (m.n), .int .i64 (m.shards), .int .i64 (m.step), .int .i64 (m.kind), .int .u32 ((m.start : Nat) : Int)] 27) :: fr) := H
    refine sr 2 S H t0 fun a w S H => ?_
    refine r_test S rfl (fun h25 => ?_) (fun h25 => ?_)
    · skip
      refine sr 2 S H t0 fun a w S H => ?_
      refine wp_ret ?_
      refine x_thenRet ?_
      refine r_ret1 S H Tryz.results14 (ro_tmp S rfl) ?_
      have e : (Cm.sweep d) = (D2, e2) := by unfold Cm.sweep; simp only; rw [hld]; simp only; rw [if_neg (by omega), hls]; simp only; rw [if_pos (by omega)]
      rw [e]
      exact ⟨rfl, pk [0] 3 H⟩
    · skip
      refine wp_skip ?_
      refine x_then ?_
      refine r_seq ?_
      refine sr 3 S H t0 fun a w S H => ?_
      refine r_block ?_
      refine r_loop (ι := Nat × Dk.Disk) (fun ⟨i, D⟩ a w => Slots a 44 [(0, .pointer (some ⟨db, 0, none⟩)), (3, .pointer (some ⟨b1, 0, none⟩)), (4, .bool (is)), (5, .int .i64 ((e2 : Nat) : Int)), (6, .slice A6 (ns.length) c7), (10, .tuple #[.agg #[.int .u64 ((m.seq : Nat) : Int), .int .i64 (m.n), .int .i64 (m.shards), .int .i64 (m.step), .int .i64 (m.kind), .int .u32 ((m.start : Nat) : Int)], .bool (is), .int .i64 ((e1 : Nat) : Int)]), (11, .pointer (some ⟨db, 0, none⟩)), (12, .tuple #[.agg #[.int .u64 ((m.seq : Nat) : Int), .int .i64 (m.n), .int .i64 (m.shards), .int .i64 (m.step), .int .i64 (m.kind), .int .u32 ((m.start : Nat) : Int)], .bool (is), .int .i64 ((e1 : Nat) : Int)]), (13, .agg #[.int .u64 ((m.seq : Nat) : Int), .int .i64 (m.n), .int .i64 (m.shards), .int .i64 (m.step), .int .i64 (m.kind), .int .u32 ((m.start : Nat) : Int)]), (14, .bool (is)), (15, .int .i64 ((e1 : Nat) : Int)), (16, .int .i64 ((e1 : Nat) : Int)), (17, .bool (decide (((e1 : Nat) : Int) ≠ 0))), (19, .tuple #[.slice A6 (ns.length) c7, .int .i64 ((e2 : Nat) : Int)]), (20, .pointer (some ⟨db, 0, none⟩)), (21, .tuple #[.slice A6 (ns.length) c7, .int .i64 ((e2 : Nat) : Int)]), (22, .slice A6 (ns.length) c7), (23, .int .i64 ((e2 : Nat) : Int)), (24, .int .i64 ((e2 : Nat) : Int)), (25, .bool (decide (((e2 : Nat) : Int) ≠ 0))), (27, .slice A6 (ns.length) c7), (28, .int .i64 ((ns.length : Nat) : Int)), (29, .int .i64 ((i : Nat) : Int)), (44, undef)] ∧ Sat w (diskR db D :: row 9 1 (.slice A6 (ns.length) c7) (ns.length) (strs ns) :: blk b1 (.cells #[.int .u64 ((m.seq : Nat) : Int), .int .i64 (m.n), .int .i64 (m.shards), .int .i64 (m.step), .int .i64 (m.kind), .int .u32 ((m.start : Nat) : Int)] 27) :: fr) ∧ (i ≤ ns.length ∧ Cm.removes m is ns D2 = Cm.removes m is (ns.drop i) D ∧ D.files.length ≤ d.files.length)) (fun ⟨i, D⟩ => ns.length - i) (0, D2) ⟨S.sub ⟨rfl, rfl, rfl, rfl, rfl, rfl, rfl, rfl, rfl, rfl, rfl, rfl, rfl, rfl, rfl, rfl, rfl, rfl, rfl, rfl, rfl, rfl, rfl, rfl, trivial⟩, H, ⟨Nat.zero_le _, rfl, by omega⟩⟩ (fun ⟨i, D⟩ a w hI => ?_)
      obtain ⟨S, H, hI⟩ := hI
      obtain ⟨hin, hrm, hDl⟩ := hI
      refine sr 1 S H t0 fun a w S H => ?_
      refine r_seq ?_
      refine r_test S rfl (fun h30 => ?_) (fun h30 => ?_)
      · skip
        refine wp_skip ?_
        refine x_then ?_
        refine r_seq ?_
        refine r_block ?_
        have hi : i < ns.length := by omega
        refine sb ?_
        obtain ⟨b8, rfl⟩ := H.rowAt (i := 1) rfl (by first | omega | (simp <;> omega))
        refine r_y S H (y_index S rfl rfl rfl Tryz.underlying35 Tryz.sizeOf9 (by omega) (by omega)) rfl rfl rfl fun a S => ?_
        refine r_y S H (y_loadAt S rfl rfl Tryz.isAgg9 (fun w H => (SlOk.ofRow (i := 1) H rfl).cell w H (strs_at (i := i) (by first | omega | (simp <;> omega))))) rfl rfl rfl fun a S => ?_
        refine rs 1 S H t0 fun a w S H => ?_
        refine r_seq ?_
        refine sb ?_
        refine rn 3 S H t0 fun a w S H => ?_
        refine r_call (args := #[str (ns.getD i []), .agg #[.int .u64 ((m.seq : Nat) : Int), .int .i64 (m.n), .int .i64 (m.shards), .int .i64 (m.step), .int .i64 (m.kind), .int .u32 ((m.start : Nat) : Int)], .bool (is)]) S rfl rfl Tryz.call33 (stays_ct (H := H) _ _ (hl.via fun _ H => H.drop.drop.drop) (ns.getD i []) m is (hnam _ (by rw [List.getD_eq_getElem?_getD, List.getElem?_eq_getElem hi]; exact List.getElem_mem hi)) (by omega) (by omega)) rfl rfl rfl fun v a w hR S => ?_
        obtain ⟨rfl, H⟩ := hR
        refine sn ?_
        refine r_cond S rfl (fun h36 => ?_) (fun h36 => ?_)
        · skip
          have h36t := h36
          refine wp_exit ?_
          refine x_thenExit ?_
          refine x_blockHere ?_
          refine x_then ?_
          refine er 2 S H (by omega) fun a w S H => ?_
          refine x_then ?_
          exact ⟨(i + 1, D), ⟨S.sub ⟨rfl, rfl, rfl, rfl, rfl, rfl, rfl, rfl, rfl, rfl, rfl, rfl, rfl, rfl, rfl, rfl, rfl, rfl, rfl, rfl, rfl, rfl, rfl, rfl, trivial⟩, H, ⟨by omega, hrm.trans (removes_stay hi D h36t), hDl⟩⟩, by show ns.length - (i + 1) < ns.length - i; omega⟩
        · skip
          have h36f := h36
          refine wp_skip ?_
          refine x_then ?_
          refine sr 4 S H (by omega) fun a w S H => ?_
          refine sr 2 S H t0 fun a w S H => ?_
          refine r_test S rfl (fun h41 => ?_) (fun h41 => ?_)
          · skip
            have hbad : (Dk.Disk.remove (ns.getD i []) D).2 ≠ 0 := by omega
            refine sr 2 S H t0 fun a w S H => ?_
            refine wp_ret ?_
            refine x_blockRet ?_
            refine x_thenRet ?_
            refine x_thenRet ?_
            refine x_blockRet ?_
            refine x_thenRet ?_
            refine r_ret1 S H Tryz.results14 (ro_tmp S rfl) ?_
            have e : (Cm.sweep d) = Cm.removes m is ns D2 := by unfold Cm.sweep; simp only; rw [hld]; simp only; rw [if_neg (by omega), hls]; simp only; rw [if_neg (by omega)]
            rw [e, hrm, removes_err hi D h36f hbad]
            exact ⟨rfl, pk [0] 3 H⟩
          · skip
            have hgo : ¬ (Dk.Disk.remove (ns.getD i []) D).2 ≠ 0 := by omega
            refine wp_skip ?_
            refine x_blockEnd ?_
            refine x_then ?_
            refine er 2 S H (by omega) fun a w S H => ?_
            refine x_then ?_
            exact ⟨(i + 1, (Dk.Disk.remove (ns.getD i []) D).1), ⟨S.sub ⟨rfl, rfl, rfl, rfl, rfl, rfl, rfl, rfl, rfl, rfl, rfl, rfl, rfl, rfl, rfl, rfl, rfl, rfl, rfl, rfl, rfl, rfl, rfl, rfl, trivial⟩, H, ⟨by omega, hrm.trans (removes_go hi D h36f hgo), by have := Dk.len_remove D (ns.getD i []); omega⟩⟩, by show ns.length - (i + 1) < ns.length - i; omega⟩
      · skip
        refine wp_exit ?_
        refine x_thenExit ?_
        refine x_thenExit ?_
        refine x_blockHere ?_
        refine x_then ?_
        refine sr 1 S H t0 fun a w S H => ?_
        refine wp_ret ?_
        refine r_ret1 S H Tryz.results14 (ro_tmp S rfl) ?_
        have e : (Cm.sweep d) = Cm.removes m is ns D2 := by unfold Cm.sweep; simp only; rw [hld]; simp only; rw [if_neg (by omega), hls]; simp only; rw [if_neg (by omega)]
        have hie : i = ns.length := by omega
        subst hie
        rw [e, hrm, List.drop_length]
        exact ⟨rfl, pk [0] 3 H⟩

end Go.Proofs.YtfndfpgmgnacgaaGreatDoor
namespace Go.Proofs.YtfndfpgmgnacgaaGreatDoor
open Go.RowKit Go.Cg
set_option linter.unusedVariables false
set_option linter.unusedSimpArgs false
set_option maxRecDepth 8000
set_option synthInstance.maxHeartbeats 1000000
set_option synthInstance.maxSize 1000000
open Go.Cg.Dk (By Nm)
open Go.Cg.Oc (Mf)
theorem pair_ct (w : World) (fr : List Res) (x y : Nat) (hx : x ≤ 9223372036854775807) (hy : y ≤ 9223372036854775807) (H : Sat w (fr)) :
    Rt Tryz.prog 77 #[.int .i64 ((x : Nat) : Int), .int .i64 ((y : Nat) : Int)] w fun v w' => ∃ A c, v = .slice A (Oc.le 8 x ++ Oc.le 8 y).length c ∧ Sat w' (row 5 1 (.slice A (Oc.le 8 x ++ Oc.le 8 y).length c) (Oc.le 8 x ++ Oc.le 8 y).length (u8s (Oc.le 8 x ++ Oc.le 8 y)) :: fr) := by
  refine en2 Tryz.func77 rfl Tryz.ntmps77 rfl fun a S => ?_
  refine sr 1 S H t0 fun a w S H => ?_
  refine sb ?_
  refine rn 1 S H t0 fun a w S H => ?_
  refine r_y S H (y_conv S rfl rfl Tryz.underlying3 Tryz.underlying22 (wu64 (by omega) (by omega))) rfl rfl rfl fun a S => ?_
  have S := S.retell (v' := .int .u64 ((x : Nat) : Int)) 6 rfl rfl
  refine r_call (args := #[.slice none 0 0, .int .i64 8, .int .u64 ((x : Nat) : Int)]) S rfl rfl Tryz.call52 (put_ct (H := H) _ _ _ _ _ ([]) (SlOk.nil8 _) 8 x (by omega) (by simp)) rfl rfl rfl fun v a w hR S => ?_
  obtain ⟨A3, c4, rfl, H⟩ := hR
  refine rn 2 S H (by omega) fun a w S H => ?_
  refine r_call (args := #[.slice A3 ((Oc.put ([]) 8 x).length) c4, .int .i64 8, .int .u64 ((y : Nat) : Int)]) S rfl rfl Tryz.call52 (put_ct (H := H) _ _ _ _ _ (Oc.put ([]) 8 x) (SlOk.ofRow (i := 0) H rfl) 8 y (by omega) (by simp [Oc.put, Oc.le_len]; omega)) rfl rfl rfl fun v a w hR S => ?_
  obtain ⟨A5, c6, rfl, H⟩ := hR
  refine rs 1 S H t0 fun a w S H => ?_
  refine wp_ret ?_
  refine r_ret1 S H Tryz.results77 (ro_tmp S rfl) ?_
  have e : Oc.put (Oc.put ([]) 8 x) 8 y = (Oc.le 8 x ++ Oc.le 8 y) := by simp [Oc.put]; rfl
  have H := pk [0] 2 H
  rw [e] at H ⊢
  exact ⟨_, _, rfl, H⟩

end Go.Proofs.YtfndfpgmgnacgaaGreatDoor
namespace Go.Proofs.YtfndfpgmgnacgaaGreatDoor
open Go.RowKit Go.Cg
set_option linter.unusedVariables false
set_option linter.unusedSimpArgs false
set_option maxRecDepth 8000
set_option synthInstance.maxHeartbeats 1000000
set_option synthInstance.maxSize 1000000
open Go.Cg.Dk (By Nm)
open Go.Cg.Oc (Mf)
structure Enc (sN : Nat) (zs : List (Nat × Bool)) (i : Nat) (ds : List By) (pend : List (Nat × Bool)) (cur : By) : Prop where
  all : Oc.stexts sN zs = ds ++ (Oc.chunks (pend ++ zs.drop i).length (pend ++ zs.drop i)).map Oc.vtext
  few : pend.length < 100
  txt : cur = Oc.vtext pend
  fin : i = zs.length → pend = []
  cnt : ds.length ≤ i + 1
  le : ∀ d ∈ ds, d.length ≤ 1000
theorem Enc.start (sN : Nat) (zs : List (Nat × Bool)) : Enc sN zs 0 [Oc.le 8 sN ++ Oc.le 8 zs.length] [] [] := ⟨by simp [Oc.stexts], by decide, rfl, fun _ => rfl, Nat.le_refl _, fun d hd => by rw [List.mem_singleton.1 hd]; simp [Oc.le_len]⟩
theorem Enc.last {sN : Nat} {zs : List (Nat × Bool)} {ds : List By} {pend : List (Nat × Bool)} {cur : By} (h : Enc sN zs zs.length ds pend cur) : Oc.stexts sN zs = ds := by
  have := h.all; rw [h.fin rfl, List.drop_length] at this; simpa [Oc.chunks] using this
theorem vtext_snoc (l : List (Nat × Bool)) (v : Nat × Bool) : Oc.vtext (l ++ [v]) = Oc.vtext l ++ Oc.vbytes v := by simp [Oc.vtext]
theorem Enc.go {sN : Nat} {zs : List (Nat × Bool)} {i : Nat} {ds : List By} {pend : List (Nat × Bool)} {cur : By} (h : Enc sN zs i ds pend cur) {v : Nat × Bool} (hv : zs[i]? = some v) (h1 : pend.length + 1 ≠ 100) (h2 : i + 1 ≠ zs.length) : Enc sN zs (i + 1) ds (pend ++ [v]) (cur ++ Oc.vbytes v) := by
  obtain ⟨hi, e⟩ := List.getElem?_eq_some_iff.1 hv
  have hd : zs.drop i = v :: zs.drop (i + 1) := by rw [← e]; exact List.drop_eq_getElem_cons hi
  have hr : pend ++ zs.drop i = (pend ++ [v]) ++ zs.drop (i + 1) := by rw [hd]; simp
  exact ⟨by rw [← hr]; exact h.all, by have := h.few; simp; omega, by rw [h.txt, vtext_snoc], fun e => absurd e h2, by have := h.cnt; omega, h.le⟩
theorem Enc.cut {sN : Nat} {zs : List (Nat × Bool)} {i : Nat} {ds : List By} {pend : List (Nat × Bool)} {cur : By} (h : Enc sN zs i ds pend cur) {v : Nat × Bool} (hv : zs[i]? = some v) (h1 : pend.length + 1 = 100 ∨ i + 1 = zs.length) : Enc sN zs (i + 1) (ds ++ [cur ++ Oc.vbytes v]) [] [] := by
  obtain ⟨hi, e⟩ := List.getElem?_eq_some_iff.1 hv
  have hd : zs.drop i = v :: zs.drop (i + 1) := by rw [← e]; exact List.drop_eq_getElem_cons hi
  have hr : pend ++ zs.drop i = (pend ++ [v]) ++ zs.drop (i + 1) := by rw [hd]; simp
  have hf := h.few
  have hlp : (pend ++ [v]).length ≤ 100 := by simp; omega
  have hc : ∀ f, (pend ++ [v] ++ zs.drop (i + 1)).length ≤ f → (Oc.chunks f (pend ++ [v] ++ zs.drop (i + 1))).map Oc.vtext = (cur ++ Oc.vbytes v) :: (Oc.chunks (f - 1) (zs.drop (i + 1))).map Oc.vtext := by
    intro f hfl
    cases f with
    | zero => simp at hfl
    | succ f =>
      rw [Oc.chunks, if_neg (by simp), List.map_cons]
      have ht : (pend ++ [v] ++ zs.drop (i + 1)).take 100 = pend ++ [v] := by
        rcases h1 with h1 | h1
        · exact List.take_left' (by simp; omega)
        · have hz : zs.drop (i + 1) = [] := List.drop_eq_nil_of_le (by omega)
          rw [hz, List.append_nil, List.take_of_length_le hlp]
      have hd2 : (pend ++ [v] ++ zs.drop (i + 1)).drop 100 = zs.drop (i + 1) := by
        rcases h1 with h1 | h1
        · exact List.drop_left' (by simp; omega)
        · have hz : zs.drop (i + 1) = [] := List.drop_eq_nil_of_le (by omega)
          rw [hz, List.append_nil, List.drop_eq_nil_of_le hlp]
      rw [ht, hd2, vtext_snoc, h.txt]; rfl
  refine ⟨?_, by decide, rfl, fun _ => rfl, by have := h.cnt; simp; omega, fun d hd => ?_⟩
  · have hmore : ∀ (f g : Nat) (l : List (Nat × Bool)), l.length ≤ f → l.length ≤ g → Oc.chunks f l = Oc.chunks g l := by
      intro f
      induction f with
      | zero => intro g l h1 _; have : l = [] := List.eq_nil_of_length_eq_zero (by omega); subst this; cases g <;> simp [Oc.chunks]
      | succ f ih =>
        intro g l h1 h2
        cases g with
        | zero => have : l = [] := List.eq_nil_of_length_eq_zero (by omega); subst this; simp [Oc.chunks]
        | succ g =>
          by_cases hl : l = []
          · simp [Oc.chunks, hl]
          · rw [Oc.chunks, Oc.chunks, if_neg hl, if_neg hl]
            congr 1
            have := List.length_pos_iff.2 hl
            exact ih g _ (by simp; omega) (by simp; omega)
    rw [h.all, hr, hc _ (Nat.le_refl _), hmore _ (zs.drop (i + 1)).length (zs.drop (i + 1)) (by first | (simp; done) | (simp; omega)) (Nat.le_refl _)]
    simp
  · rcases List.mem_append.1 hd with h3 | h3
    · exact h.le d h3
    · rw [List.mem_singleton.1 h3, h.txt, List.length_append, Oc.vtext_len]
      have : (Oc.vbytes v).length = 9 := by simp [Oc.vbytes, Oc.le_len]
      omega
end Go.Proofs.YtfndfpgmgnacgaaGreatDoor
namespace Go.Proofs.YtfndfpgmgnacgaaGreatDoor
open Go.RowKit Go.Cg
set_option linter.unusedVariables false
set_option linter.unusedSimpArgs false
set_option maxRecDepth 8000
set_option synthInstance.maxHeartbeats 1000000
set_option synthInstance.maxSize 1000000
open Go.Cg.Dk (By Nm)
open Go.Cg.Oc (Mf)
theorem zip_at {vals : List Nat} {live : List Bool} {i : Nat} (h : i < vals.length) (h2 : vals.length = live.length) : (vals.zip live)[i]? = some (vals.getD i 0, live.getD i false) := by
  rw [List.getElem?_zip_eq_some (z := (vals.getD i 0, live.getD i false))]
  rw [List.getD_eq_getElem?_getD, List.getD_eq_getElem?_getD, List.getElem?_eq_getElem h, List.getElem?_eq_getElem (by omega)]; exact ⟨rfl, rfl⟩
theorem join_ok {ds : List By} (h : ∀ d ∈ ds, d.length ≤ 1000) : Oc.join ds = (Oc.joined ds, 0) := by
  unfold Oc.join; rw [if_neg]; rw [List.any_eq_true]; rintro ⟨t, ht, hh⟩; have := h t ht; simp at hh; omega
theorem getDn_mem {vals : List Nat} {i : Nat} (h : i < vals.length) : vals.getD i 0 ∈ vals := by
  rw [List.getD_eq_getElem?_getD, List.getElem?_eq_getElem h]; exact List.getElem_mem h
theorem sencode_ct (w : World) (fr : List Res) (step : Int) (hst : step ≤ 9223372036854775807) (A1 : Option Addr) (n1 c1 : Nat) (vals : List Nat) (ok1 : SlOk fr 1 A1 n1 c1 (u64s vals)) (A2 : Option Addr) (n2 c2 : Nat) (live : List Bool) (ok2 : SlOk fr 1 A2 n2 c2 (bools live)) (hv64 : ∀ x ∈ vals, x < 18446744073709551616) (H : Sat w (fr)) :
    Rt Tryz.prog 44 #[.int .i64 step, .agg #[.slice A1 n1 c1, .slice A2 n2 c2]] w fun v w' => ∃ A c, v = .tuple #[.slice A (Oc.senc step vals live).1.length c, .int .i64 (((Oc.senc step vals live).2 : Nat) : Int)] ∧ Sat w' (row 5 1 (.slice A (Oc.senc step vals live).1.length c) (Oc.senc step vals live).1.length (u8s (Oc.senc step vals live).1) :: fr) := by
  refine en2 Tryz.func44 rfl Tryz.ntmps44 rfl fun a S => ?_
  have hn1 : n1 = vals.length := by have := ok1.len; simp at this; omega
  subst hn1
  have hn2 : n2 = live.length := by have := ok2.len; simp at this; omega
  subst hn2
  have hc1 := ok1.le
  have hc2 := ok2.le
  refine sb ?_
  refine r_box (c := #[.slice A1 vals.length c1, .slice A2 live.length c2]) S H rfl rfl rfl rfl rfl rfl fun a w b1 S H => ?_
  refine rs 2 S H t0 fun a w S H => ?_
  refine sr 4 S H t0 fun a w S H => ?_
  refine r_seq ?_
  refine sb ?_
  refine rn 3 S H t0 fun a w S H => ?_
  refine scO 4 S H (fun _ => t0) fun a w S H => ?_
  refine rn 1 S H t0 fun a w S H => ?_
  refine scO 1 S H (fun _ => t0) fun a w S H => ?_
  refine sn ?_
  refine r_cond S rfl (fun h27 => ?_) (fun h27 => ?_)
  · skip
    refine sr 2 S H t0 fun a w S H => ?_
    refine wp_ret ?_
    refine x_thenRet ?_
    refine r_ret2 S H Tryz.results44 (ro_tmp S rfl) (ro_tmp S rfl) ?_
    have e : Oc.senc step vals live = ([], 1) := by unfold Oc.senc; rw [if_pos]; simp at h27; omega
    rw [e]
    exact ⟨none, 0, rfl, H.drop.nilRow _ _⟩
  · skip
    simp only [Bool.or_eq_false_iff, decide_eq_false_iff_not] at h27
    refine wp_skip ?_
    refine x_then ?_
    obtain ⟨sN, rfl⟩ : ∃ sN : Nat, step = ((sN : Nat) : Int) := ⟨step.toNat, by omega⟩
    have hvl : vals.length = live.length := by omega
    have hzl : (vals.zip live).length = vals.length := by simp [List.length_zip]; omega
    refine sb ?_
    refine rn 2 S H t0 fun a w S H => ?_
    refine r_call (args := #[.int .i64 ((sN : Nat) : Int), .int .i64 ((vals.length : Nat) : Int)]) S rfl rfl Tryz.call77 (pair_ct (H := H) _ _ sN vals.length (by omega) (by omega)) rfl rfl rfl fun v a w hR S => ?_
    obtain ⟨A6, c7, rfl, H⟩ := hR
    refine r_lit (vs := #[(0, .slice A6 ((Oc.le 8 sN ++ Oc.le 8 vals.length).length) c7)]) (cs := sls [(A6, (Oc.le 8 sN ++ Oc.le 8 vals.length).length, c7)]) S H rfl rfl el132 (by kernel_rfl) (by decide) (by rfl) rfl rfl rfl fun a w b8 S H => ?_
    refine rs 1 S H t0 fun a w S H => ?_
    refine sr 1 S H t0 fun a w S H => ?_
    refine r_seq ?_
    have H := H.noBlks
    have H := Sat.blkIn (pk [2, 0, 1, 3] 4 H)
    have H := H.nilRow 5 1
    replace H : Sat _ (row 5 1 (.slice none 0 0) 0 (u8s ([])) :: blksR [(A6, (Oc.le 8 sN ++ Oc.le 8 vals.length).length, c7)] [(Oc.le 8 sN ++ Oc.le 8 vals.length)] :: row 41 1 (.slice (some ⟨b8, 0, none⟩) 1 1) 1 (sls [(A6, (Oc.le 8 sN ++ Oc.le 8 vals.length).length, c7)]) :: blk b1 (.cells #[.slice A1 vals.length c1, .slice A2 live.length c2] 53) :: fr) := H
    refine sr 4 S H t0 fun a w S H => ?_
    refine r_block ?_
    refine r_loop (ι := Nat × List Sl × List By × Option Addr × Nat × List (Nat × Bool) × By × Option Addr × Nat) (fun ⟨i, l, ds, Al, cl, pend, cur, Ac, cc⟩ a w => Slots a 69 [(0, .int .i64 ((sN : Nat) : Int)), (1, .agg #[.slice A1 vals.length c1, .slice A2 live.length c2]), (3, .pointer (some ⟨b1, 0, none⟩)), (4, .slice none 0 0), (5, .int .i64 0), (6, .int .i64 ((vals.length : Nat) : Int)), (7, .slice Al l.length cl), (8, .slice Ac cur.length cc), (12, .pointer (some ⟨b1, 0, none⟩)), (13, .slice A1 vals.length c1), (14, .int .i64 ((vals.length : Nat) : Int)), (15, .int .i64 ((sN : Nat) : Int)), (16, .bool (decide (((sN : Nat) : Int) < 0))), (17, .bool (decide (((sN : Nat) : Int) < 0))), (23, .bool ((decide (((sN : Nat) : Int) < 0)) || (decide (((vals.length : Nat) : Int) ≠ ((live.length : Nat) : Int))))), (24, .bool ((decide (((sN : Nat) : Int) < 0)) || (decide (((vals.length : Nat) : Int) ≠ ((live.length : Nat) : Int))))), (27, .bool (((decide (((sN : Nat) : Int) < 0)) || (decide (((vals.length : Nat) : Int) ≠ ((live.length : Nat) : Int)))) || (decide (1048576 < ((vals.length : Nat) : Int))))), (28, .int .i64 ((sN : Nat) : Int)), (29, .int .i64 ((vals.length : Nat) : Int)), (30, .slice A6 ((Oc.le 8 sN ++ Oc.le 8 vals.length).length) c7), (31, .slice (some ⟨b8, 0, none⟩) 1 1), (32, .pointer (some ⟨b1, 0, none⟩)), (33, .slice A1 vals.length c1), (34, .int .i64 ((vals.length : Nat) : Int)), (35, .int .i64 ((i : Nat) : Int)), (69, undef)] ∧ Sat w (row 5 1 (.slice Ac cur.length cc) cur.length (u8s cur) :: row 41 1 (.slice Al l.length cl) l.length (sls l) :: blksR l ds :: blk b1 (.cells #[.slice A1 vals.length c1, .slice A2 live.length c2] 53) :: fr) ∧ (i ≤ vals.length ∧ l.length = ds.length ∧ Enc sN (vals.zip live) i ds pend cur)) (fun ⟨i, l, ds, Al, cl, pend, cur, Ac, cc⟩ => vals.length - i) (0, [(A6, (Oc.le 8 sN ++ Oc.le 8 vals.length).length, c7)], [(Oc.le 8 sN ++ Oc.le 8 vals.length)], (some ⟨b8, 0, none⟩), 1, [], [], none, 0) ⟨S.sub ⟨rfl, rfl, rfl, rfl, rfl, rfl, rfl, rfl, rfl, rfl, rfl, rfl, rfl, rfl, rfl, rfl, rfl, rfl, rfl, rfl, rfl, rfl, rfl, rfl, rfl, rfl, trivial⟩, pk [0, 2, 1, 3] 4 H, ⟨Nat.zero_le _, rfl, by have := Enc.start sN (vals.zip live); rw [hzl] at this; exact this⟩⟩ (fun ⟨i, l, ds, Al, cl, pend, cur, Ac, cc⟩ a w hI => ?_)
    obtain ⟨S, H, hI⟩ := hI
    obtain ⟨hin, hll, hE⟩ := hI
    have hcn := hE.cnt
    have hfw := hE.few
    have hcl : cur.length = pend.length * 9 := by rw [hE.txt, Oc.vtext_len]
    refine sr 1 S H t0 fun a w S H => ?_
    refine r_seq ?_
    refine r_test S rfl (fun h36 => ?_) (fun h36 => ?_)
    · skip
      refine wp_skip ?_
      refine x_then ?_
      refine r_seq ?_
      refine r_block ?_
      have hi : i < vals.length := by omega
      have hv := zip_at hi hvl
      have hx64 := hv64 _ (getDn_mem hi)
      have hpl : (Oc.put cur 8 (vals.getD i 0)).length = cur.length + 8 := by simp only [Oc.put, List.length_append, Oc.le_len]; rfl
      refine sb ?_
      refine rn 1 S H t0 fun a w S H => ?_
      obtain ⟨b9, o10, rfl⟩ := ((((ok1.more _).more _).more _).more _).addr H (by first | omega | (simp <;> omega))
      refine r_y S H (y_index S rfl rfl rfl Tryz.underlying50 Tryz.sizeOf22 (by omega) (by omega)) rfl rfl rfl fun a S => ?_
      refine r_y S H (y_loadAt S rfl rfl Tryz.isAgg22 (fun w H => ((((ok1.more _).more _).more _).more _).cell w H (u64s_at (i := i) (by first | omega | (simp <;> omega))))) rfl rfl rfl fun a S => ?_
      refine rs 2 S H t0 fun a w S H => ?_
      refine sr 1 S H t0 fun a w S H => ?_
      refine r_seq ?_
      refine sb ?_
      refine rn 3 S H t0 fun a w S H => ?_
      obtain ⟨b11, o12, rfl⟩ := ((((ok2.more _).more _).more _).more _).addr H (by first | omega | (simp <;> omega))
      refine r_y S H (y_index S rfl rfl rfl Tryz.underlying51 Tryz.sizeOf4 (by omega) (by omega)) rfl rfl rfl fun a S => ?_
      refine r_y S H (y_loadAt S rfl rfl Tryz.isAgg4 (fun w H => ((((ok2.more _).more _).more _).more _).cell w H (bools_at (i := i) (by first | omega | (simp <;> omega))))) rfl rfl rfl fun a S => ?_
      refine sn ?_
      refine r_cond S rfl (fun h44 => ?_) (fun h44 => ?_)
      · skip
        refine er 1 S H t0 fun a w S H => ?_
        refine x_then ?_
        refine sb ?_
        refine rn 2 S H t0 fun a w S H => ?_
        refine r_call (args := #[.slice Ac cur.length cc, .int .i64 8, .int .u64 ((vals.getD i 0 : Nat) : Int)]) S rfl rfl Tryz.call52 (put_ct (H := H) _ _ _ _ _ cur (SlOk.ofRow (i := 0) H rfl) 8 (vals.getD i 0) (hx64) (by omega)) rfl rfl rfl fun v a w hR S => ?_
        obtain ⟨A13, c14, rfl, H⟩ := hR
        refine rn 1 S H t0 fun a w S H => ?_
        refine r_lit (vs := #[(0, .int .u8 1)]) (cs := u8s [UInt8.ofNat 1]) S H rfl rfl el41 (by kernel_rfl) (by decide) (by rfl) rfl rfl rfl fun a w b15 S H => ?_
        refine r_appendS (L' := fun A16 c17 => row 5 1 (.slice (some ⟨b15, 0, none⟩) 1 1) 1 (u8s [UInt8.ofNat 1]) :: row 5 1 (.slice A16 ((Oc.put cur 8 (vals.getD i 0)).length + 1) c17) ((Oc.put cur 8 (vals.getD i 0)).length + 1) (u8s ((Oc.put cur 8 (vals.getD i 0)) ++ ([UInt8.ofNat 1]))) :: row 5 1 (.slice Ac cur.length cc) cur.length (u8s cur) :: row 41 1 (.slice Al l.length cl) l.length (sls l) :: blksR l ds :: blk b1 (.cells #[.slice (some ⟨b9, o10, none⟩) vals.length c1, .slice (some ⟨b11, o12, none⟩) live.length c2] 53) :: fr) (xs' := u8s ((Oc.put cur 8 (vals.getD i 0)) ++ ([UInt8.ofNat 1]))) 1 S H rfl rfl rfl rfl el41 (SlOk.ofRow (i := 0) H rfl) (one_u8s _) (by simp only [maxLen]; first | omega | (simp <;> omega)) (by first | omega | (simp <;> omega)) (u8s_app (Oc.put cur 8 (vals.getD i 0)) ([UInt8.ofNat 1])) (by first | omega | (simp <;> omega)) (fun _ _ => rfl) rfl rfl rfl fun a w A16 c17 hA16 S H => ?_
        refine rs 1 S H t0 fun a w S H => ?_
        refine sb ?_
        refine rn 4 S H t0 fun a w S H => ?_
        refine scO 3 S H (fun h => by simp only [Bool.or_eq_false_iff, Bool.and_eq_true, decide_eq_true_eq, decide_eq_false_iff_not] at h; omega) fun a w S H => ?_
        refine sn ?_
        refine r_cond S rfl (fun h59 => ?_) (fun h59 => ?_)
        · skip
          have hyes : pend.length + 1 = 100 ∨ i + 1 = (vals.zip live).length := by simp [Oc.put, Oc.le_len] at h59; omega
          refine r_region ?_
          refine rn 2 S H t0 fun a w S H => ?_
          refine r_lit (vs := #[(0, .slice A16 ((Oc.put cur 8 (vals.getD i 0)).length + 1) c17)]) (cs := sls [(A16, (Oc.put cur 8 (vals.getD i 0)).length + 1, c17)]) S H rfl rfl el132 (by kernel_rfl) (by decide) (by rfl) rfl rfl rfl fun a w b18 S H => ?_
          refine r_appendS (L' := fun A19 c20 => row 41 1 (.slice (some ⟨b18, 0, none⟩) 1 1) 1 (sls [(A16, (Oc.put cur 8 (vals.getD i 0)).length + 1, c17)]) :: row 5 1 (.slice (some ⟨b15, 0, none⟩) 1 1) 1 (u8s [UInt8.ofNat 1]) :: row 5 1 (.slice A16 ((Oc.put cur 8 (vals.getD i 0)).length + 1) c17) ((Oc.put cur 8 (vals.getD i 0)).length + 1) (u8s ((Oc.put cur 8 (vals.getD i 0)) ++ ([UInt8.ofNat 1]))) :: row 5 1 (.slice Ac cur.length cc) cur.length (u8s cur) :: row 41 1 (.slice A19 (l.length + 1) c20) (l.length + 1) (sls (l ++ ([(A16, (Oc.put cur 8 (vals.getD i 0)).length + 1, c17)]))) :: blksR l ds :: blk b1 (.cells #[.slice (some ⟨b9, o10, none⟩) vals.length c1, .slice (some ⟨b11, o12, none⟩) live.length c2] 53) :: fr) (xs' := sls (l ++ ([(A16, (Oc.put cur 8 (vals.getD i 0)).length + 1, c17)]))) 4 S H rfl rfl rfl rfl el132 (SlOk.ofRow (i := 0) H rfl) (one_sls _) (by simp only [maxLen]; first | omega | (simp <;> omega)) (by first | omega | (simp <;> omega)) (sls_app l ([(A16, (Oc.put cur 8 (vals.getD i 0)).length + 1, c17)])) (by first | omega | (simp <;> omega)) (fun _ _ => rfl) rfl rfl rfl fun a w A19 c20 hA19 S H => ?_
          refine rn 2 S H t0 fun a w S H => ?_
          refine r_nil ?_
          refine x_blockEnd ?_
          refine x_then ?_
          refine er 2 S H (by omega) fun a w S H => ?_
          refine x_then ?_
          have ec : (Oc.put cur 8 (vals.getD i 0)) ++ ([UInt8.ofNat 1]) = cur ++ Oc.vbytes (vals.getD i 0, live.getD i false) := by simp [Oc.put, Oc.vbytes, h44, -List.getD_eq_getElem?_getD]; rfl
          have el_ : (Oc.put cur 8 (vals.getD i 0)).length + 1 = (cur ++ Oc.vbytes (vals.getD i 0, live.getD i false)).length := by rw [← ec]; simp
          have H := pk [2, 5, 4, 6] 7 H
          rw [ec] at H
          rw [el_] at H
          have H := Sat.blkIn H
          have H := H.nilRow 5 1
          have H := pk [0, 2, 1, 3] 4 H
          exact ⟨(i + 1, l ++ ([(A16, (Oc.put cur 8 (vals.getD i 0)).length + 1, c17)]), ds ++ [cur ++ Oc.vbytes (vals.getD i 0, live.getD i false)], A19, c20, [], [], none, 0), ⟨S.sub ⟨rfl, rfl, rfl, rfl, rfl, rfl, (by simp; rfl), rfl, rfl, rfl, rfl, rfl, rfl, rfl, rfl, rfl, rfl, rfl, rfl, rfl, rfl, rfl, rfl, rfl, rfl, rfl, trivial⟩, (by rw [el_]; simpa using H), ⟨by omega, by simp [hll], hE.cut hv hyes⟩⟩, by show vals.length - (i + 1) < vals.length - i; omega⟩
        · skip
          have hno1 : pend.length + 1 ≠ 100 := by simp [Oc.put, Oc.le_len] at h59; omega
          have hno2 : i + 1 ≠ (vals.zip live).length := by simp [Oc.put, Oc.le_len] at h59; omega
          refine wp_skip ?_
          refine x_blockEnd ?_
          refine x_then ?_
          refine er 2 S H (by omega) fun a w S H => ?_
          refine x_then ?_
          have ec : (Oc.put cur 8 (vals.getD i 0)) ++ ([UInt8.ofNat 1]) = cur ++ Oc.vbytes (vals.getD i 0, live.getD i false) := by simp [Oc.put, Oc.vbytes, h44, -List.getD_eq_getElem?_getD]; rfl
          have H := pk [1, 3, 4, 5] 6 H
          have el_ : (Oc.put cur 8 (vals.getD i 0)).length + 1 = (cur ++ Oc.vbytes (vals.getD i 0, live.getD i false)).length := by rw [← ec]; simp
          rw [ec] at H
          rw [el_] at H S
          exact ⟨(i + 1, l, ds, Al, cl, pend ++ [(vals.getD i 0, live.getD i false)], cur ++ Oc.vbytes (vals.getD i 0, live.getD i false), A16, c17), ⟨S.sub ⟨rfl, rfl, rfl, rfl, rfl, rfl, rfl, rfl, rfl, rfl, rfl, rfl, rfl, rfl, rfl, rfl, rfl, rfl, rfl, rfl, rfl, rfl, rfl, rfl, rfl, rfl, trivial⟩, H, ⟨by omega, hll, hE.go hv hno1 hno2⟩⟩, by show vals.length - (i + 1) < vals.length - i; omega⟩
      · skip
        refine wp_skip ?_
        refine x_then ?_
        refine sb ?_
        refine rn 2 S H t0 fun a w S H => ?_
        refine r_call (args := #[.slice Ac cur.length cc, .int .i64 8, .int .u64 ((vals.getD i 0 : Nat) : Int)]) S rfl rfl Tryz.call52 (put_ct (H := H) _ _ _ _ _ cur (SlOk.ofRow (i := 0) H rfl) 8 (vals.getD i 0) (hx64) (by omega)) rfl rfl rfl fun v a w hR S => ?_
        obtain ⟨A21, c22, rfl, H⟩ := hR
        refine rn 1 S H t0 fun a w S H => ?_
        refine r_lit (vs := #[(0, .int .u8 0)]) (cs := u8s [UInt8.ofNat 0]) S H rfl rfl el41 (by kernel_rfl) (by decide) (by rfl) rfl rfl rfl fun a w b23 S H => ?_
        refine r_appendS (L' := fun A24 c25 => row 5 1 (.slice (some ⟨b23, 0, none⟩) 1 1) 1 (u8s [UInt8.ofNat 0]) :: row 5 1 (.slice A24 ((Oc.put cur 8 (vals.getD i 0)).length + 1) c25) ((Oc.put cur 8 (vals.getD i 0)).length + 1) (u8s ((Oc.put cur 8 (vals.getD i 0)) ++ ([UInt8.ofNat 0]))) :: row 5 1 (.slice Ac cur.length cc) cur.length (u8s cur) :: row 41 1 (.slice Al l.length cl) l.length (sls l) :: blksR l ds :: blk b1 (.cells #[.slice (some ⟨b9, o10, none⟩) vals.length c1, .slice (some ⟨b11, o12, none⟩) live.length c2] 53) :: fr) (xs' := u8s ((Oc.put cur 8 (vals.getD i 0)) ++ ([UInt8.ofNat 0]))) 1 S H rfl rfl rfl rfl el41 (SlOk.ofRow (i := 0) H rfl) (one_u8s _) (by simp only [maxLen]; first | omega | (simp <;> omega)) (by first | omega | (simp <;> omega)) (u8s_app (Oc.put cur 8 (vals.getD i 0)) ([UInt8.ofNat 0])) (by first | omega | (simp <;> omega)) (fun _ _ => rfl) rfl rfl rfl fun a w A24 c25 hA24 S H => ?_
        refine rs 1 S H t0 fun a w S H => ?_
        refine sb ?_
        refine rn 4 S H t0 fun a w S H => ?_
        refine scO 3 S H (fun h => by simp only [Bool.or_eq_false_iff, Bool.and_eq_true, decide_eq_true_eq, decide_eq_false_iff_not] at h; omega) fun a w S H => ?_
        refine sn ?_
        refine r_cond S rfl (fun h59 => ?_) (fun h59 => ?_)
        · skip
          have hyes : pend.length + 1 = 100 ∨ i + 1 = (vals.zip live).length := by simp [Oc.put, Oc.le_len] at h59; omega
          refine r_region ?_
          refine rn 2 S H t0 fun a w S H => ?_
          refine r_lit (vs := #[(0, .slice A24 ((Oc.put cur 8 (vals.getD i 0)).length + 1) c25)]) (cs := sls [(A24, (Oc.put cur 8 (vals.getD i 0)).length + 1, c25)]) S H rfl rfl el132 (by kernel_rfl) (by decide) (by rfl) rfl rfl rfl fun a w b26 S H => ?_
          refine r_appendS (L' := fun A27 c28 => row 41 1 (.slice (some ⟨b26, 0, none⟩) 1 1) 1 (sls [(A24, (Oc.put cur 8 (vals.getD i 0)).length + 1, c25)]) :: row 5 1 (.slice (some ⟨b23, 0, none⟩) 1 1) 1 (u8s [UInt8.ofNat 0]) :: row 5 1 (.slice A24 ((Oc.put cur 8 (vals.getD i 0)).length + 1) c25) ((Oc.put cur 8 (vals.getD i 0)).length + 1) (u8s ((Oc.put cur 8 (vals.getD i 0)) ++ ([UInt8.ofNat 0]))) :: row 5 1 (.slice Ac cur.length cc) cur.length (u8s cur) :: row 41 1 (.slice A27 (l.length + 1) c28) (l.length + 1) (sls (l ++ ([(A24, (Oc.put cur 8 (vals.getD i 0)).length + 1, c25)]))) :: blksR l ds :: blk b1 (.cells #[.slice (some ⟨b9, o10, none⟩) vals.length c1, .slice (some ⟨b11, o12, none⟩) live.length c2] 53) :: fr) (xs' := sls (l ++ ([(A24, (Oc.put cur 8 (vals.getD i 0)).length + 1, c25)]))) 4 S H rfl rfl rfl rfl el132 (SlOk.ofRow (i := 0) H rfl) (one_sls _) (by simp only [maxLen]; first | omega | (simp <;> omega)) (by first | omega | (simp <;> omega)) (sls_app l ([(A24, (Oc.put cur 8 (vals.getD i 0)).length + 1, c25)])) (by first | omega | (simp <;> omega)) (fun _ _ => rfl) rfl rfl rfl fun a w A27 c28 hA27 S H => ?_
          refine rn 2 S H t0 fun a w S H => ?_
          refine r_nil ?_
          refine x_blockEnd ?_
          refine x_then ?_
          refine er 2 S H (by omega) fun a w S H => ?_
          refine x_then ?_
          have ec : (Oc.put cur 8 (vals.getD i 0)) ++ ([UInt8.ofNat 0]) = cur ++ Oc.vbytes (vals.getD i 0, live.getD i false) := by simp [Oc.put, Oc.vbytes, h44, -List.getD_eq_getElem?_getD]; rfl
          have el_ : (Oc.put cur 8 (vals.getD i 0)).length + 1 = (cur ++ Oc.vbytes (vals.getD i 0, live.getD i false)).length := by rw [← ec]; simp
          have H := pk [2, 5, 4, 6] 7 H
          rw [ec] at H
          rw [el_] at H
          have H := Sat.blkIn H
          have H := H.nilRow 5 1
          have H := pk [0, 2, 1, 3] 4 H
          exact ⟨(i + 1, l ++ ([(A24, (Oc.put cur 8 (vals.getD i 0)).length + 1, c25)]), ds ++ [cur ++ Oc.vbytes (vals.getD i 0, live.getD i false)], A27, c28, [], [], none, 0), ⟨S.sub ⟨rfl, rfl, rfl, rfl, rfl, rfl, (by simp; rfl), rfl, rfl, rfl, rfl, rfl, rfl, rfl, rfl, rfl, rfl, rfl, rfl, rfl, rfl, rfl, rfl, rfl, rfl, rfl, trivial⟩, (by rw [el_]; simpa using H), ⟨by omega, by simp [hll], hE.cut hv hyes⟩⟩, by show vals.length - (i + 1) < vals.length - i; omega⟩
        · skip
          have hno1 : pend.length + 1 ≠ 100 := by simp [Oc.put, Oc.le_len] at h59; omega
          have hno2 : i + 1 ≠ (vals.zip live).length := by simp [Oc.put, Oc.le_len] at h59; omega
          refine wp_skip ?_
          refine x_blockEnd ?_
          refine x_then ?_
          refine er 2 S H (by omega) fun a w S H => ?_
          refine x_then ?_
          have ec : (Oc.put cur 8 (vals.getD i 0)) ++ ([UInt8.ofNat 0]) = cur ++ Oc.vbytes (vals.getD i 0, live.getD i false) := by simp [Oc.put, Oc.vbytes, h44, -List.getD_eq_getElem?_getD]; rfl
          have H := pk [1, 3, 4, 5] 6 H
          have el_ : (Oc.put cur 8 (vals.getD i 0)).length + 1 = (cur ++ Oc.vbytes (vals.getD i 0, live.getD i false)).length := by rw [← ec]; simp
          rw [ec] at H
          rw [el_] at H S
          exact ⟨(i + 1, l, ds, Al, cl, pend ++ [(vals.getD i 0, live.getD i false)], cur ++ Oc.vbytes (vals.getD i 0, live.getD i false), A24, c25), ⟨S.sub ⟨rfl, rfl, rfl, rfl, rfl, rfl, rfl, rfl, rfl, rfl, rfl, rfl, rfl, rfl, rfl, rfl, rfl, rfl, rfl, rfl, rfl, rfl, rfl, rfl, rfl, rfl, trivial⟩, H, ⟨by omega, hll, hE.go hv hno1 hno2⟩⟩, by show vals.length - (i + 1) < vals.length - i; omega⟩
    · skip
      refine wp_exit ?_
      refine x_thenExit ?_
      refine x_thenExit ?_
      refine x_blockHere ?_
      refine x_then ?_
      refine sb ?_
      refine rn 1 S H t0 fun a w S H => ?_
      refine r_call (args := #[.slice Al l.length cl]) S rfl rfl Tryz.call78 (join_ct (H := H) _ _ _ _ l ds (SlOk.ofRow (i := 1) H rfl) ((SlsOk.ofBlks (pk [2, 0, 1, 3] 4 H)).via (fun _ H => pk [2, 0, 1, 3] 4 H)) (fun d hd => by have := hE.le d hd; omega) (by omega)) rfl rfl rfl fun v a w hR S => ?_
      obtain ⟨A29, c30, rfl, H⟩ := hR
      refine rs 4 S H t0 fun a w S H => ?_
      refine wp_ret ?_
      refine r_ret2 S H Tryz.results44 (ro_tmp S rfl) (ro_tmp S rfl) ?_
      have hie : i = (vals.zip live).length := by omega
      subst hie
      have e : Oc.senc ((sN : Nat) : Int) vals live = Oc.join ds := by unfold Oc.senc; rw [if_neg (by omega), join_ok hE.le, ← hE.last]; rfl
      rw [e]
      exact ⟨_, _, rfl, pk [0] 5 H⟩

end Go.Proofs.YtfndfpgmgnacgaaGreatDoor
namespace Go.Proofs.YtfndfpgmgnacgaaGreatDoor
open Go.RowKit Go.Cg
set_option linter.unusedVariables false
set_option linter.unusedSimpArgs false
set_option maxRecDepth 8000
set_option synthInstance.maxHeartbeats 1000000
set_option synthInstance.maxSize 1000000
open Go.Cg.Dk (By Nm)
open Go.Cg.Oc (Mf)
theorem itoa_le20 {x : Int} (h0 : -9223372036854775808 ≤ x) (h1 : x ≤ 9223372036854775807) : (Go.Lib.itoa x).length ≤ 100 := by
  have h20 : ∀ (k u : Nat), u < 10 ^ (k + 1) → (Go.Lib.decDigits u).length ≤ k + 1 := by
    intro k
    induction k with
    | zero => intro u hu; unfold Go.Lib.decDigits; rw [dif_pos (by omega)]; simp
    | succ k ih =>
      intro u hu
      unfold Go.Lib.decDigits
      split
      · simp
      · have := ih (u / 10) (by rw [Nat.pow_succ] at hu; omega)
        simp; omega
  unfold Go.Lib.itoa
  split
  · have := h20 18 x.natAbs (by omega); simp; omega
  · have := h20 18 x.toNat (by omega); omega
theorem joined_le : ∀ {l : List By}, (∀ t ∈ l, t.length ≤ 1000) → (Oc.joined l).length ≤ l.length * 1006
  | [], _ => by simp [Oc.joined]
  | t :: r, h => by
    have h1 := h t List.mem_cons_self
    have h2 := joined_le (l := r) fun u hu => h u (List.mem_cons_of_mem _ hu)
    have h3 := Oc.enc_len h1
    simp only [Oc.joined, List.length_append, List.length_cons] at *
    omega
theorem chunks_le : ∀ (f : Nat) (l : List (Nat × Bool)), (Oc.chunks f l).length ≤ f
  | 0, l => by simp [Oc.chunks]
  | f + 1, l => by
    unfold Oc.chunks; split
    · simp
    · have := chunks_le f (l.drop 100); simp only [List.length_cons]; omega
theorem senc_le (step : Int) (vals : List Nat) (live : List Bool) : (Oc.senc step vals live).1.length ≤ 2000000000 := by
  unfold Oc.senc; split
  · simp
  · rename_i h
    have h1 := joined_le (Oc.stexts_le step.toNat (vals.zip live))
    have h2 := chunks_le (vals.zip live).length (vals.zip live)
    have h3 : (Oc.stexts step.toNat (vals.zip live)).length = (Oc.chunks (vals.zip live).length (vals.zip live)).length + 1 := by simp [Oc.stexts]
    have h4 : (vals.zip live).length ≤ vals.length := by rw [List.length_zip]; omega
    simp only []; omega
theorem keep_ct (w : World) (fr : List Res) (hl : Laid fr) (db : Nat) (d : Dk.Disk) (step : Int) (hs0 : -9223372036854775808 ≤ step) (hst : step ≤ 9223372036854775807) (A1 : Option Addr) (n1 c1 : Nat) (vals : List Nat) (ok1 : SlOk fr 1 A1 n1 c1 (u64s vals)) (A2 : Option Addr) (n2 c2 : Nat) (live : List Bool) (ok2 : SlOk fr 1 A2 n2 c2 (bools live)) (hv64 : ∀ x ∈ vals, x < 18446744073709551616) (hcnt : d.files.length ≤ 4398046511102) (H : Sat w (diskR db d :: fr)) :
    Rt Tryz.prog 20 #[.pointer (some ⟨db, 0, none⟩), .int .i64 step, .agg #[.slice A1 n1 c1, .slice A2 n2 c2]] w fun v w' => v = .int .i64 (((Cm.keep step vals live d).2 : Nat) : Int) ∧ Sat w' (diskR db (Cm.keep step vals live d).1 :: fr) := by
  refine en3 Tryz.func20 rfl Tryz.ntmps20 rfl fun a S => ?_
  have hsl := senc_le step vals live
  have hil := itoa_le20 hs0 hst
  refine sb ?_
  refine r_box (c := #[.slice A1 n1 c1, .slice A2 n2 c2]) S H rfl rfl rfl rfl rfl rfl fun a w b1 S H => ?_
  refine rs 1 S H t0 fun a w S H => ?_
  refine sb ?_
  refine rn 2 S H t0 fun a w S H => ?_
  refine r_call (args := #[.int .i64 step, .agg #[.slice A1 n1 c1, .slice A2 n2 c2]]) S rfl rfl Tryz.call44 (sencode_ct (H := H) _ _ step (by omega) _ _ _ vals (ok1.via fun _ H => H.drop.drop) _ _ _ live (ok2.via fun _ H => H.drop.drop) hv64) rfl rfl rfl fun v a w hR S => ?_
  obtain ⟨A2, c3, rfl, H⟩ := hR
  refine rs 5 S H t0 fun a w S H => ?_
  refine r_seq ?_
  refine sr 2 S H t0 fun a w S H => ?_
  refine r_test S rfl (fun h16 => ?_) (fun h16 => ?_)
  · skip
    refine sr 2 S H t0 fun a w S H => ?_
    refine wp_ret ?_
    refine x_thenRet ?_
    refine r_ret1 S H Tryz.results20 (ro_tmp S rfl) ?_
    have e : Cm.keep step vals live d = (d, (Oc.senc step vals live).2) := by unfold Cm.keep; rw [if_pos (by omega)]
    rw [e]
    exact ⟨rfl, pk [2] 3 H⟩
  · skip
    refine wp_skip ?_
    refine x_then ?_
    refine sb ?_
    refine rn 2 S H t0 fun a w S H => ?_
    refine r_call (args := #[.int .i64 step]) S rfl rfl Tryz.call40 (itoa_ct (H := H) _ _ (hl.via fun _ H => H.drop.drop.drop).1 step (by omega) (by omega)) rfl rfl rfl fun v a w hR S => ?_
    obtain ⟨rfl, H⟩ := hR
    refine rn 1 S H t0 fun a w S H => ?_
    refine r_call (args := #[.pointer (some ⟨db, 0, none⟩), str ([115, 116, 97, 116, 101, 46]), str (Go.Lib.itoa step), .slice A2 ((Oc.senc step vals live).1.length) c3]) S rfl rfl Tryz.call29 (put_c_ct (H := (pk [2, 0, 1] 3 H)) _ _ db d ([115, 116, 97, 116, 101, 46]) (Go.Lib.itoa step) _ _ ((Oc.senc step vals live).1) (SlOk.ofRow (i := 0) ((pk [2, 0, 1] 3 H)).drop rfl) (by omega) (by simp) (by omega) (by omega)) rfl rfl rfl fun v a w hR S => ?_
    obtain ⟨rfl, H⟩ := hR
    refine rs 1 S H t0 fun a w S H => ?_
    refine wp_ret ?_
    refine r_ret1 S H Tryz.results20 (ro_tmp S rfl) ?_
    have e : Cm.keep step vals live d = Cm.put Cm.nState (Go.Lib.itoa step) (Oc.senc step vals live).1 d := by unfold Cm.keep; rw [if_neg (by omega)]
    rw [e]
    exact ⟨rfl, pk [0] 3 H⟩

end Go.Proofs.YtfndfpgmgnacgaaGreatDoor
namespace Go.Proofs.YtfndfpgmgnacgaaGreatDoor
open Go.RowKit Go.Cg
set_option linter.unusedVariables false
set_option linter.unusedSimpArgs false
set_option maxRecDepth 8000
set_option synthInstance.maxHeartbeats 1000000
set_option synthInstance.maxSize 1000000
open Go.Cg.Dk (By)
open Go.Shelf
attribute [local go_sem] Oper.semAt_some
set_option maxRecDepth 100000 in
set_option maxHeartbeats 2000000 in
theorem chunk_iter1 (kb bn blk off c k : Nat) (hc : 9 * k ≤ c) (Pw : World → Prop) (hPw : ∀ W, Pw W → W.cell? ⟨kb, 0, none⟩ = some (.slice (some ⟨blk, off, none⟩) (9 * k) c) ∧ W.cell? ⟨bn, 0, none⟩ = some (.int .i64 9)) (hlen : 9 * k ≤ 17592186044416) :
    Iter Tryz.prog 102 #[.pointer (some ⟨kb, 0, none⟩), .pointer (some ⟨bn, 0, none⟩)] (fun q : Nat => #[.slice (some ⟨blk, off + 9 * q, none⟩) 9 9]) (List.range k) Pw := by
  intro l J W hJP hJD hY h0
  refine callsIn_of_wp Tryz.func102 rfl trivial ?_ rfl
  simp only [Tryz.ntmps102, List.size_toArray, List.length_cons, List.length_nil, Nat.reduceAdd, Nat.reduceSub, Array.replicate_succ, Array.replicate_zero, List.push_toArray, List.append_toArray, List.nil_append, List.cons_append]
  gi_wp2
  gi_loopw [4] (fun i wr => ∃ q : Nat, q ≤ k ∧ i = .int .i64 ((9 * q : Nat) : Int) ∧ J q wr) (fun i _ => (9 * (k : Int) - intOf i).toNat)
  case atStart => exact ⟨0, Nat.zero_le _, rfl, h0⟩
  case round =>
    obtain ⟨q, hq, rfl, hJs⟩ := hrel
    have hP := hPw wr (hJP _ _ hJs)
    have hcb := hP.1
    have hcn := hP.2
    by_cases hqk : q = k
    · subst hqk
      gi_wp2
      go_end0
      exact ⟨⟨_, rfl⟩, by rw [List.length_range]; exact hJs⟩
    · have hlt : q < k := by omega
      gi_wp2
      have h9 : ((9 * q : Nat) : Int) < 17592186044416 := by omega
      obtain ⟨fn, tmps, assign, body, hy, hR⟩ := hY q q wr.drew (by simp [hlt]) (hJD _ _ hJs)
      gi_region
      gi_wp2
      have e9 : (9 * (q : Int) + min 9 ((9 * k - 9 * q : Nat) : Int)).toNat - 9 * q = 9 := by omega
      simp only [e9, hy]
      gi_wp2
      refine hR.mono ?_
      rintro e W3 ⟨rfl, hJ3⟩
      have hcn3 := (hPw W3 (hJP _ _ hJ3)).2
      gi_wp2
      go_roundw
      case rel => exact ⟨q + 1, by omega, by rw [show (9 * (q : Int) + 9) = ((9 * (q + 1) : Nat) : Int) from by omega], hJ3⟩
      case measure => simp [intOf] <;> omega
set_option maxRecDepth 100000 in
set_option maxHeartbeats 2000000 in
theorem chunk_iter0 (kb bn c : Nat) (A : Option Addr) (Pw : World → Prop) (hPw : ∀ W, Pw W → W.cell? ⟨kb, 0, none⟩ = some (.slice A 0 c) ∧ W.cell? ⟨bn, 0, none⟩ = some (.int .i64 9)) (encs : Nat → Array Value) :
    Iter Tryz.prog 102 #[.pointer (some ⟨kb, 0, none⟩), .pointer (some ⟨bn, 0, none⟩)] encs [] Pw := by
  intro l J W hJP hJD hY h0
  refine callsIn_of_wp Tryz.func102 rfl trivial ?_ rfl
  simp only [Tryz.ntmps102, List.size_toArray, List.length_cons, List.length_nil, Nat.reduceAdd, Nat.reduceSub, Array.replicate_succ, Array.replicate_zero, List.push_toArray, List.append_toArray, List.nil_append, List.cons_append]
  gi_wp2
  gi_loopw [4] (fun i wr => i = .int .i64 0 ∧ J 0 wr) (fun _ _ => 0)
  case atStart => exact ⟨rfl, h0⟩
  case round =>
    obtain ⟨rfl, hJs⟩ := hrel
    have hP := hPw wr (hJP _ _ hJs)
    have hcb := hP.1
    have hcn := hP.2
    gi_wp2
    go_end0
    exact ⟨⟨_, rfl⟩, hJs⟩
end Go.Proofs.YtfndfpgmgnacgaaGreatDoor
namespace Go.Proofs.YtfndfpgmgnacgaaGreatDoor
open Go.RowKit Go.Cg
set_option linter.unusedVariables false
set_option linter.unusedSimpArgs false
set_option maxRecDepth 8000
set_option synthInstance.maxHeartbeats 1000000
set_option synthInstance.maxSize 1000000
open Go.Cg.Dk (By)
theorem chunk_ct (w : World) (fr : List Res) (A : Option Addr) (n c : Nat) (H : Sat w (fr)) :
    Rt Tryz.prog 81 #[.slice A n c, .int .i64 9] w fun v w' => ∃ kb bn, v = .func (.func 102) #[] #[.pointer (some ⟨kb, 0, none⟩), .pointer (some ⟨bn, 0, none⟩)] ∧ Sat w' (blk kb (.cells #[.slice A n c] 41) :: blk bn (.cells #[.int .i64 9] 3) :: fr) := by
  refine en2 Tryz.func81 rfl Tryz.ntmps81 rfl fun a S => ?_
  refine sb ?_
  refine r_box (c := #[.slice A n c]) S H rfl rfl rfl rfl rfl rfl fun a w b1 S H => ?_
  refine r_box (c := #[.int .i64 9]) S H rfl rfl rfl rfl rfl rfl fun a w b2 S H => ?_
  refine rs 1 S H t0 fun a w S H => ?_
  refine r_seq ?_
  refine sr 2 S H t0 fun a w S H => ?_
  have S := S.retell (v' := .bool false) 6 rfl rfl
  refine r_condF S rfl ?_
  refine wp_skip ?_
  refine x_then ?_
  refine sb ?_
  refine r_y S H (y_makeFunc (vs := #[.pointer (some ⟨b1, 0, none⟩), .pointer (some ⟨b2, 0, none⟩)]) S rfl rfl) rfl rfl rfl fun a S => ?_
  refine rs 1 S H t0 fun a w S H => ?_
  refine wp_ret ?_
  refine r_ret1 S H Tryz.results81 (ro_tmp S rfl) ?_
  exact ⟨_, _, rfl, pk [1, 0] 2 H⟩

end Go.Proofs.YtfndfpgmgnacgaaGreatDoor
namespace Go.Proofs.YtfndfpgmgnacgaaGreatDoor
open Go.RowKit Go.Cg
set_option linter.unusedVariables false
set_option linter.unusedSimpArgs false
set_option maxRecDepth 8000
set_option synthInstance.maxHeartbeats 1000000
set_option synthInstance.maxSize 1000000
open Go.Cg.Dk (By)
section
variable {P : Program} {Q : Exit → Act → World → Prop} {a : Act} {w : World} {n l m : Nat} {E' : Env} {L : List Res}
/-- within a round: ways that meet (to be used by walk2.py in place of wp_via / viaA) -/
theorem in_via {c : Code} {J : Act → World → Prop} (h : c.wpIn (WI l) m P (Exit.then J (fun _ _ _ => False)) a w) (K : ∀ a w, J a w → Q .normal a w) : c.wpIn (WI l) m P Q a w :=
  Code.wpIn_mono (fun e a w h => by cases e <;> first | exact K a w h | exact h.elim) h
theorem in_viaA {c : Code} (h : c.wpIn (WI l) m P (Exit.then (fun a w => Slots a n E' ∧ Sat w L) (fun _ _ _ => False)) a w) (K : ∀ a w, Slots a n E' → Sat w L → Q .normal a w) : c.wpIn (WI l) m P Q a w :=
  in_via h fun a w hm => K a w hm.1 hm.2
end
theorem chunk_iter (kb bn : Nat) (A : Option Addr) (c k : Nat) (b : By) (hk : b.length = 9 * k) (L0 : List Res) (ok : SlOk L0 1 A b.length c (u8s b)) (hlen : b.length ≤ 17592186044416) (w0 : World) (H0 : Sat w0 L0) :
    ∃ blk off, Iter Tryz.prog 102 #[.pointer (some ⟨kb, 0, none⟩), .pointer (some ⟨bn, 0, none⟩)] (fun q : Nat => #[.slice (some ⟨blk, off + 9 * q, none⟩) 9 9]) (List.range k) (fun W => W.cell? ⟨kb, 0, none⟩ = some (.slice A b.length c) ∧ W.cell? ⟨bn, 0, none⟩ = some (.int .i64 9)) ∧ (0 < k → A = some ⟨blk, off, none⟩) := by
  have hle := ok.le
  by_cases hb : k = 0
  · subst hb
    refine ⟨0, 0, ?_, fun h => absurd h (by omega)⟩
    refine chunk_iter0 kb bn c A _ (fun W h => ?_) _
    rw [show b.length = 0 from by omega] at h; exact h
  · obtain ⟨blk, off, e⟩ := ok.addr (sz := 0) H0 (by omega)
    subst e
    refine ⟨blk, off, chunk_iter1 kb bn blk off c k (by omega) _ (fun W h => ?_) (by omega), fun _ => rfl⟩
    rw [← hk]; exact h
end Go.Proofs.YtfndfpgmgnacgaaGreatDoor
namespace Go.Proofs.YtfndfpgmgnacgaaGreatDoor
open Go.RowKit Go.Cg
set_option linter.unusedVariables false
set_option linter.unusedSimpArgs false
set_option maxRecDepth 8000
set_option synthInstance.maxHeartbeats 1000000
set_option synthInstance.maxSize 1000000
open Go.Cg.Dk (By Nm)
open Go.Cg.Oc (Mf)
theorem sof_snoc : ∀ (q : Nat) (b : By), Oc.sof (q + 1) b = Oc.sof q b ++ [(Oc.unle ((b.drop (9 * q)).take 8), (b.drop (9 * q)).getD 8 0 == 1)]
  | 0, b => by simp [Oc.sof]
  | q + 1, b => by
    have ih := sof_snoc q (b.drop 9)
    rw [List.drop_drop, show 9 + 9 * q = 9 * (q + 1) from by omega] at ih
    rw [Oc.sof, ih, Oc.sof, List.cons_append]
theorem sof_len : ∀ (q : Nat) (b : By), (Oc.sof q b).length = q
  | 0, _ => rfl
  | q + 1, b => by rw [Oc.sof, List.length_cons, sof_len q]
end Go.Proofs.YtfndfpgmgnacgaaGreatDoor
