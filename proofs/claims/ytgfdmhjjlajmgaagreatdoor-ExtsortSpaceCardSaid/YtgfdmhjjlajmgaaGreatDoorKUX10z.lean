/- Walks of functions of the program, over slots and resources. No condition. -/
import Derived.Test.YtgfdmhjjlajmgaaGreatDoorKUd
namespace Go.Proofs.YtgfdmhjjlajmgaaGreatDoor
open Go.RowKit Go.Cg
set_option linter.unusedVariables false
set_option linter.unusedSimpArgs false
set_option maxRecDepth 8000
set_option synthInstance.maxHeartbeats 1000000
set_option synthInstance.maxSize 1000000
open Go.Cg.Dk (By Nm)
open Go.Cg.Rn (R Bd)
open Go.Cg.Xs (Tm tname)
theorem law_space (w : World) (fr : List Res) (hl : Laid fr) (A : Option Addr) (n c : Nat) (l : List R) (ok0 : SlOk fr 2 A n c (recs l)) (hB : Bd l) (a1 a2 : Int) (H : Sat w (fr)) :
    Rt Tryz.prog 8 #[.slice A n c, .int .i64 a1, .int .i64 a2] w fun v w' => v = .bool true ∧ Sat w' fr := by
  refine en3 Tryz.func8 rfl Tryz.ntmps8 rfl fun a S => ?_
  obtain rfl := SlOk.nR ok0
  have hcpl := ok0.le
  have hcql := ok0.cap
  simp only [maxLen] at hcql
  refine sr 1 S H t0 fun a w S H => ?_
  refine sb ?_
  refine r_call (args := #[]) S rfl rfl Tryz.call10 (shown_ct (H := H) _ _ (hl.via fun _ H => H)) rfl rfl rfl fun v a w hR S => ?_
  obtain ⟨rfl, H⟩ := hR
  refine rs 1 S H t0 fun a w S H => ?_
  refine sb ?_
  refine rn 1 S H t0 fun a w S H => ?_
  refine r_call (args := #[.slice A l.length c]) S rfl rfl Tryz.call11 (few_ct (H := H) _ _ A l.length c l ok0) rfl rfl rfl fun v a w hR S => ?_
  obtain ⟨A5, c6, rfl, H⟩ := hR
  obtain ⟨lk, hlk⟩ : ∃ y, y = l.take 120 := ⟨_, rfl⟩
  rw [← hlk] at S H
  have hnlk : lk.length ≤ 120 := by rw [hlk, List.length_take]; omega
  have hblk : Bd lk := by rw [hlk]; exact hB.take 120
  refine rs 1 S H t0 fun a w S H => ?_
  refine sb ?_
  refine rn 1 S H t0 fun a w S H => ?_
  refine r_y S H (y_bitop S rfl rfl rfl (fun w => maskL 16 65536 65535 (by decide) (by decide) (by decide) a1 w)) rfl rfl rfl fun a S => ?_
  refine r_y S H (y_remN S rfl rfl rfl (by omega) (by omega)) rfl rfl rfl fun a S => ?_
  obtain ⟨ro, hro⟩ : ∃ x : Nat, ((x : Nat) : Int) = a1 % 65536 % 301 := ⟨(a1 % 65536 % 301).toNat, by omega⟩
  have S := S.retell (v' := .int .i64 ((ro : Nat) : Int)) 23 rfl (by rw [hro])
  have hrob : ro ≤ 300 := by omega
  refine rs 1 S H t0 fun a w S H => ?_
  refine sb ?_
  refine rn 1 S H t0 fun a w S H => ?_
  refine r_y S H (y_bitop S rfl rfl rfl (fun w => maskL 16 65536 65535 (by decide) (by decide) (by decide) a2 w)) rfl rfl rfl fun a S => ?_
  refine r_y S H (y_remN S rfl rfl rfl (by omega) (by omega)) rfl rfl rfl fun a S => ?_
  refine r_y S H (y_add S rfl rfl rfl (wi64 (by omega) (by omega))) rfl rfl rfl fun a S => ?_
  obtain ⟨bq, hbq⟩ : ∃ y : Int, y = 1 + a2 % 65536 % 20 := ⟨_, rfl⟩
  have S := S.retell (v' := .int .i64 bq) 27 rfl (by rw [hbq])
  refine rs 1 S H t0 fun a w S H => ?_
  refine sb ?_
  refine r_call (args := #[.int .i64 10000]) S rfl rfl Tryz.call12 (new_ct (H := H) _ _ 10000 (by omega)) rfl rfl rfl fun v a w hR S => ?_
  obtain ⟨db8, rfl, H⟩ := hR
  obtain ⟨dB, U, eB, hU, hUb, kB, d1, d2, p, e, e1, e2, k1, k2, hrest⟩ := Xs.space_plan hnlk hblk ro (by omega) (b := bq) (by omega)
  refine rs 1 S H t0 fun a w S H => ?_
  refine r_seq ?_
  refine sb ?_
  refine rn 5 S H t0 fun a w S H => ?_
  refine r_call (args := #[.pointer (some ⟨db8, 0, none⟩), str ([105, 110]), .slice A5 (lk.length) c6]) S rfl rfl Tryz.call13 (write_ct (H := H) _ _ db8 ([105, 110]) (Dk.fresh 10000) (by show 0 + 1 ≤ _; omega) _ _ lk (SlOk.ofRow (i := 0) (H).drop rfl) (by omega) hblk) rfl rfl rfl fun v a w hR S => ?_
  obtain ⟨rfl, H⟩ := hR
  rw [eB] at S H
  dsimp only at S H
  refine rn 1 S H t0 fun a w S H => ?_
  have S := S.retell (v' := .bool false) 35 rfl rfl
  refine rs 1 S H t0 fun a w S H => ?_
  refine r_condF S rfl ?_
  refine wp_skip ?_
  refine x_then ?_
  refine sb ?_
  refine rn 1 S H t0 fun a w S H => ?_
  refine r_call (args := #[.pointer (some ⟨db8, 0, none⟩)]) S rfl rfl Tryz.call23 (dused_ct (H := H) _ _ db8 dB) rfl rfl rfl fun v a w hR S => ?_
  obtain ⟨rfl, H⟩ := hR
  rw [hU] at S
  refine rn 1 S H t0 fun a w S H => ?_
  refine r_y S H (y_add S rfl rfl rfl (wi64 (by omega) (by omega))) rfl rfl rfl fun a S => ?_
  have S := S.retell (v' := .int .i64 (((U + ro) : Nat) : Int)) 40 rfl (int_eq (by omega))
  refine r_call (args := #[.int .i64 (((U + ro) : Nat) : Int)]) S rfl rfl Tryz.call12 (new_ct (H := H) _ _ (((U + ro) : Nat) : Int) (by omega)) rfl rfl rfl fun v a w hR S => ?_
  obtain ⟨db10, rfl, H⟩ := hR
  refine rs 1 S H t0 fun a w S H => ?_
  refine r_seq ?_
  refine sb ?_
  refine rn 5 S H t0 fun a w S H => ?_
  refine r_call (args := #[.pointer (some ⟨db10, 0, none⟩), str ([105, 110]), .slice A5 (lk.length) c6]) S rfl rfl Tryz.call13 (write_ct (H := H) _ _ db10 ([105, 110]) (Dk.fresh (((U + ro) : Nat) : Int)) (by show 0 + 1 ≤ _; omega) _ _ lk (SlOk.ofRow (i := 1) (H).drop rfl) (by omega) hblk) rfl rfl rfl fun v a w hR S => ?_
  obtain ⟨rfl, H⟩ := hR
  rw [e1] at S H
  dsimp only at S H
  refine rn 1 S H t0 fun a w S H => ?_
  have S := S.retell (v' := .bool false) 48 rfl rfl
  refine rs 1 S H t0 fun a w S H => ?_
  refine r_condF S rfl ?_
  refine wp_skip ?_
  refine x_then ?_
  refine sb ?_
  refine rn 2 S H t0 fun a w S H => ?_
  refine r_call (args := #[.pointer (some ⟨db10, 0, none⟩), str ([105, 110]), str ([111, 117, 116]), str ([116, 101, 109, 112]), .int .i64 bq, .int .i64 3, .int .i64 0]) S rfl rfl Tryz.call14 (sortD_ct (H := H) _ _ (hl.via fun _ H => H.drop.drop) db10 ([105, 110]) ([111, 117, 116]) ([116, 101, 109, 112]) bq 3 0 d1 (by omega) (by omega) (by decide)) rfl rfl rfl fun v a w hR S => ?_
  obtain ⟨rfl, H⟩ := hR
  have hok2 := H.diskOk
  rw [e2] at hok2
  obtain ⟨d3, d4, ns, e3, e4, k3, k4, hO⟩ := hrest hok2
  rw [e2] at S H
  dsimp only at S H
  refine rs 5 S H t0 fun a w S H => ?_
  refine sb ?_
  refine rn 1 S H t0 fun a w S H => ?_
  refine r_call (args := #[.pointer (some ⟨db10, 0, none⟩)]) S rfl rfl Tryz.call15 (list_ct (H := H) _ _ db10 d2 (by omega)) rfl rfl rfl fun v a w hR S => ?_
  obtain ⟨A11, c12, rfl, H⟩ := hR
  rw [e3] at S H
  dsimp only at S H
  refine rs 5 S H t0 fun a w S H => ?_
  refine sb ?_
  refine rn 1 S H t0 fun a w S H => ?_
  refine r_call (args := #[.pointer (some ⟨db10, 0, none⟩), str ([105, 110])]) S rfl rfl Tryz.call16 (read_ct (H := H) _ _ db10 ([105, 110]) d3 (by omega)) rfl rfl rfl fun v a w hR S => ?_
  obtain ⟨A13, c14, rfl, H⟩ := hR
  rw [e4] at S H
  dsimp only at S H
  refine rs 5 S H t0 fun a w S H => ?_
  refine r_seq ?_
  refine sb ?_
  refine rn 2 S H t0 fun a w S H => ?_
  have S := S.retell (v' := .bool false) 67 rfl rfl
  refine rn 3 S H t0 fun a w S H => ?_
  have S := S.retell (v' := .bool false) 70 rfl rfl
  refine rn 4 S H t0 fun a w S H => ?_
  refine r_call (args := #[.slice A13 (lk.length) c14, .slice A5 (lk.length) c6]) S rfl rfl Tryz.call18 (same7_ct (H := H) _ _ _ _ _ lk (SlOk.ofRow (i := 0) H rfl) _ _ _ lk (SlOk.ofRow (i := 4) H rfl)) rfl rfl rfl fun v a w hR S => ?_
  obtain ⟨rfl, H⟩ := hR
  have S := S.retell (v' := .bool true) 75 rfl (by simp)
  refine rs 2 S H t0 fun a w S H => ?_
  refine r_condF S rfl ?_
  refine wp_skip ?_
  refine x_then ?_
  refine r_seq ?_
  rcases hO with ⟨he, hns, hro⟩ | ⟨he, hns, d5, e5⟩
  · skip
    have S := S.retell (v' := .int .i64 6) 11 rfl (by rw [he]; rfl)
    refine sr 2 S H t0 fun a w S H => ?_
    have S := S.retell (v' := .bool false) 79 rfl rfl
    refine r_condF S rfl ?_
    refine wp_skip ?_
    refine x_then ?_
    refine sb ?_
    refine rn 4 S H t0 fun a w S H => ?_
    have S := S.retell (v' := .bool true) 104 rfl rfl
    refine rn 3 S H t0 fun a w S H => ?_
    refine r_y S H (y_len S rfl rfl Tryz.underlying31) rfl rfl rfl fun a S => ?_
    have S := S.retell (v' := .int .i64 1) 108 rfl (by rw [hns]; rfl)
    refine rn 1 S H t0 fun a w S H => ?_
    have S := S.retell (v' := .bool true) 109 rfl rfl
    refine rn 5 S H t0 fun a w S H => ?_
    refine r_y S H (y_mul S rfl rfl rfl (wi64 (by omega) (by omega))) rfl rfl rfl fun a S => ?_
    have S := S.retell (v' := .int .i64 (((8 * lk.length) : Nat) : Int)) 115 rfl (int_eq (by omega))
    refine r_y S H (y_lt S rfl rfl rfl) rfl rfl rfl fun a S => ?_
    have S := S.retell (v' := .bool true) 116 rfl (by rw [decide_eq_true (by omega)])
    refine rs 2 S H t0 fun a w S H => ?_
    refine wp_ret ?_
    refine r_ret1 S H Tryz.results8 (ro_tmp S rfl) ?_
    exact ⟨rfl, H.drop.drop.drop.drop.drop⟩
  have S := S.retell (v' := .int .i64 0) 11 rfl (by rw [he]; rfl)
  refine sr 2 S H t0 fun a w S H => ?_
  have S := S.retell (v' := .bool true) 79 rfl rfl
  refine r_condT S rfl ?_
  refine sb ?_
  refine rn 1 S H t0 fun a w S H => ?_
  refine r_call (args := #[.pointer (some ⟨db10, 0, none⟩), str ([111, 117, 116])]) S rfl rfl Tryz.call16 (read_ct (H := (pk [1, 0, 2, 3, 4] 5 H)) _ _ db10 ([111, 117, 116]) d4 (by omega)) rfl rfl rfl fun v a w hR S => ?_
  obtain ⟨A15, c16, rfl, H⟩ := hR
  rw [e5] at S H
  dsimp only at S H
  refine rs 5 S H t0 fun a w S H => ?_
  refine sb ?_
  refine rn 3 S H t0 fun a w S H => ?_
  refine r_y S H (y_len S rfl rfl Tryz.underlying31) rfl rfl rfl fun a S => ?_
  have S := S.retell (v' := .int .i64 2) 88 rfl (by rw [hns]; rfl)
  refine rn 1 S H t0 fun a w S H => ?_
  have S := S.retell (v' := .bool true) 89 rfl rfl
  refine rn 4 S H t0 fun a w S H => ?_
  have S := S.retell (v' := .bool true) 93 rfl rfl
  refine rn 4 S H t0 fun a w S H => ?_
  refine r_call (args := #[.slice A5 (lk.length) c6, .int .i64 0]) S rfl rfl Tryz.call19 (sorted8_ct (H := H) _ _ A5 c6 lk (SlOk.ofRow (i := 5) H rfl) (by omega) (hblk) 0) rfl rfl rfl fun v a w hR S => ?_
  obtain ⟨A17, c18, rfl, H⟩ := hR
  refine r_call (args := #[.slice A15 ((Rn.fold 0 (Rn.sort lk)).length) c16, .slice A17 ((Rn.fold 0 (Rn.sort lk)).length) c18]) S rfl rfl Tryz.call18 (same7_ct (H := H) _ _ _ _ _ (Rn.fold 0 (Rn.sort lk)) (SlOk.ofRow (i := 1) H rfl) _ _ _ (Rn.fold 0 (Rn.sort lk)) (SlOk.ofRow (i := 0) H rfl)) rfl rfl rfl fun v a w hR S => ?_
  obtain ⟨rfl, H⟩ := hR
  have S := S.retell (v' := .bool true) 99 rfl (by simp)
  refine rs 2 S H t0 fun a w S H => ?_
  refine wp_ret ?_
  refine x_thenRet ?_
  refine r_ret1 S H Tryz.results8 (ro_tmp S rfl) ?_
  exact ⟨rfl, H.drop.drop.drop.drop.drop.drop.drop⟩

end Go.Proofs.YtgfdmhjjlajmgaaGreatDoor
