/- Walks of functions of the program, over slots and resources. No condition. -/
import Derived.Test.YtgfdmhjjlajmgaaGreatDoorKUd
namespace Go.Proofs.YtgfdmhjjlajmgaaGreatDoor
open Go.RowKit Go.Cg
set_option linter.unusedVariables false
set_option linter.unusedSimpArgs false
set_option maxRecDepth 8000
set_option synthInstance.maxHeartbeats 1000000
set_option synthInstance.maxSize 1000000
open Go.Cg.Dk (By Nm)
open Go.Cg.Rn (R Bd)
open Go.Cg.Xs (Tm tname)
theorem law_tells (w : World) (fr : List Res) (hl : Laid fr) (A : Option Addr) (n c : Nat) (l : List R) (ok0 : SlOk fr 2 A n c (recs l)) (hB : Bd l) (a1 a2 a3 : Int) (H : Sat w (fr)) :
    Rt Tryz.prog 3 #[.slice A n c, .int .i64 a1, .int .i64 a2, .int .i64 a3] w fun v w' => v = .bool true ∧ Sat w' fr := by
  refine en4 Tryz.func3 rfl Tryz.ntmps3 rfl fun a S => ?_
  obtain rfl := SlOk.nR ok0
  have hcpl := ok0.le
  have hcql := ok0.cap
  simp only [maxLen] at hcql
  refine sr 1 S H t0 fun a w S H => ?_
  refine sb ?_
  refine r_call (args := #[]) S rfl rfl Tryz.call10 (shown_ct (H := H) _ _ (hl.via fun _ H => H)) rfl rfl rfl fun v a w hR S => ?_
  obtain ⟨rfl, H⟩ := hR
  refine rs 1 S H t0 fun a w S H => ?_
  refine sb ?_
  refine rn 1 S H t0 fun a w S H => ?_
  refine r_call (args := #[.slice A l.length c]) S rfl rfl Tryz.call11 (few_ct (H := H) _ _ A l.length c l ok0) rfl rfl rfl fun v a w hR S => ?_
  obtain ⟨A5, c6, rfl, H⟩ := hR
  obtain ⟨lk, hlk⟩ : ∃ y, y = l.take 120 := ⟨_, rfl⟩
  rw [← hlk] at S H
  have hnlk : lk.length ≤ 120 := by rw [hlk, List.length_take]; omega
  have hblk : Bd lk := by rw [hlk]; exact hB.take 120
  refine rs 1 S H t0 fun a w S H => ?_
  refine sb ?_
  refine rn 1 S H t0 fun a w S H => ?_
  refine r_y S H (y_min S rfl rfl rfl) rfl rfl rfl fun a S => ?_
  obtain ⟨bq, hbq⟩ : ∃ y : Int, y = min a1 100 := ⟨_, rfl⟩
  have S := S.retell (v' := .int .i64 bq) 23 rfl (by rw [hbq])
  refine rs 1 S H t0 fun a w S H => ?_
  refine sb ?_
  refine rn 1 S H t0 fun a w S H => ?_
  refine r_y S H (y_min S rfl rfl rfl) rfl rfl rfl fun a S => ?_
  obtain ⟨fq, hfq⟩ : ∃ y : Int, y = min a2 100 := ⟨_, rfl⟩
  have S := S.retell (v' := .int .i64 fq) 25 rfl (by rw [hfq])
  refine rs 1 S H t0 fun a w S H => ?_
  refine sb ?_
  refine r_call (args := #[.int .i64 10000]) S rfl rfl Tryz.call12 (new_ct (H := H) _ _ 10000 (by omega)) rfl rfl rfl fun v a w hR S => ?_
  obtain ⟨db8, rfl, H⟩ := hR
  obtain ⟨d1, e1, k1, hO⟩ := Xs.tells_plan hnlk hblk bq fq a3
  refine rs 1 S H t0 fun a w S H => ?_
  refine r_seq ?_
  refine sb ?_
  refine rn 5 S H t0 fun a w S H => ?_
  refine r_call (args := #[.pointer (some ⟨db8, 0, none⟩), str ([105, 110]), .slice A5 (lk.length) c6]) S rfl rfl Tryz.call13 (write_ct (H := H) _ _ db8 ([105, 110]) (Dk.fresh 10000) (by show 0 + 1 ≤ _; omega) _ _ lk (SlOk.ofRow (i := 0) (H).drop rfl) (by omega) hblk) rfl rfl rfl fun v a w hR S => ?_
  obtain ⟨rfl, H⟩ := hR
  rw [e1] at S H
  dsimp only at S H
  refine rn 1 S H t0 fun a w S H => ?_
  have S := S.retell (v' := .bool false) 33 rfl rfl
  refine rs 1 S H t0 fun a w S H => ?_
  refine r_condF S rfl ?_
  refine wp_skip ?_
  refine x_then ?_
  rcases hO with ⟨harg, d2, ns, e2, e3, hns⟩ | ⟨harg, d2, d3, d4, d5, ns, e2, e3, e4, e5, hns, k2, k3, k4⟩
  · skip
    refine sb ?_
    refine rn 4 S H t0 fun a w S H => ?_
    refine r_call (args := #[.pointer (some ⟨db8, 0, none⟩), str ([105, 110]), str ([111, 117, 116]), str ([116, 101, 109, 112]), .int .i64 bq, .int .i64 fq, .int .i64 a3]) S rfl rfl Tryz.call14 (sortD_ct (H := H) _ _ (hl.via fun _ H => H.drop) db8 ([105, 110]) ([111, 117, 116]) ([116, 101, 109, 112]) bq fq a3 d1 (by omega) (by omega) (by decide)) rfl rfl rfl fun v a w hR S => ?_
    obtain ⟨rfl, H⟩ := hR
    rw [e2] at S H
    dsimp only at S H
    refine rs 5 S H t0 fun a w S H => ?_
    refine sb ?_
    refine rn 1 S H t0 fun a w S H => ?_
    refine r_call (args := #[.pointer (some ⟨db8, 0, none⟩)]) S rfl rfl Tryz.call15 (list_ct (H := H) _ _ db8 d1 (by omega)) rfl rfl rfl fun v a w hR S => ?_
    obtain ⟨A9, c10, rfl, H⟩ := hR
    rw [e3] at S H
    dsimp only at S H
    refine rs 5 S H t0 fun a w S H => ?_
    refine r_seq ?_
    refine sb ?_
    refine rn 3 S H t0 fun a w S H => ?_
    refine scO 1 S H (fun _ => t0) fun a w S H => ?_
    refine rn 1 S H t0 fun a w S H => ?_
    refine scO 1 S H (fun _ => t0) fun a w S H => ?_
    refine rn 1 S H t0 fun a w S H => ?_
    refine scO 1 S H (fun _ => t0) fun a w S H => ?_
    refine sn ?_
    refine r_cond S rfl (fun h61 => ?_) (fun h61 => ?_)
    · skip
      refine sb ?_
      refine rn 4 S H t0 fun a w S H => ?_
      have S := S.retell (v' := .bool true) 65 rfl rfl
      refine rn 4 S H t0 fun a w S H => ?_
      have S := S.retell (v' := .bool true) 69 rfl rfl
      refine rn 4 S H t0 fun a w S H => ?_
      have S := S.retell (v' := .bool true) 73 rfl rfl
      refine rn 3 S H t0 fun a w S H => ?_
      refine r_y S H (y_len S rfl rfl Tryz.underlying31) rfl rfl rfl fun a S => ?_
      have S := S.retell (v' := .int .i64 1) 77 rfl (by rw [hns]; rfl)
      refine rn 1 S H t0 fun a w S H => ?_
      have S := S.retell (v' := .bool true) 78 rfl rfl
      refine rs 2 S H t0 fun a w S H => ?_
      refine wp_ret ?_
      refine x_thenRet ?_
      refine r_ret1 S H Tryz.results3 (ro_tmp S rfl) ?_
      exact ⟨rfl, H.drop.drop.drop⟩
    exfalso; simp only [Bool.or_eq_false_iff, decide_eq_false_iff_not] at h61; omega
  refine sb ?_
  refine rn 4 S H t0 fun a w S H => ?_
  refine r_call (args := #[.pointer (some ⟨db8, 0, none⟩), str ([105, 110]), str ([111, 117, 116]), str ([116, 101, 109, 112]), .int .i64 bq, .int .i64 fq, .int .i64 a3]) S rfl rfl Tryz.call14 (sortD_ct (H := H) _ _ (hl.via fun _ H => H.drop) db8 ([105, 110]) ([111, 117, 116]) ([116, 101, 109, 112]) bq fq a3 d1 (by omega) (by omega) (by decide)) rfl rfl rfl fun v a w hR S => ?_
  obtain ⟨rfl, H⟩ := hR
  rw [e2] at S H
  dsimp only at S H
  refine rs 5 S H t0 fun a w S H => ?_
  refine sb ?_
  refine rn 1 S H t0 fun a w S H => ?_
  refine r_call (args := #[.pointer (some ⟨db8, 0, none⟩)]) S rfl rfl Tryz.call15 (list_ct (H := H) _ _ db8 d2 (by omega)) rfl rfl rfl fun v a w hR S => ?_
  obtain ⟨A11, c12, rfl, H⟩ := hR
  rw [e3] at S H
  dsimp only at S H
  refine rs 5 S H t0 fun a w S H => ?_
  refine r_seq ?_
  refine sb ?_
  refine rn 3 S H t0 fun a w S H => ?_
  refine scO 1 S H (fun _ => t0) fun a w S H => ?_
  refine rn 1 S H t0 fun a w S H => ?_
  refine scO 1 S H (fun _ => t0) fun a w S H => ?_
  refine rn 1 S H t0 fun a w S H => ?_
  refine scO 1 S H (fun _ => t0) fun a w S H => ?_
  refine sn ?_
  refine r_cond S rfl (fun h61 => ?_) (fun h61 => ?_)
  · skip
    exfalso; simp only [Bool.or_eq_true, decide_eq_true_eq] at h61; omega
  refine wp_skip ?_
  refine x_then ?_
  refine sb ?_
  refine rn 1 S H t0 fun a w S H => ?_
  refine r_call (args := #[.pointer (some ⟨db8, 0, none⟩), str ([111, 117, 116])]) S rfl rfl Tryz.call16 (read_ct (H := H) _ _ db8 ([111, 117, 116]) d3 (by omega)) rfl rfl rfl fun v a w hR S => ?_
  obtain ⟨A13, c14, rfl, H⟩ := hR
  rw [e4] at S H
  dsimp only at S H
  refine rs 5 S H t0 fun a w S H => ?_
  refine sb ?_
  refine rn 1 S H t0 fun a w S H => ?_
  refine r_call (args := #[.pointer (some ⟨db8, 0, none⟩), str ([105, 110])]) S rfl rfl Tryz.call16 (read_ct (H := (pk [1, 0, 2, 3] 4 H)) _ _ db8 ([105, 110]) d4 (by omega)) rfl rfl rfl fun v a w hR S => ?_
  obtain ⟨A15, c16, rfl, H⟩ := hR
  rw [e5] at S H
  dsimp only at S H
  refine rs 5 S H t0 fun a w S H => ?_
  refine sb ?_
  refine rn 4 S H t0 fun a w S H => ?_
  have S := S.retell (v' := .bool true) 93 rfl rfl
  refine rn 7 S H t0 fun a w S H => ?_
  refine r_call (args := #[.int .i64 ((lk.length : Nat) : Int), .int .i64 bq, .int .i64 fq]) S rfl rfl Tryz.call17 (passes10_ct (H := H) _ _ ((lk.length : Nat) : Int) bq fq (by omega) (by omega) (by omega)) rfl rfl rfl fun v a w hR S => ?_
  obtain ⟨rfl, H⟩ := hR
  refine r_y S H (y_eq S rfl rfl rfl) rfl rfl rfl fun a S => ?_
  have S := S.retell (v' := .bool true) 102 rfl (by simp)
  refine rn 4 S H t0 fun a w S H => ?_
  have S := S.retell (v' := .bool true) 106 rfl rfl
  refine rn 3 S H t0 fun a w S H => ?_
  refine r_y S H (y_len S rfl rfl Tryz.underlying31) rfl rfl rfl fun a S => ?_
  have S := S.retell (v' := .int .i64 2) 110 rfl (by rw [hns]; rfl)
  refine rn 1 S H t0 fun a w S H => ?_
  have S := S.retell (v' := .bool true) 111 rfl rfl
  refine rn 4 S H t0 fun a w S H => ?_
  have S := S.retell (v' := .bool true) 115 rfl rfl
  refine rn 5 S H t0 fun a w S H => ?_
  refine r_call (args := #[.slice A5 (lk.length) c6, .int .i64 a3]) S rfl rfl Tryz.call19 (sorted8_ct (H := H) _ _ A5 c6 lk (SlOk.ofRow (i := 4) H rfl) (by omega) (hblk) a3) rfl rfl rfl fun v a w hR S => ?_
  obtain ⟨A17, c18, rfl, H⟩ := hR
  refine r_call (args := #[.slice A13 ((Rn.fold a3 (Rn.sort lk)).length) c14, .slice A17 ((Rn.fold a3 (Rn.sort lk)).length) c18]) S rfl rfl Tryz.call18 (same7_ct (H := H) _ _ _ _ _ (Rn.fold a3 (Rn.sort lk)) (SlOk.ofRow (i := 3) H rfl) _ _ _ (Rn.fold a3 (Rn.sort lk)) (SlOk.ofRow (i := 0) H rfl)) rfl rfl rfl fun v a w hR S => ?_
  obtain ⟨rfl, H⟩ := hR
  have S := S.retell (v' := .bool true) 122 rfl (by simp)
  refine rn 4 S H t0 fun a w S H => ?_
  have S := S.retell (v' := .bool true) 126 rfl rfl
  refine rn 4 S H t0 fun a w S H => ?_
  refine r_call (args := #[.slice A15 (lk.length) c16, .slice A5 (lk.length) c6]) S rfl rfl Tryz.call18 (same7_ct (H := H) _ _ _ _ _ lk (SlOk.ofRow (i := 1) H rfl) _ _ _ lk (SlOk.ofRow (i := 5) H rfl)) rfl rfl rfl fun v a w hR S => ?_
  obtain ⟨rfl, H⟩ := hR
  have S := S.retell (v' := .bool true) 131 rfl (by simp)
  refine rs 2 S H t0 fun a w S H => ?_
  refine wp_ret ?_
  refine r_ret1 S H Tryz.results3 (ro_tmp S rfl) ?_
  exact ⟨rfl, H.drop.drop.drop.drop.drop.drop⟩

end Go.Proofs.YtgfdmhjjlajmgaaGreatDoor
