/- Walks of functions of the program, over slots and resources. No condition. -/
import Derived.Test.YtgfdmhjjlajmgaaGreatDoorKUd
namespace Go.Proofs.YtgfdmhjjlajmgaaGreatDoor
open Go.RowKit Go.Cg
set_option linter.unusedVariables false
set_option linter.unusedSimpArgs false
set_option maxRecDepth 8000
set_option synthInstance.maxHeartbeats 1000000
set_option synthInstance.maxSize 1000000
open Go.Cg.Dk (By Nm)
open Go.Cg.Rn (R Bd)
open Go.Cg.Xs (Tm tname)
theorem law_out (w : World) (fr : List Res) (hl : Laid fr) (A : Option Addr) (n c : Nat) (l : List R) (ok0 : SlOk fr 2 A n c (recs l)) (hB : Bd l) (A1 : Option Addr) (n1 c1 : Nat) (m : List R) (ok1 : SlOk fr 2 A1 n1 c1 (recs m)) (hC : Bd m) (H : Sat w (fr)) :
    Rt Tryz.prog 5 #[.slice A n c, .slice A1 n1 c1] w fun v w' => v = .bool true ∧ Sat w' fr := by
  refine en2 Tryz.func5 rfl Tryz.ntmps5 rfl fun a S => ?_
  obtain rfl := SlOk.nR ok0
  have hcpl := ok0.le
  have hcql := ok0.cap
  simp only [maxLen] at hcql
  obtain rfl := SlOk.nR ok1
  have hcpm := ok1.le
  have hcqm := ok1.cap
  simp only [maxLen] at hcqm
  refine sr 1 S H t0 fun a w S H => ?_
  refine sb ?_
  refine r_call (args := #[]) S rfl rfl Tryz.call10 (shown_ct (H := H) _ _ (hl.via fun _ H => H)) rfl rfl rfl fun v a w hR S => ?_
  obtain ⟨rfl, H⟩ := hR
  refine rs 1 S H t0 fun a w S H => ?_
  refine sb ?_
  refine rn 1 S H t0 fun a w S H => ?_
  refine r_call (args := #[.slice A l.length c]) S rfl rfl Tryz.call11 (few_ct (H := H) _ _ A l.length c l ok0) rfl rfl rfl fun v a w hR S => ?_
  obtain ⟨A5, c6, rfl, H⟩ := hR
  obtain ⟨lk, hlk⟩ : ∃ y, y = l.take 120 := ⟨_, rfl⟩
  rw [← hlk] at S H
  have hnlk : lk.length ≤ 120 := by rw [hlk, List.length_take]; omega
  have hblk : Bd lk := by rw [hlk]; exact hB.take 120
  refine rs 1 S H t0 fun a w S H => ?_
  refine sb ?_
  refine rn 1 S H t0 fun a w S H => ?_
  refine r_call (args := #[.slice A1 m.length c1]) S rfl rfl Tryz.call11 (few_ct (H := H) _ _ A1 m.length c1 m (ok1.more _)) rfl rfl rfl fun v a w hR S => ?_
  obtain ⟨A11, c12, rfl, H⟩ := hR
  obtain ⟨mk, hmk⟩ : ∃ y, y = m.take 120 := ⟨_, rfl⟩
  rw [← hmk] at S H
  have hnmk : mk.length ≤ 120 := by rw [hmk, List.length_take]; omega
  have hbmk : Bd mk := by rw [hmk]; exact hC.take 120
  refine rs 1 S H t0 fun a w S H => ?_
  refine sb ?_
  refine r_call (args := #[.int .i64 10000]) S rfl rfl Tryz.call12 (new_ct (H := H) _ _ 10000 (by omega)) rfl rfl rfl fun v a w hR S => ?_
  obtain ⟨db14, rfl, H⟩ := hR
  obtain ⟨d1, d2, d3, d4, d5, d6, d7, d8, ns, e1, e2, e3, e4, e5, e6, e7, e8, hns, k1, k2, k3, k4, k5, k6, k7⟩ := Xs.out_plan hnlk hblk hnmk hbmk
  refine rs 1 S H t0 fun a w S H => ?_
  refine r_seq ?_
  refine sb ?_
  refine rn 5 S H t0 fun a w S H => ?_
  refine r_call (args := #[.pointer (some ⟨db14, 0, none⟩), str ([105, 110]), .slice A5 (lk.length) c6]) S rfl rfl Tryz.call13 (write_ct (H := H) _ _ db14 ([105, 110]) (Dk.fresh 10000) (by show 0 + 1 ≤ _; omega) _ _ lk (SlOk.ofRow (i := 1) (H).drop rfl) (by omega) hblk) rfl rfl rfl fun v a w hR S => ?_
  obtain ⟨rfl, H⟩ := hR
  rw [e1] at S H
  dsimp only at S H
  refine rn 1 S H t0 fun a w S H => ?_
  have S := S.retell (v' := .bool false) 31 rfl rfl
  refine rn 4 S H t0 fun a w S H => ?_
  refine r_call (args := #[.pointer (some ⟨db14, 0, none⟩), str ([111, 117, 116]), .slice A11 (mk.length) c12]) S rfl rfl Tryz.call13 (write_ct (H := H) _ _ db14 ([111, 117, 116]) d1 (by omega) _ _ mk (SlOk.ofRow (i := 0) (H).drop rfl) (by omega) hbmk) rfl rfl rfl fun v a w hR S => ?_
  obtain ⟨rfl, H⟩ := hR
  rw [e2] at S H
  dsimp only at S H
  refine rn 1 S H t0 fun a w S H => ?_
  have S := S.retell (v' := .bool false) 37 rfl rfl
  refine rs 1 S H t0 fun a w S H => ?_
  refine r_condF S rfl ?_
  refine wp_skip ?_
  refine x_then ?_
  refine sb ?_
  refine rn 1 S H t0 fun a w S H => ?_
  refine r_call (args := #[.pointer (some ⟨db14, 0, none⟩), str ([105, 110]), str ([111, 117, 116]), str ([116, 101, 109, 112]), .int .i64 5, .int .i64 3, .int .i64 0]) S rfl rfl Tryz.call14 (sortD_ct (H := H) _ _ (hl.via fun _ H => H.drop.drop) db14 ([105, 110]) ([111, 117, 116]) ([116, 101, 109, 112]) 5 3 0 d2 (by omega) (by omega) (by decide)) rfl rfl rfl fun v a w hR S => ?_
  obtain ⟨rfl, H⟩ := hR
  rw [e3] at S H
  dsimp only at S H
  refine rs 5 S H t0 fun a w S H => ?_
  refine sb ?_
  refine rn 1 S H t0 fun a w S H => ?_
  refine r_call (args := #[.pointer (some ⟨db14, 0, none⟩), str ([105, 110]), str ([105, 110]), str ([116, 101, 109, 112]), .int .i64 5, .int .i64 3, .int .i64 0]) S rfl rfl Tryz.call14 (sortD_ct (H := H) _ _ (hl.via fun _ H => H.drop.drop) db14 ([105, 110]) ([105, 110]) ([116, 101, 109, 112]) 5 3 0 d3 (by omega) (by omega) (by decide)) rfl rfl rfl fun v a w hR S => ?_
  obtain ⟨rfl, H⟩ := hR
  rw [e4] at S H
  dsimp only at S H
  refine rs 5 S H t0 fun a w S H => ?_
  refine sb ?_
  refine rn 1 S H t0 fun a w S H => ?_
  refine r_call (args := #[.pointer (some ⟨db14, 0, none⟩), str ([110, 111, 110, 101]), str ([110, 101, 119]), str ([116, 101, 109, 112]), .int .i64 5, .int .i64 3, .int .i64 0]) S rfl rfl Tryz.call14 (sortD_ct (H := H) _ _ (hl.via fun _ H => H.drop.drop) db14 ([110, 111, 110, 101]) ([110, 101, 119]) ([116, 101, 109, 112]) 5 3 0 d4 (by omega) (by omega) (by decide)) rfl rfl rfl fun v a w hR S => ?_
  obtain ⟨rfl, H⟩ := hR
  rw [e5] at S H
  dsimp only at S H
  refine rs 5 S H t0 fun a w S H => ?_
  refine sb ?_
  refine rn 1 S H t0 fun a w S H => ?_
  refine r_call (args := #[.pointer (some ⟨db14, 0, none⟩), str ([105, 110])]) S rfl rfl Tryz.call16 (read_ct (H := H) _ _ db14 ([105, 110]) d5 (by omega)) rfl rfl rfl fun v a w hR S => ?_
  obtain ⟨A15, c16, rfl, H⟩ := hR
  rw [e6] at S H
  dsimp only at S H
  refine rs 5 S H t0 fun a w S H => ?_
  refine sb ?_
  refine rn 1 S H t0 fun a w S H => ?_
  refine r_call (args := #[.pointer (some ⟨db14, 0, none⟩), str ([111, 117, 116])]) S rfl rfl Tryz.call16 (read_ct (H := (pk [1, 0, 2, 3] 4 H)) _ _ db14 ([111, 117, 116]) d6 (by omega)) rfl rfl rfl fun v a w hR S => ?_
  obtain ⟨A17, c18, rfl, H⟩ := hR
  rw [e7] at S H
  dsimp only at S H
  refine rs 5 S H t0 fun a w S H => ?_
  refine sb ?_
  refine rn 1 S H t0 fun a w S H => ?_
  refine r_call (args := #[.pointer (some ⟨db14, 0, none⟩)]) S rfl rfl Tryz.call15 (list_ct (H := (pk [1, 0, 2, 3, 4] 5 H)) _ _ db14 d7 (by omega)) rfl rfl rfl fun v a w hR S => ?_
  obtain ⟨A19, c20, rfl, H⟩ := hR
  rw [e8] at S H
  dsimp only at S H
  refine rs 5 S H t0 fun a w S H => ?_
  refine sb ?_
  refine rn 4 S H t0 fun a w S H => ?_
  have S := S.retell (v' := .bool true) 72 rfl rfl
  refine rn 4 S H t0 fun a w S H => ?_
  have S := S.retell (v' := .bool true) 76 rfl rfl
  refine rn 4 S H t0 fun a w S H => ?_
  have S := S.retell (v' := .bool true) 80 rfl rfl
  refine rn 4 S H t0 fun a w S H => ?_
  have S := S.retell (v' := .bool true) 84 rfl rfl
  refine rn 4 S H t0 fun a w S H => ?_
  have S := S.retell (v' := .bool true) 88 rfl rfl
  refine rn 4 S H t0 fun a w S H => ?_
  have S := S.retell (v' := .bool true) 92 rfl rfl
  refine rn 3 S H t0 fun a w S H => ?_
  refine r_y S H (y_len S rfl rfl Tryz.underlying31) rfl rfl rfl fun a S => ?_
  have S := S.retell (v' := .int .i64 2) 96 rfl (by rw [hns]; rfl)
  refine rn 1 S H t0 fun a w S H => ?_
  have S := S.retell (v' := .bool true) 97 rfl rfl
  refine rn 4 S H t0 fun a w S H => ?_
  refine r_call (args := #[.slice A15 (lk.length) c16, .slice A5 (lk.length) c6]) S rfl rfl Tryz.call18 (same7_ct (H := H) _ _ _ _ _ lk (SlOk.ofRow (i := 3) H rfl) _ _ _ lk (SlOk.ofRow (i := 5) H rfl)) rfl rfl rfl fun v a w hR S => ?_
  obtain ⟨rfl, H⟩ := hR
  have S := S.retell (v' := .bool true) 102 rfl (by simp)
  refine rn 4 S H t0 fun a w S H => ?_
  refine r_call (args := #[.slice A17 (mk.length) c18, .slice A11 (mk.length) c12]) S rfl rfl Tryz.call18 (same7_ct (H := H) _ _ _ _ _ mk (SlOk.ofRow (i := 2) H rfl) _ _ _ mk (SlOk.ofRow (i := 4) H rfl)) rfl rfl rfl fun v a w hR S => ?_
  obtain ⟨rfl, H⟩ := hR
  have S := S.retell (v' := .bool true) 107 rfl (by simp)
  refine rs 2 S H t0 fun a w S H => ?_
  refine wp_ret ?_
  refine r_ret1 S H Tryz.results5 (ro_tmp S rfl) ?_
  exact ⟨rfl, H.drop.drop.drop.drop.drop.drop⟩

end Go.Proofs.YtgfdmhjjlajmgaaGreatDoor
