/- Walks of functions of the program, over slots and resources. No condition. -/
import Derived.Test.YtgfdmhjjlajmgaaGreatDoorKUd
namespace Go.Proofs.YtgfdmhjjlajmgaaGreatDoor
open Go.RowKit Go.Cg
set_option linter.unusedVariables false
set_option linter.unusedSimpArgs false
set_option maxRecDepth 8000
set_option synthInstance.maxHeartbeats 1000000
set_option synthInstance.maxSize 1000000
open Go.Cg.Dk (By Nm)
open Go.Cg.Rn (R Bd)
open Go.Cg.Xs (Tm tname)
theorem okNil (L : List Res) : SlOk L 1 none 0 0 [] := ⟨fun _ => rfl, Nat.le_refl _, Nat.zero_le _, rfl, Rd.nil _ _⟩
theorem law_down (w : World) (fr : List Res) (hl : Laid fr) (A : Option Addr) (n c : Nat) (l : List R) (ok0 : SlOk fr 2 A n c (recs l)) (hB : Bd l) (a1 : Int) (A2 : Option Addr) (n2 c2 : Nat) (kk : List Bool) (ok2 : SlOk fr 1 A2 n2 c2 (bools kk)) (H : Sat w (fr)) :
    Rt Tryz.prog 9 #[.slice A n c, .int .i64 a1, .slice A2 n2 c2] w fun v w' => v = .bool true ∧ Sat w' fr := by
  refine en3 Tryz.func9 rfl Tryz.ntmps9 rfl fun a S => ?_
  obtain rfl := SlOk.nR ok0
  have hcpl := ok0.le
  have hcql := ok0.cap
  simp only [maxLen] at hcql
  have hcp2 := ok2.le
  have hcq2 := ok2.cap
  simp only [maxLen] at hcq2
  obtain rfl : n2 = kk.length := by have := ok2.len; simp at this; omega
  refine sr 1 S H t0 fun a w S H => ?_
  refine sb ?_
  refine r_call (args := #[]) S rfl rfl Tryz.call10 (shown_ct (H := H) _ _ (hl.via fun _ H => H)) rfl rfl rfl fun v a w hR S => ?_
  obtain ⟨rfl, H⟩ := hR
  refine rs 1 S H t0 fun a w S H => ?_
  refine sb ?_
  refine rn 1 S H t0 fun a w S H => ?_
  refine r_call (args := #[.slice A l.length c]) S rfl rfl Tryz.call11 (few_ct (H := H) _ _ A l.length c l ok0) rfl rfl rfl fun v a w hR S => ?_
  obtain ⟨A5, c6, rfl, H⟩ := hR
  obtain ⟨lk, hlk⟩ : ∃ y, y = l.take 120 := ⟨_, rfl⟩
  rw [← hlk] at S H
  have hnlk : lk.length ≤ 120 := by rw [hlk, List.length_take]; omega
  have hblk : Bd lk := by rw [hlk]; exact hB.take 120
  refine rs 1 S H t0 fun a w S H => ?_
  refine sb ?_
  refine rn 1 S H t0 fun a w S H => ?_
  refine r_y S H (y_bitop S rfl rfl rfl (fun w => maskL 16 65536 65535 (by decide) (by decide) (by decide) a1 w)) rfl rfl rfl fun a S => ?_
  refine r_y S H (y_remN S rfl rfl rfl (by omega) (by omega)) rfl rfl rfl fun a S => ?_
  refine r_y S H (y_add S rfl rfl rfl (wi64 (by omega) (by omega))) rfl rfl rfl fun a S => ?_
  obtain ⟨an, han⟩ : ∃ x : Nat, ((x : Nat) : Int) = 1 + a1 % 65536 % 200 := ⟨(1 + a1 % 65536 % 200).toNat, by omega⟩
  have S := S.retell (v' := .int .i64 ((an : Nat) : Int)) 23 rfl (by rw [han])
  have hanb : an ≤ 200 := by omega
  refine rs 1 S H t0 fun a w S H => ?_
  refine sb ?_
  refine rn 3 S H t0 fun a w S H => ?_
  refine r_y S H (y_min S rfl rfl rfl) rfl rfl rfl fun a S => ?_
  obtain ⟨Kkp, hKkp⟩ : ∃ K : Nat, ((K : Nat) : Int) = min ((kk.length : Nat) : Int) 60 := ⟨min kk.length 60, by omega⟩
  have S := S.retell (v' := .int .i64 ((Kkp : Nat) : Int)) 27 rfl (by rw [hKkp])
  refine r_y S H (y_sliceH (k := Kkp) S rfl rfl rfl Tryz.underlying47 Tryz.sizeOf4 (by first | omega | (simp <;> omega)) (by first | omega | (simp <;> omega))) rfl rfl rfl fun a S => ?_
  have hcapkp := ok2.le
  obtain ⟨kp, hkp⟩ : ∃ x, x = kk.take Kkp := ⟨_, rfl⟩
  have hlkp : kp.length = Kkp := by rw [hkp]; simp; omega
  have okkp : SlOk fr 1 (shift A2 0 (decide (c2 = 0))) kp.length c2 (bools kp) := by rw [hlkp, hkp]; exact bools_take kk Kkp ▸ ok2.init Kkp (by omega)
  have S := S.retell (v' := .slice (shift A2 0 (decide (c2 = 0))) kp.length c2) 28 rfl (by rw [hlkp])
  refine rs 1 S H t0 fun a w S H => ?_
  refine sb ?_
  refine r_call (args := #[.int .i64 10000]) S rfl rfl Tryz.call12 (new_ct (H := H) _ _ 10000 (by omega)) rfl rfl rfl fun v a w hR S => ?_
  obtain ⟨db8, rfl, H⟩ := hR
  obtain ⟨d1, e1, k1, d2, p, e, e2, k2, hed, hrest⟩ := Xs.down_plan hnlk hblk an kp
  refine rs 1 S H t0 fun a w S H => ?_
  refine r_seq ?_
  refine sb ?_
  refine rn 5 S H t0 fun a w S H => ?_
  refine r_call (args := #[.pointer (some ⟨db8, 0, none⟩), str ([105, 110]), .slice A5 (lk.length) c6]) S rfl rfl Tryz.call13 (write_ct (H := H) _ _ db8 ([105, 110]) (Dk.fresh 10000) (by show 0 + 1 ≤ _; omega) _ _ lk (SlOk.ofRow (i := 0) (H).drop rfl) (by omega) hblk) rfl rfl rfl fun v a w hR S => ?_
  obtain ⟨rfl, H⟩ := hR
  rw [e1] at S H
  dsimp only at S H
  refine rn 1 S H t0 fun a w S H => ?_
  have S := S.retell (v' := .bool false) 36 rfl rfl
  refine rs 1 S H t0 fun a w S H => ?_
  refine r_condF S rfl ?_
  refine wp_skip ?_
  refine x_then ?_
  refine sb ?_
  refine rn 3 S H t0 fun a w S H => ?_
  refine r_call (args := #[.pointer (some ⟨db8, 0, none⟩), .int .i64 ((an : Nat) : Int), .slice (shift A2 0 (decide (c2 = 0))) kp.length c2]) S rfl rfl Tryz.call24 (arm_ct (H := H) _ _ db8 d1 ((an : Nat) : Int) (by omega) _ _ kp (okkp.via fun _ H => H.drop) (by first | omega | simp)) rfl rfl rfl fun v a w hR S => ?_
  obtain ⟨rfl, H⟩ := hR
  refine sn ?_
  refine sb ?_
  refine rn 1 S H t0 fun a w S H => ?_
  refine r_call (args := #[.pointer (some ⟨db8, 0, none⟩), str ([105, 110]), str ([111, 117, 116]), str ([116, 101, 109, 112]), .int .i64 7, .int .i64 3, .int .i64 1]) S rfl rfl Tryz.call14 (sortD_ct (H := H) _ _ (hl.via fun _ H => H.drop) db8 ([105, 110]) ([111, 117, 116]) ([116, 101, 109, 112]) 7 3 1 (Dk.Disk.arm ((an : Nat) : Int) kp d1) (by show d1.files.length ≤ _; omega) (by decide) (by decide)) rfl rfl rfl fun v a w hR S => ?_
  obtain ⟨rfl, H⟩ := hR
  have hok2 := H.diskOk
  rw [e2] at hok2
  obtain ⟨d3, d4, d5, p2, e3, e4, e5, k3, k4⟩ := hrest hok2
  rw [e2] at S H
  dsimp only at S H
  refine rs 5 S H t0 fun a w S H => ?_
  refine r_seq ?_
  rcases hed with ⟨he, hdw⟩ | ⟨he, hdw⟩
  · skip
    have S := S.retell (v' := .int .i64 7) 10 rfl (by rw [he]; rfl)
    refine sb ?_
    refine rn 2 S H t0 fun a w S H => ?_
    have S := S.retell (v' := .bool true) 48 rfl rfl
    refine rn 1 S H t0 fun a w S H => ?_
    refine r_call (args := #[.pointer (some ⟨db8, 0, none⟩)]) S rfl rfl Tryz.call25 (isdown_ct (H := H) _ _ db8 d2) rfl rfl rfl fun v a w hR S => ?_
    obtain ⟨rfl, H⟩ := hR
    have S := S.retell (v' := .bool true) 50 rfl (by rw [hdw])
    refine r_y S H (y_neB S rfl rfl rfl Tryz.underlying4) rfl rfl rfl fun a S => ?_
    have S := S.retell (v' := .bool false) 51 rfl (by rfl)
    refine rn 3 S H t0 fun a w S H => ?_
    have S := S.retell (v' := .bool true) 54 rfl rfl
    refine rn 3 S H t0 fun a w S H => ?_
    have S := S.retell (v' := .bool false) 57 rfl rfl
    refine rs 2 S H t0 fun a w S H => ?_
    refine r_condF S rfl ?_
    refine wp_skip ?_
    refine x_then ?_
    refine sb ?_
    refine rn 1 S H t0 fun a w S H => ?_
    refine r_call (args := #[.pointer (some ⟨db8, 0, none⟩), .int .i64 0, .slice none 0 0]) S rfl rfl Tryz.call24 (arm_ct (H := H) _ _ db8 d2 0 (by decide) _ _ ([]) (okNil _) (by first | omega | simp)) rfl rfl rfl fun v a w hR S => ?_
    obtain ⟨rfl, H⟩ := hR
    refine sn ?_
    refine sr 2 S H (by omega) fun a w S H => ?_
    refine sb ?_
    refine rn 1 S H t0 fun a w S H => ?_
    refine r_call (args := #[.pointer (some ⟨db8, 0, none⟩), str ([105, 110])]) S rfl rfl Tryz.call16 (read_ct (H := H) _ _ db8 ([105, 110]) (Dk.Disk.restart (Dk.Disk.arm 0 ([]) d2)) (by show d2.files.length ≤ _; omega)) rfl rfl rfl fun v a w hR S => ?_
    obtain ⟨A9, c10, rfl, H⟩ := hR
    rw [e3] at S H
    dsimp only at S H
    refine rs 5 S H t0 fun a w S H => ?_
    refine sb ?_
    refine rn 1 S H t0 fun a w S H => ?_
    refine r_call (args := #[.pointer (some ⟨db8, 0, none⟩), str ([105, 110]), str ([97, 103, 97, 105, 110]), str ([109, 111, 114, 101]), .int .i64 7, .int .i64 3, .int .i64 1]) S rfl rfl Tryz.call14 (sortD_ct (H := (pk [1, 0, 2] 3 H)) _ _ (hl.via fun _ H => H.drop.drop) db8 ([105, 110]) ([97, 103, 97, 105, 110]) ([109, 111, 114, 101]) 7 3 1 d3 (by omega) (by decide) (by decide)) rfl rfl rfl fun v a w hR S => ?_
    obtain ⟨rfl, H⟩ := hR
    rw [e4] at S H
    dsimp only at S H
    refine rs 5 S H t0 fun a w S H => ?_
    refine sb ?_
    refine rn 1 S H t0 fun a w S H => ?_
    refine r_call (args := #[.pointer (some ⟨db8, 0, none⟩), str ([97, 103, 97, 105, 110])]) S rfl rfl Tryz.call16 (read_ct (H := H) _ _ db8 ([97, 103, 97, 105, 110]) d4 (by omega)) rfl rfl rfl fun v a w hR S => ?_
    obtain ⟨A11, c12, rfl, H⟩ := hR
    rw [e5] at S H
    dsimp only at S H
    refine rs 5 S H t0 fun a w S H => ?_
    refine sb ?_
    refine rn 4 S H t0 fun a w S H => ?_
    have S := S.retell (v' := .bool true) 82 rfl rfl
    refine rn 4 S H t0 fun a w S H => ?_
    refine r_call (args := #[.slice A9 (lk.length) c10, .slice A5 (lk.length) c6]) S rfl rfl Tryz.call18 (same7_ct (H := H) _ _ _ _ _ lk (SlOk.ofRow (i := 2) H rfl) _ _ _ lk (SlOk.ofRow (i := 3) H rfl)) rfl rfl rfl fun v a w hR S => ?_
    obtain ⟨rfl, H⟩ := hR
    have S := S.retell (v' := .bool true) 87 rfl (by simp)
    refine rn 4 S H t0 fun a w S H => ?_
    have S := S.retell (v' := .bool true) 91 rfl rfl
    refine rn 4 S H t0 fun a w S H => ?_
    have S := S.retell (v' := .bool true) 95 rfl rfl
    refine rn 4 S H t0 fun a w S H => ?_
    refine r_call (args := #[.slice A5 (lk.length) c6, .int .i64 1]) S rfl rfl Tryz.call19 (sorted8_ct (H := H) _ _ A5 c6 lk (SlOk.ofRow (i := 3) H rfl) (by omega) (hblk) 1) rfl rfl rfl fun v a w hR S => ?_
    obtain ⟨A13, c14, rfl, H⟩ := hR
    refine r_call (args := #[.slice A11 ((Rn.fold 1 (Rn.sort lk)).length) c12, .slice A13 ((Rn.fold 1 (Rn.sort lk)).length) c14]) S rfl rfl Tryz.call18 (same7_ct (H := H) _ _ _ _ _ (Rn.fold 1 (Rn.sort lk)) (SlOk.ofRow (i := 1) H rfl) _ _ _ (Rn.fold 1 (Rn.sort lk)) (SlOk.ofRow (i := 0) H rfl)) rfl rfl rfl fun v a w hR S => ?_
    obtain ⟨rfl, H⟩ := hR
    have S := S.retell (v' := .bool true) 101 rfl (by simp)
    refine rs 2 S H t0 fun a w S H => ?_
    refine wp_ret ?_
    refine r_ret1 S H Tryz.results9 (ro_tmp S rfl) ?_
    exact ⟨rfl, H.drop.drop.drop.drop.drop⟩
  have S := S.retell (v' := .int .i64 0) 10 rfl (by rw [he]; rfl)
  refine sb ?_
  refine rn 2 S H t0 fun a w S H => ?_
  have S := S.retell (v' := .bool false) 48 rfl rfl
  refine rn 1 S H t0 fun a w S H => ?_
  refine r_call (args := #[.pointer (some ⟨db8, 0, none⟩)]) S rfl rfl Tryz.call25 (isdown_ct (H := H) _ _ db8 d2) rfl rfl rfl fun v a w hR S => ?_
  obtain ⟨rfl, H⟩ := hR
  have S := S.retell (v' := .bool false) 50 rfl (by rw [hdw])
  refine r_y S H (y_neB S rfl rfl rfl Tryz.underlying4) rfl rfl rfl fun a S => ?_
  have S := S.retell (v' := .bool false) 51 rfl (by rfl)
  refine rn 3 S H t0 fun a w S H => ?_
  have S := S.retell (v' := .bool false) 54 rfl rfl
  refine rs 5 S H t0 fun a w S H => ?_
  refine r_condF S rfl ?_
  refine wp_skip ?_
  refine x_then ?_
  refine sb ?_
  refine rn 1 S H t0 fun a w S H => ?_
  refine r_call (args := #[.pointer (some ⟨db8, 0, none⟩), .int .i64 0, .slice none 0 0]) S rfl rfl Tryz.call24 (arm_ct (H := H) _ _ db8 d2 0 (by decide) _ _ ([]) (okNil _) (by first | omega | simp)) rfl rfl rfl fun v a w hR S => ?_
  obtain ⟨rfl, H⟩ := hR
  refine sn ?_
  refine sr 2 S H (by omega) fun a w S H => ?_
  refine sb ?_
  refine rn 1 S H t0 fun a w S H => ?_
  refine r_call (args := #[.pointer (some ⟨db8, 0, none⟩), str ([105, 110])]) S rfl rfl Tryz.call16 (read_ct (H := H) _ _ db8 ([105, 110]) (Dk.Disk.restart (Dk.Disk.arm 0 ([]) d2)) (by show d2.files.length ≤ _; omega)) rfl rfl rfl fun v a w hR S => ?_
  obtain ⟨A15, c16, rfl, H⟩ := hR
  rw [e3] at S H
  dsimp only at S H
  refine rs 5 S H t0 fun a w S H => ?_
  refine sb ?_
  refine rn 1 S H t0 fun a w S H => ?_
  refine r_call (args := #[.pointer (some ⟨db8, 0, none⟩), str ([105, 110]), str ([97, 103, 97, 105, 110]), str ([109, 111, 114, 101]), .int .i64 7, .int .i64 3, .int .i64 1]) S rfl rfl Tryz.call14 (sortD_ct (H := (pk [1, 0, 2] 3 H)) _ _ (hl.via fun _ H => H.drop.drop) db8 ([105, 110]) ([97, 103, 97, 105, 110]) ([109, 111, 114, 101]) 7 3 1 d3 (by omega) (by decide) (by decide)) rfl rfl rfl fun v a w hR S => ?_
  obtain ⟨rfl, H⟩ := hR
  rw [e4] at S H
  dsimp only at S H
  refine rs 5 S H t0 fun a w S H => ?_
  refine sb ?_
  refine rn 1 S H t0 fun a w S H => ?_
  refine r_call (args := #[.pointer (some ⟨db8, 0, none⟩), str ([97, 103, 97, 105, 110])]) S rfl rfl Tryz.call16 (read_ct (H := H) _ _ db8 ([97, 103, 97, 105, 110]) d4 (by omega)) rfl rfl rfl fun v a w hR S => ?_
  obtain ⟨A17, c18, rfl, H⟩ := hR
  rw [e5] at S H
  dsimp only at S H
  refine rs 5 S H t0 fun a w S H => ?_
  refine sb ?_
  refine rn 4 S H t0 fun a w S H => ?_
  have S := S.retell (v' := .bool true) 82 rfl rfl
  refine rn 4 S H t0 fun a w S H => ?_
  refine r_call (args := #[.slice A15 (lk.length) c16, .slice A5 (lk.length) c6]) S rfl rfl Tryz.call18 (same7_ct (H := H) _ _ _ _ _ lk (SlOk.ofRow (i := 2) H rfl) _ _ _ lk (SlOk.ofRow (i := 3) H rfl)) rfl rfl rfl fun v a w hR S => ?_
  obtain ⟨rfl, H⟩ := hR
  have S := S.retell (v' := .bool true) 87 rfl (by simp)
  refine rn 4 S H t0 fun a w S H => ?_
  have S := S.retell (v' := .bool true) 91 rfl rfl
  refine rn 4 S H t0 fun a w S H => ?_
  have S := S.retell (v' := .bool true) 95 rfl rfl
  refine rn 4 S H t0 fun a w S H => ?_
  refine r_call (args := #[.slice A5 (lk.length) c6, .int .i64 1]) S rfl rfl Tryz.call19 (sorted8_ct (H := H) _ _ A5 c6 lk (SlOk.ofRow (i := 3) H rfl) (by omega) (hblk) 1) rfl rfl rfl fun v a w hR S => ?_
  obtain ⟨A19, c20, rfl, H⟩ := hR
  refine r_call (args := #[.slice A17 ((Rn.fold 1 (Rn.sort lk)).length) c18, .slice A19 ((Rn.fold 1 (Rn.sort lk)).length) c20]) S rfl rfl Tryz.call18 (same7_ct (H := H) _ _ _ _ _ (Rn.fold 1 (Rn.sort lk)) (SlOk.ofRow (i := 1) H rfl) _ _ _ (Rn.fold 1 (Rn.sort lk)) (SlOk.ofRow (i := 0) H rfl)) rfl rfl rfl fun v a w hR S => ?_
  obtain ⟨rfl, H⟩ := hR
  have S := S.retell (v' := .bool true) 101 rfl (by simp)
  refine rs 2 S H t0 fun a w S H => ?_
  refine wp_ret ?_
  refine r_ret1 S H Tryz.results9 (ro_tmp S rfl) ?_
  exact ⟨rfl, H.drop.drop.drop.drop.drop⟩

end Go.Proofs.YtgfdmhjjlajmgaaGreatDoor
