/- Walks of functions of the program, over slots and resources, and what they rest on. No condition. -/
import Derived.Test.YtgfdmhjjlajmgaaGreatDoorKExtsortBytesd
namespace Go.Proofs.YtgfdmhjjlajmgaaGreatDoor
open Go.RowKit Go.Cg
set_option linter.unusedVariables false
set_option linter.unusedSimpArgs false
set_option maxRecDepth 8000
set_option synthInstance.maxHeartbeats 1000000
set_option synthInstance.maxSize 1000000
open Go.Cg.Dk (By Nm)
open Go.Cg.Rn (R Bd)
open Go.Cg.Xs (Tm tname)
theorem law_bytes (w : World) (fr : List Res) (hl : Laid fr) (A : Option Addr) (n c : Nat) (l : List UInt8) (ok0 : SlOk fr 1 A n c (u8s l)) (H : Sat w (fr)) :
    Rt Tryz.prog 7 #[.slice A n c] w fun v w' => v = .bool true ∧ Sat w' fr := by
  refine en1 Tryz.func7 rfl Tryz.ntmps7 rfl fun a S => ?_
  obtain rfl : n = l.length := by have := ok0.len; simp at this; omega
  have hcpl := ok0.le
  have hcql := ok0.cap
  simp only [maxLen] at hcql
  refine sr 1 S H t0 fun a w S H => ?_
  refine sb ?_
  refine r_call (args := #[]) S rfl rfl Tryz.call10 (shown_ct (H := H) _ _ (hl.via fun _ H => H)) rfl rfl rfl fun v a w hR S => ?_
  obtain ⟨rfl, H⟩ := hR
  refine rs 1 S H t0 fun a w S H => ?_
  refine sb ?_
  refine rn 3 S H t0 fun a w S H => ?_
  refine r_y S H (y_min S rfl rfl rfl) rfl rfl rfl fun a S => ?_
  obtain ⟨Kbs, hKbs⟩ : ∃ K : Nat, ((K : Nat) : Int) = min ((l.length : Nat) : Int) 1000 := ⟨min l.length 1000, by omega⟩
  have S := S.retell (v' := .int .i64 ((Kbs : Nat) : Int)) 15 rfl (by rw [hKbs])
  refine r_y S H (y_sliceH (k := Kbs) S rfl rfl rfl Tryz.underlying41 Tryz.sizeOf5 (by first | omega | (simp <;> omega)) (by first | omega | (simp <;> omega))) rfl rfl rfl fun a S => ?_
  have hcapbs := ok0.le
  obtain ⟨bs, hbs⟩ : ∃ x, x = l.take Kbs := ⟨_, rfl⟩
  have hlbs : bs.length = Kbs := by rw [hbs]; simp; omega
  have okbs : SlOk fr 1 (shift A 0 (decide (c = 0))) bs.length c (u8s bs) := by rw [hlbs, hbs]; exact u8s_take l Kbs ▸ ok0.init Kbs (by omega)
  have S := S.retell (v' := .slice (shift A 0 (decide (c = 0))) bs.length c) 16 rfl (by rw [hlbs])
  refine rs 1 S H t0 fun a w S H => ?_
  refine sb ?_
  refine r_call (args := #[.int .i64 10000]) S rfl rfl Tryz.call12 (new_ct (H := H) _ _ 10000 (by omega)) rfl rfl rfl fun v a w hR S => ?_
  obtain ⟨db2, rfl, H⟩ := hR
  obtain ⟨d1, d2, d3, rl, er, e1, e2, e3, hrl, k1, k2, k3, hO⟩ := Xs.bytes_plan (bs := bs) (by omega)
  have k0 : (Dk.fresh 10000).files.length ≤ 20 := by decide
  refine rs 1 S H t0 fun a w S H => ?_
  refine r_seq ?_
  refine sb ?_
  refine rn 5 S H (by omega) fun a w S H => ?_
  rw [e1] at S H
  dsimp only at S H
  refine rn 1 S H t0 fun a w S H => ?_
  have S := S.retell (v' := .bool false) 23 rfl rfl
  refine rn 4 S H t0 fun a w S H => ?_
  refine r_call (args := #[.pointer (some ⟨db2, 0, none⟩), str ([105, 110]), .slice (shift A 0 (decide (c = 0))) bs.length c]) S rfl rfl Tryz.call22 (append_ct (H := H) _ _ db2 d1 ([105, 110]) (by omega) _ _ bs okbs (by omega)) rfl rfl rfl fun v a w hR S => ?_
  obtain ⟨rfl, H⟩ := hR
  rw [e2] at S H
  dsimp only at S H
  refine rn 1 S H t0 fun a w S H => ?_
  have S := S.retell (v' := .bool false) 29 rfl rfl
  refine rs 1 S H t0 fun a w S H => ?_
  refine r_condF S rfl ?_
  refine wp_skip ?_
  refine x_then ?_
  refine sb ?_
  refine rn 1 S H t0 fun a w S H => ?_
  refine r_call (args := #[.pointer (some ⟨db2, 0, none⟩), str ([105, 110])]) S rfl rfl Tryz.call16 (read_ct (H := H) _ _ db2 ([105, 110]) d2 (by omega)) rfl rfl rfl fun v a w hR S => ?_
  obtain ⟨A3, c4, rfl, H⟩ := hR
  rw [e3] at S H
  dsimp only at S H
  refine rs 5 S H t0 fun a w S H => ?_
  rcases hO with ⟨hne, d4, d5, ns, e4, e5, hns, k4⟩ | ⟨hne, d4, d5, ns, e4, e5, hns, k4⟩
  · skip
    refine sb ?_
    refine rn 1 S H t0 fun a w S H => ?_
    refine r_call (args := #[.pointer (some ⟨db2, 0, none⟩), str ([105, 110]), str ([111, 117, 116]), str ([116]), .int .i64 4, .int .i64 2, .int .i64 0]) S rfl rfl Tryz.call14 (sortD_ct (H := (pk [1, 0] 2 H)) _ _ (hl.via fun _ H => H.drop) db2 ([105, 110]) ([111, 117, 116]) ([116]) 4 2 0 d3 (by omega) (by decide) (by decide)) rfl rfl rfl fun v a w hR S => ?_
    obtain ⟨rfl, H⟩ := hR
    rw [e4] at S H
    dsimp only at S H
    refine rs 5 S H t0 fun a w S H => ?_
    refine sb ?_
    refine rn 1 S H t0 fun a w S H => ?_
    refine r_call (args := #[.pointer (some ⟨db2, 0, none⟩)]) S rfl rfl Tryz.call15 (list_ct (H := H) _ _ db2 d4 (by omega)) rfl rfl rfl fun v a w hR S => ?_
    obtain ⟨A5, c6, rfl, H⟩ := hR
    rw [e5] at S H
    dsimp only at S H
    refine rs 5 S H t0 fun a w S H => ?_
    refine r_seq ?_
    refine sr 2 S H t0 fun a w S H => ?_
    refine r_test S rfl (fun h47 => ?_) (fun h47 => ?_)
    · skip
      refine sb ?_
      refine rn 4 S H t0 fun a w S H => ?_
      refine r_y S H (y_eq S rfl rfl rfl) rfl rfl rfl fun a S => ?_
      have S := S.retell (v' := .bool true) 52 rfl (by simp)
      refine rn 4 S H t0 fun a w S H => ?_
      have S := S.retell (v' := .bool true) 56 rfl rfl
      refine rn 4 S H t0 fun a w S H => ?_
      have S := S.retell (v' := .bool true) 60 rfl rfl
      refine rn 3 S H t0 fun a w S H => ?_
      refine r_y S H (y_len S rfl rfl Tryz.underlying31) rfl rfl rfl fun a S => ?_
      have S := S.retell (v' := .int .i64 1) 64 rfl (by rw [hns]; rfl)
      refine rn 1 S H t0 fun a w S H => ?_
      have S := S.retell (v' := .bool true) 65 rfl rfl
      refine rs 2 S H t0 fun a w S H => ?_
      refine wp_ret ?_
      refine x_thenRet ?_
      refine r_ret1 S H Tryz.results7 (ro_tmp S rfl) ?_
      exact ⟨rfl, H.drop.drop.drop⟩
    exfalso; simp at h47; omega
  refine sb ?_
  refine rn 1 S H t0 fun a w S H => ?_
  refine r_call (args := #[.pointer (some ⟨db2, 0, none⟩), str ([105, 110]), str ([111, 117, 116]), str ([116]), .int .i64 4, .int .i64 2, .int .i64 0]) S rfl rfl Tryz.call14 (sortD_ct (H := (pk [1, 0] 2 H)) _ _ (hl.via fun _ H => H.drop) db2 ([105, 110]) ([111, 117, 116]) ([116]) 4 2 0 d3 (by omega) (by decide) (by decide)) rfl rfl rfl fun v a w hR S => ?_
  obtain ⟨rfl, H⟩ := hR
  rw [e4] at S H
  dsimp only at S H
  refine rs 5 S H t0 fun a w S H => ?_
  refine sb ?_
  refine rn 1 S H t0 fun a w S H => ?_
  refine r_call (args := #[.pointer (some ⟨db2, 0, none⟩)]) S rfl rfl Tryz.call15 (list_ct (H := H) _ _ db2 d4 (by omega)) rfl rfl rfl fun v a w hR S => ?_
  obtain ⟨A7, c8, rfl, H⟩ := hR
  rw [e5] at S H
  dsimp only at S H
  refine rs 5 S H t0 fun a w S H => ?_
  refine r_seq ?_
  refine sr 2 S H t0 fun a w S H => ?_
  refine r_test S rfl (fun h47 => ?_) (fun h47 => ?_)
  · skip
    exfalso; simp at h47; omega
  refine wp_skip ?_
  refine x_then ?_
  refine sb ?_
  refine rn 4 S H t0 fun a w S H => ?_
  have S := S.retell (v' := .bool true) 70 rfl rfl
  refine rn 4 S H t0 fun a w S H => ?_
  have S := S.retell (v' := .bool true) 74 rfl rfl
  refine rn 3 S H t0 fun a w S H => ?_
  refine r_y S H (y_len S rfl rfl Tryz.underlying31) rfl rfl rfl fun a S => ?_
  have S := S.retell (v' := .int .i64 2) 78 rfl (by rw [hns]; rfl)
  refine rn 1 S H t0 fun a w S H => ?_
  have S := S.retell (v' := .bool true) 79 rfl rfl
  refine rn 5 S H t0 fun a w S H => ?_
  refine r_call (args := #[.int .i64 ((rl.length : Nat) : Int), .int .i64 4, .int .i64 2]) S rfl rfl Tryz.call20 (passes_ct (H := H) _ _ ((rl.length : Nat) : Int) 4 2 (by omega) (by omega) (by omega)) rfl rfl rfl fun v a w hR S => ?_
  obtain ⟨rfl, H⟩ := hR
  refine r_y S H (y_eq S rfl rfl rfl) rfl rfl rfl fun a S => ?_
  have S := S.retell (v' := .bool true) 86 rfl (by simp)
  refine rs 2 S H t0 fun a w S H => ?_
  refine wp_ret ?_
  refine r_ret1 S H Tryz.results7 (ro_tmp S rfl) ?_
  exact ⟨rfl, H.drop.drop.drop⟩

end Go.Proofs.YtgfdmhjjlajmgaaGreatDoor
