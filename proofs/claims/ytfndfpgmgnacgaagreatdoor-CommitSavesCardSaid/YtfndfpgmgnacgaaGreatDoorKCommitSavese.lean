/- Walks of functions of the program, over slots and resources, and what they rest on. No condition. -/
import Derived.Test.YtfndfpgmgnacgaaGreatDoorKCommitSavesd
namespace Go.Proofs.YtfndfpgmgnacgaaGreatDoor
open Go.RowKit Go.Cg
set_option linter.unusedVariables false
set_option linter.unusedSimpArgs false
set_option maxRecDepth 8000
set_option synthInstance.maxHeartbeats 1000000
set_option synthInstance.maxSize 1000000
open Go.Cg.Dk (By Nm)
open Go.Cg.Oc (Mf)
theorem right_pos {m : Mf} {q : Nat} (h : 0 ≤ m.step) : Cl.right m q = ⟨q, m.n % 65536 % 50, 1 + m.shards % 65536 % 9, m.step % 65536, 2 + 2 * (m.kind % 2), 0⟩ := if_pos h
theorem right_neg {m : Mf} {q : Nat} (h : ¬ 0 ≤ m.step) : Cl.right m q = ⟨q, m.n % 65536 % 50, 1 + m.shards % 65536 % 9, -1, 0, 0⟩ := if_neg h
theorem right_ct (w : World) (fr : List Res) (m : Mf) (q : Nat) (H : Sat w (fr)) :
    Rt Tryz.prog 11 #[.agg #[.int .u64 ((m.seq : Nat) : Int), .int .i64 m.n, .int .i64 m.shards, .int .i64 m.step, .int .i64 m.kind, .int .u32 ((m.start : Nat) : Int)], .int .u64 ((q : Nat) : Int)] w fun v w' => v = .agg #[.int .u64 (((Cl.right m q).seq : Nat) : Int), .int .i64 ((Cl.right m q).n), .int .i64 ((Cl.right m q).shards), .int .i64 ((Cl.right m q).step), .int .i64 ((Cl.right m q).kind), .int .u32 (((Cl.right m q).start : Nat) : Int)] ∧ Sat w' fr := by
  refine en2 Tryz.func11 rfl Tryz.ntmps11 rfl fun a S => ?_
  refine sb ?_
  refine r_box (c := #[.int .u64 ((m.seq : Nat) : Int), .int .i64 m.n, .int .i64 m.shards, .int .i64 m.step, .int .i64 m.kind, .int .u32 ((m.start : Nat) : Int)]) S H rfl rfl rfl rfl rfl rfl fun a w b1 S H => ?_
  refine r_alloc S H rfl Tryz.zeroValue27 rfl rfl rfl rfl fun a w b2 S H => ?_
  replace H : Sat _ (blk b2 (.cells #[.int .u64 0, .int .i64 0, .int .i64 0, .int .i64 0, .int .i64 0, .int .u32 0] 27) :: blk b1 (.cells #[.int .u64 ((m.seq : Nat) : Int), .int .i64 m.n, .int .i64 m.shards, .int .i64 m.step, .int .i64 m.kind, .int .u32 ((m.start : Nat) : Int)] 27) :: fr) := H
  refine sn ?_
  refine sb ?_
  refine rn 3 S H t0 fun a w S H => ?_
  refine r_y S H (y_bitop S rfl rfl rfl (fun w => maskL 16 65536 65535 (by decide) (by decide) (by decide) m.n w)) rfl rfl rfl fun a S => ?_
  refine r_y S H (y_remN S rfl rfl rfl (by omega) (by omega)) rfl rfl rfl fun a S => ?_
  refine rn 2 S H t0 fun a w S H => ?_
  refine r_y S H (y_bitop S rfl rfl rfl (fun w => maskL 16 65536 65535 (by decide) (by decide) (by decide) m.shards w)) rfl rfl rfl fun a S => ?_
  refine r_y S H (y_remN S rfl rfl rfl (by omega) (by omega)) rfl rfl rfl fun a S => ?_
  refine rn 1 S H (by omega) fun a w S H => ?_
  refine r_y S H (y_build (vs := #[(0, .int .u64 ((q : Nat) : Int)), (1, .int .i64 ((m.n % 65536) % 50)), (2, .int .i64 (1 + ((m.shards % 65536) % 9))), (3, .int .i64 (-1))]) (v := .agg #[.int .u64 ((q : Nat) : Int), .int .i64 ((m.n % 65536) % 50), .int .i64 (1 + ((m.shards % 65536) % 9)), .int .i64 (-1), .int .i64 0, .int .u32 0]) S rfl rfl (fun w => by kernel_rfl)) rfl rfl rfl fun a S => ?_
  refine r_alloc S H rfl Tryz.zeroValue27 rfl rfl rfl rfl fun a w b3 S H => ?_
  replace H : Sat _ (blk b3 (.cells #[.int .u64 0, .int .i64 0, .int .i64 0, .int .i64 0, .int .i64 0, .int .u32 0] 27) :: blk b2 (.cells #[.int .u64 0, .int .i64 0, .int .i64 0, .int .i64 0, .int .i64 0, .int .u32 0] 27) :: blk b1 (.cells #[.int .u64 ((m.seq : Nat) : Int), .int .i64 m.n, .int .i64 m.shards, .int .i64 m.step, .int .i64 m.kind, .int .u32 ((m.start : Nat) : Int)] 27) :: fr) := H
  refine rs 1 S H t0 fun a w S H => ?_
  refine r_seq ?_
  rcases Int.lt_or_le m.step 0 with hs | hs
  · skip
    refine sb ?_
    refine rn 2 S H t0 fun a w S H => ?_
    refine r_y S H (y_ge S rfl rfl rfl) rfl rfl rfl fun a S => ?_
    have S := S.retell (v' := .bool false) 19 rfl (by rw [decide_eq_false (by omega)])
    refine sn ?_
    refine r_condF S rfl ?_
    refine wp_skip ?_
    refine x_then ?_
    refine sr 2 S H t0 fun a w S H => ?_
    refine wp_ret ?_
    refine r_ret1 S H Tryz.results11 (ro_agg [_, _, _, _, _, _] (i := 1) S rfl (fun w => ⟨Tryz.isAgg27 w, Tryz.sizeOf27 w⟩) rfl rfl ⟨rfl, rfl, rfl, rfl, rfl, rfl, trivial⟩) ?_
    rw [right_neg (by omega)]
    exact ⟨rfl, H.drop.drop.drop⟩
  · skip
    refine sb ?_
    refine rn 2 S H t0 fun a w S H => ?_
    refine r_y S H (y_ge S rfl rfl rfl) rfl rfl rfl fun a S => ?_
    have S := S.retell (v' := .bool true) 19 rfl (by rw [decide_eq_true (by omega)])
    refine sn ?_
    refine r_condT S rfl ?_
    refine sb ?_
    refine rn 2 S H t0 fun a w S H => ?_
    refine r_y S H (y_bitop S rfl rfl rfl (fun w => maskL 16 65536 65535 (by decide) (by decide) (by decide) m.step w)) rfl rfl rfl fun a S => ?_
    refine rs 2 S H t0 fun a w S H => ?_
    refine r_region ?_
    refine rn 3 S H t0 fun a w S H => ?_
    refine r_y S H (y_bitop S rfl rfl rfl (fun w => maskL 1 2 1 (by decide) (by decide) (by decide) m.kind w)) rfl rfl rfl fun a S => ?_
    refine rn 2 S H (by omega) fun a w S H => ?_
    refine r_y S H (y_build (vs := #[(0, .int .i64 (2 + (2 * (m.kind % 2))))]) (v := .agg #[.int .i64 (2 + (2 * (m.kind % 2))), .int .u32 0]) S rfl rfl (fun w => by kernel_rfl)) rfl rfl rfl fun a S => ?_
    refine rn 2 S H t0 fun a w S H => ?_
    refine r_nil ?_
    refine x_then ?_
    refine sr 2 S H t0 fun a w S H => ?_
    refine wp_ret ?_
    refine r_ret1 S H Tryz.results11 (ro_agg [_, _, _, _, _, _] (i := 1) S rfl (fun w => ⟨Tryz.isAgg27 w, Tryz.sizeOf27 w⟩) rfl rfl ⟨rfl, rfl, rfl, rfl, rfl, rfl, trivial⟩) ?_
    rw [right_pos (by omega)]
    exact ⟨rfl, H.drop.drop.drop⟩

end Go.Proofs.YtfndfpgmgnacgaaGreatDoor
namespace Go.Proofs.YtfndfpgmgnacgaaGreatDoor
open Go.RowKit Go.Cg
set_option linter.unusedVariables false
set_option linter.unusedSimpArgs false
set_option maxRecDepth 8000
set_option synthInstance.maxHeartbeats 1000000
set_option synthInstance.maxSize 1000000
open Go.Cg.Dk (By Nm)
open Go.Cg.Oc (Mf)
theorem law_crash (w : World) (fr : List Res) (hl : Laid fr) (m0 m1 : Mf) (a2 : Int) (A : Option Addr) (n c : Nat) (x3 : List Bool) (ok3 : SlOk fr 1 A n c (bools x3)) (H : Sat w (fr)) :
    Rt Tryz.prog 7 #[.agg #[.int .u64 ((m0.seq : Nat) : Int), .int .i64 m0.n, .int .i64 m0.shards, .int .i64 m0.step, .int .i64 m0.kind, .int .u32 ((m0.start : Nat) : Int)], .agg #[.int .u64 ((m1.seq : Nat) : Int), .int .i64 m1.n, .int .i64 m1.shards, .int .i64 m1.step, .int .i64 m1.kind, .int .u32 ((m1.start : Nat) : Int)], .int .i64 a2, .slice A n c] w fun v w' => v = .bool true ∧ Sat w' fr := by
  refine en4 Tryz.func7 rfl Tryz.ntmps7 rfl fun a S => ?_
  obtain rfl := ok3.nB
  have hc0 := ok3.le
  have hc1 := ok3.cap
  refine sb ?_
  refine r_box (c := #[.int .u64 ((m0.seq : Nat) : Int), .int .i64 m0.n, .int .i64 m0.shards, .int .i64 m0.step, .int .i64 m0.kind, .int .u32 ((m0.start : Nat) : Int)]) S H rfl rfl rfl rfl rfl rfl fun a w b1 S H => ?_
  refine r_box (c := #[.int .u64 ((m1.seq : Nat) : Int), .int .i64 m1.n, .int .i64 m1.shards, .int .i64 m1.step, .int .i64 m1.kind, .int .u32 ((m1.start : Nat) : Int)]) S H rfl rfl rfl rfl rfl rfl fun a w b2 S H => ?_
  refine rs 1 S H t0 fun a w S H => ?_
  refine sb ?_
  refine r_call (args := #[]) S rfl rfl Tryz.call9 (shown_ct (H := H) _ _ (hl.via fun _ H => H.drop.drop)) rfl rfl rfl fun v a w hR S => ?_
  obtain ⟨rfl, H⟩ := hR
  refine rs 1 S H t0 fun a w S H => ?_
  refine sb ?_
  refine rn 3 S H t0 fun a w S H => ?_
  refine r_y S H (y_min S rfl rfl rfl) rfl rfl rfl fun a S => ?_
  obtain ⟨Kkk, hKkk⟩ : ∃ K : Nat, ((K : Nat) : Int) = min ((x3.length : Nat) : Int) 60 := ⟨min x3.length 60, by omega⟩
  have S := S.retell (v' := .int .i64 ((Kkk : Nat) : Int)) 27 rfl (by rw [hKkk])
  refine r_y S H (y_sliceH (k := Kkk) S rfl rfl rfl Tryz.underlying51 Tryz.sizeOf4 (by first | omega | (simp <;> omega)) (by first | omega | (simp <;> omega))) rfl rfl rfl fun a S => ?_
  have hcapkk := ok3.le
  obtain ⟨kk, hkk⟩ : ∃ x, x = x3.take Kkk := ⟨_, rfl⟩
  have hlkk : kk.length = Kkk := by rw [hkk]; simp; omega
  have okkk : SlOk fr 1 (shift A 0 (decide (c = 0))) kk.length c (bools kk) := by rw [hlkk, hkk]; exact bools_take x3 Kkk ▸ ok3.init Kkk (by omega)
  have S := S.retell (v' := .slice (shift A 0 (decide (c = 0))) kk.length c) 28 rfl (by rw [hlkk])
  refine rs 1 S H t0 fun a w S H => ?_
  refine sb ?_
  refine rn 1 S H t0 fun a w S H => ?_
  refine r_y S H (y_bitop S rfl rfl rfl (fun w => maskL 16 65536 65535 (by decide) (by decide) (by decide) a2 w)) rfl rfl rfl fun a S => ?_
  refine r_y S H (y_remN S rfl rfl rfl (by omega) (by omega)) rfl rfl rfl fun a S => ?_
  refine rs 2 S H (by omega) fun a w S H => ?_
  obtain ⟨at_, hat⟩ : ∃ x, x = 1 + a2 % 65536 % 12 := ⟨_, rfl⟩
  have S := S.retell (v' := .int .i64 at_) 2 rfl (by rw [hat])
  have hkk : kk.length ≤ 60 := by omega
  obtain ⟨d1, d2, eE, zZ, d4, d5, d6, d7, l, e1, e2, e4, e5, e6, e7, hll, hez, k1, k2, k3, k4, k5, k6, k7⟩ := Cl.crash_plan (Cl.right m0 4) (Cl.right m1 5) (Cl.right_ok _ (by omega)) (Cl.right_seq _ _) (Cl.right_start _ _) (Cl.right_ok _ (by omega)) (Cl.right_seq _ _) (Cl.right_start _ _) at_ (by omega) (by omega) kk
  have k0 : (Dk.fresh 1000).files.length ≤ 10 := by decide
  refine sb ?_
  refine r_call (args := #[.int .i64 1000]) S rfl rfl Tryz.call10 (new_ct (H := H) _ _ 1000 (by omega)) rfl rfl rfl fun v a w hR S => ?_
  obtain ⟨db4, rfl, H⟩ := hR
  refine rs 1 S H t0 fun a w S H => ?_
  refine r_seq ?_
  refine sr 2 S H t0 fun a w S H => ?_
  refine r_condF S rfl ?_
  refine wp_skip ?_
  refine x_then ?_
  refine sb ?_
  refine rn 1 S H t0 fun a w S H => ?_
  refine r_call (args := #[.agg #[.int .u64 ((m0.seq : Nat) : Int), .int .i64 m0.n, .int .i64 m0.shards, .int .i64 m0.step, .int .i64 m0.kind, .int .u32 ((m0.start : Nat) : Int)], .int .u64 4]) S rfl rfl Tryz.call11 (right_ct (H := H) _ _ m0 4) rfl rfl rfl fun v a w hR S => ?_
  obtain ⟨rfl, H⟩ := hR
  refine r_alloc S H rfl Tryz.zeroValue27 rfl rfl rfl rfl fun a w b5 S H => ?_
  replace H : Sat _ (blk b5 (.cells #[.int .u64 0, .int .i64 0, .int .i64 0, .int .i64 0, .int .i64 0, .int .u32 0] 27) :: diskR db4 (Dk.fresh 1000) :: blk b2 (.cells #[.int .u64 ((m1.seq : Nat) : Int), .int .i64 m1.n, .int .i64 m1.shards, .int .i64 m1.step, .int .i64 m1.kind, .int .u32 ((m1.start : Nat) : Int)] 27) :: blk b1 (.cells #[.int .u64 ((m0.seq : Nat) : Int), .int .i64 m0.n, .int .i64 m0.shards, .int .i64 m0.step, .int .i64 m0.kind, .int .u32 ((m0.start : Nat) : Int)] 27) :: fr) := H
  refine rs 1 S H t0 fun a w S H => ?_
  refine sb ?_
  refine rn 1 S H t0 fun a w S H => ?_
  refine r_call (args := #[.agg #[.int .u64 ((m1.seq : Nat) : Int), .int .i64 m1.n, .int .i64 m1.shards, .int .i64 m1.step, .int .i64 m1.kind, .int .u32 ((m1.start : Nat) : Int)], .int .u64 5]) S rfl rfl Tryz.call11 (right_ct (H := H) _ _ m1 5) rfl rfl rfl fun v a w hR S => ?_
  obtain ⟨rfl, H⟩ := hR
  refine r_alloc S H rfl Tryz.zeroValue27 rfl rfl rfl rfl fun a w b6 S H => ?_
  replace H : Sat _ (blk b6 (.cells #[.int .u64 0, .int .i64 0, .int .i64 0, .int .i64 0, .int .i64 0, .int .u32 0] 27) :: blk b5 (.cells #[.int .u64 (((Cl.right m0 4).seq : Nat) : Int), .int .i64 ((Cl.right m0 4).n), .int .i64 ((Cl.right m0 4).shards), .int .i64 ((Cl.right m0 4).step), .int .i64 ((Cl.right m0 4).kind), .int .u32 (((Cl.right m0 4).start : Nat) : Int)] 27) :: diskR db4 (Dk.fresh 1000) :: blk b2 (.cells #[.int .u64 ((m1.seq : Nat) : Int), .int .i64 m1.n, .int .i64 m1.shards, .int .i64 m1.step, .int .i64 m1.kind, .int .u32 ((m1.start : Nat) : Int)] 27) :: blk b1 (.cells #[.int .u64 ((m0.seq : Nat) : Int), .int .i64 m0.n, .int .i64 m0.shards, .int .i64 m0.step, .int .i64 m0.kind, .int .u32 ((m0.start : Nat) : Int)] 27) :: fr) := H
  refine rs 1 S H t0 fun a w S H => ?_
  refine r_seq ?_
  refine sb ?_
  refine rn 2 S H t0 fun a w S H => ?_
  refine r_call (args := #[.pointer (some ⟨db4, 0, none⟩), .agg #[.int .u64 (((Cl.right m0 4).seq : Nat) : Int), .int .i64 ((Cl.right m0 4).n), .int .i64 ((Cl.right m0 4).shards), .int .i64 ((Cl.right m0 4).step), .int .i64 ((Cl.right m0 4).kind), .int .u32 (((Cl.right m0 4).start : Nat) : Int)]]) S rfl rfl Tryz.call12 (save_ct (H := (pk [2, 0, 1, 3, 4] 5 H)) _ _ db4 (Dk.fresh 1000) (Cl.right m0 4) (by rw [Cl.right_seq]; omega) (Cl.right_start _ _) (by omega)) rfl rfl rfl fun v a w hR S => ?_
  obtain ⟨rfl, H⟩ := hR
  rw [e1] at S H
  dsimp only at S H
  refine rs 1 S H t0 fun a w S H => ?_
  have S := S.retell (v' := .bool false) 43 rfl rfl
  refine r_condF S rfl ?_
  refine wp_skip ?_
  refine x_then ?_
  refine sb ?_
  refine rn 3 S H t0 fun a w S H => ?_
  refine r_call (args := #[.pointer (some ⟨db4, 0, none⟩), .int .i64 at_, .slice (shift A 0 (decide (c = 0))) kk.length c]) S rfl rfl Tryz.call24 (arm_ct (H := H) _ _ db4 d1 at_ (by omega) _ _ kk (okkk.via fun _ H => H.drop.drop.drop.drop) (by first | omega | simp)) rfl rfl rfl fun v a w hR S => ?_
  obtain ⟨rfl, H⟩ := hR
  refine sn ?_
  refine sb ?_
  refine rn 2 S H t0 fun a w S H => ?_
  refine r_call (args := #[.pointer (some ⟨db4, 0, none⟩), .agg #[.int .u64 (((Cl.right m1 5).seq : Nat) : Int), .int .i64 ((Cl.right m1 5).n), .int .i64 ((Cl.right m1 5).shards), .int .i64 ((Cl.right m1 5).step), .int .i64 ((Cl.right m1 5).kind), .int .u32 (((Cl.right m1 5).start : Nat) : Int)]]) S rfl rfl Tryz.call12 (save_ct (H := H) _ _ db4 (Dk.Disk.arm at_ kk d1) (Cl.right m1 5) (by rw [Cl.right_seq]; omega) (Cl.right_start _ _) (by omega)) rfl rfl rfl fun v a w hR S => ?_
  obtain ⟨rfl, H⟩ := hR
  rw [e2] at S H
  dsimp only at S H
  refine rs 1 S H t0 fun a w S H => ?_
  refine sb ?_
  refine rn 1 S H t0 fun a w S H => ?_
  refine r_call (args := #[.pointer (some ⟨db4, 0, none⟩), .int .i64 0, .slice none 0 0]) S rfl rfl Tryz.call24 (arm_ct (H := H) _ _ db4 d2 0 (by omega) _ _ ([]) (okNil _) (by first | omega | simp)) rfl rfl rfl fun v a w hR S => ?_
  obtain ⟨rfl, H⟩ := hR
  refine sn ?_
  refine sb ?_
  refine rn 2 S H t0 fun a w S H => ?_
  refine r_call (args := #[.pointer (some ⟨db4, 0, none⟩), .slice (shift A 0 (decide (c = 0))) kk.length c]) S rfl rfl Tryz.call22 (crashed_ct (H := H) _ _ db4 (Dk.Disk.arm 0 ([]) d2) (by omega) _ _ kk (okkk.via fun _ H => H.drop.drop.drop.drop)) rfl rfl rfl fun v a w hR S => ?_
  obtain ⟨rfl, H⟩ := hR
  refine sn ?_
  refine sr 2 S H (by omega) fun a w S H => ?_
  refine sb ?_
  refine rn 1 S H t0 fun a w S H => ?_
  refine r_call (args := #[.pointer (some ⟨db4, 0, none⟩)]) S rfl rfl Tryz.call17 (load_ct (H := H) _ _ db4 (Dk.Disk.restart (Dk.Disk.crash kk (Dk.Disk.arm 0 ([]) d2))) (by omega)) rfl rfl rfl fun v a w hR S => ?_
  obtain ⟨rfl, H⟩ := hR
  rw [e4] at S H
  dsimp only at S H
  refine rn 4 S H t0 fun a w S H => ?_
  refine r_alloc S H rfl Tryz.zeroValue27 rfl rfl rfl rfl fun a w b7 S H => ?_
  replace H : Sat _ (blk b7 (.cells #[.int .u64 0, .int .i64 0, .int .i64 0, .int .i64 0, .int .i64 0, .int .u32 0] 27) :: diskR db4 d4 :: blk b6 (.cells #[.int .u64 (((Cl.right m1 5).seq : Nat) : Int), .int .i64 ((Cl.right m1 5).n), .int .i64 ((Cl.right m1 5).shards), .int .i64 ((Cl.right m1 5).step), .int .i64 ((Cl.right m1 5).kind), .int .u32 (((Cl.right m1 5).start : Nat) : Int)] 27) :: blk b5 (.cells #[.int .u64 (((Cl.right m0 4).seq : Nat) : Int), .int .i64 ((Cl.right m0 4).n), .int .i64 ((Cl.right m0 4).shards), .int .i64 ((Cl.right m0 4).step), .int .i64 ((Cl.right m0 4).kind), .int .u32 (((Cl.right m0 4).start : Nat) : Int)] 27) :: blk b2 (.cells #[.int .u64 ((m1.seq : Nat) : Int), .int .i64 m1.n, .int .i64 m1.shards, .int .i64 m1.step, .int .i64 m1.kind, .int .u32 ((m1.start : Nat) : Int)] 27) :: blk b1 (.cells #[.int .u64 ((m0.seq : Nat) : Int), .int .i64 m0.n, .int .i64 m0.shards, .int .i64 m0.step, .int .i64 m0.kind, .int .u32 ((m0.start : Nat) : Int)] 27) :: fr) := H
  refine rs 3 S H t0 fun a w S H => ?_
  refine sb ?_
  refine rn 1 S H t0 fun a w S H => ?_
  refine r_call (args := #[.pointer (some ⟨db4, 0, none⟩)]) S rfl rfl Tryz.call14 (sweep_ct (H := (pk [1, 0, 2, 3, 4, 5] 6 H)) _ _ (hl.via fun _ H => H.drop.drop.drop.drop.drop) db4 d4 (by omega)) rfl rfl rfl fun v a w hR S => ?_
  obtain ⟨rfl, H⟩ := hR
  rw [e5] at S H
  dsimp only at S H
  refine rs 1 S H t0 fun a w S H => ?_
  refine sb ?_
  refine rn 1 S H t0 fun a w S H => ?_
  refine r_call (args := #[.pointer (some ⟨db4, 0, none⟩)]) S rfl rfl Tryz.call17 (load_ct (H := H) _ _ db4 d5 (by omega)) rfl rfl rfl fun v a w hR S => ?_
  obtain ⟨rfl, H⟩ := hR
  rw [e6] at S H
  dsimp only at S H
  refine rn 4 S H t0 fun a w S H => ?_
  refine r_alloc S H rfl Tryz.zeroValue27 rfl rfl rfl rfl fun a w b8 S H => ?_
  replace H : Sat _ (blk b8 (.cells #[.int .u64 0, .int .i64 0, .int .i64 0, .int .i64 0, .int .i64 0, .int .u32 0] 27) :: diskR db4 d6 :: blk b7 (.cells #[.int .u64 ((zZ.seq : Nat) : Int), .int .i64 (zZ.n), .int .i64 (zZ.shards), .int .i64 (zZ.step), .int .i64 (zZ.kind), .int .u32 ((zZ.start : Nat) : Int)] 27) :: blk b6 (.cells #[.int .u64 (((Cl.right m1 5).seq : Nat) : Int), .int .i64 ((Cl.right m1 5).n), .int .i64 ((Cl.right m1 5).shards), .int .i64 ((Cl.right m1 5).step), .int .i64 ((Cl.right m1 5).kind), .int .u32 (((Cl.right m1 5).start : Nat) : Int)] 27) :: blk b5 (.cells #[.int .u64 (((Cl.right m0 4).seq : Nat) : Int), .int .i64 ((Cl.right m0 4).n), .int .i64 ((Cl.right m0 4).shards), .int .i64 ((Cl.right m0 4).step), .int .i64 ((Cl.right m0 4).kind), .int .u32 (((Cl.right m0 4).start : Nat) : Int)] 27) :: blk b2 (.cells #[.int .u64 ((m1.seq : Nat) : Int), .int .i64 m1.n, .int .i64 m1.shards, .int .i64 m1.step, .int .i64 m1.kind, .int .u32 ((m1.start : Nat) : Int)] 27) :: blk b1 (.cells #[.int .u64 ((m0.seq : Nat) : Int), .int .i64 m0.n, .int .i64 m0.shards, .int .i64 m0.step, .int .i64 m0.kind, .int .u32 ((m0.start : Nat) : Int)] 27) :: fr) := H
  refine rs 3 S H t0 fun a w S H => ?_
  refine sb ?_
  refine rn 1 S H t0 fun a w S H => ?_
  refine r_call (args := #[.pointer (some ⟨db4, 0, none⟩)]) S rfl rfl Tryz.call15 (list_ct (H := (pk [1, 0, 2, 3, 4, 5, 6] 7 H)) _ _ db4 d6 (by omega)) rfl rfl rfl fun v a w hR S => ?_
  obtain ⟨A13, c14, rfl, H⟩ := hR
  rw [e7] at S H
  dsimp only at S H
  refine rs 5 S H t0 fun a w S H => ?_
  refine r_seq ?_
  refine sb ?_
  refine rn 2 S H t0 fun a w S H => ?_
  have S := S.retell (v' := .bool false) 78 rfl rfl
  refine rn 3 S H t0 fun a w S H => ?_
  have S := S.retell (v' := .bool false) 81 rfl rfl
  refine rn 4 S H t0 fun a w S H => ?_
  have S := S.retell (v' := .bool false) 85 rfl rfl
  refine rn 4 S H t0 fun a w S H => ?_
  have S := S.retell (v' := .bool false) 89 rfl rfl
  refine rn 3 S H t0 fun a w S H => ?_
  refine r_y S H (y_not S rfl rfl) rfl rfl rfl fun a S => ?_
  have S := S.retell (v' := .bool false) 93 rfl rfl
  refine rn 3 S H t0 fun a w S H => ?_
  refine r_y S H (y_not S rfl rfl) rfl rfl rfl fun a S => ?_
  have S := S.retell (v' := .bool false) 97 rfl rfl
  refine rn 4 S H t0 fun a w S H => ?_
  refine r_y S H (yl_bin S rfl rfl rfl (fun w => run_eqGuard_agg w _ _ _ _ _ _ (by kernel_rfl)) fun w _ => neq27 _ _ _ _ _ _ w) rfl rfl rfl fun a S => ?_
  refine rs 6 S H t0 fun a w S H => ?_
  refine r_test S rfl (fun h108 => ?_) (fun h108 => ?_)
  · skip
    exfalso; first | omega | (simp at h108; omega)
  · skip
    refine wp_skip ?_
    refine x_then ?_
    refine r_seq ?_
    rcases hez with ⟨hE, hZ⟩ | ⟨hE, hZ⟩
    · skip
      subst hE; subst hZ
      refine sr 2 S H t0 fun a w S H => ?_
      have S := S.retell (v' := .bool true) 110 rfl rfl
      refine r_condT S rfl ?_
      refine sb ?_
      refine rn 4 S H t0 fun a w S H => ?_
      refine r_y S H (yl_bin S rfl rfl rfl (fun w => run_eqGuard_agg w _ _ _ _ _ _ (by kernel_rfl)) fun w _ => eq27 _ _ _ _ _ _ w) rfl rfl rfl fun a S => ?_
      refine rs 2 S H t0 fun a w S H => ?_
      refine wp_ret ?_
      refine x_thenRet ?_
      refine r_ret1 S H Tryz.results7 (ro_tmp S rfl) ?_
      exact ⟨rfl, H.drop.drop.drop.drop.drop.drop.drop.drop⟩
    · skip
      subst hE; subst hZ
      refine sr 2 S H t0 fun a w S H => ?_
      have S := S.retell (v' := .bool false) 110 rfl rfl
      refine r_condF S rfl ?_
      refine wp_skip ?_
      refine x_then ?_
      refine sb ?_
      refine rn 4 S H t0 fun a w S H => ?_
      have S := S.retell (v' := .bool true) 120 rfl rfl
      refine rn 4 S H t0 fun a w S H => ?_
      refine r_y S H (yl_bin S rfl rfl rfl (fun w => run_eqGuard_agg w _ _ _ _ _ _ (by kernel_rfl)) fun w _ => eq27 _ _ _ _ _ _ w) rfl rfl rfl fun a S => ?_
      refine rs 2 S H t0 fun a w S H => ?_
      refine wp_ret ?_
      refine r_ret1 S H Tryz.results7 (ro_tmp S rfl) ?_
      exact ⟨rfl, H.drop.drop.drop.drop.drop.drop.drop.drop⟩

end Go.Proofs.YtfndfpgmgnacgaaGreatDoor
namespace Go.Proofs.YtfndfpgmgnacgaaGreatDoor
open Go.RowKit Go.Cg
set_option linter.unusedVariables false
set_option linter.unusedSimpArgs false
set_option maxRecDepth 8000
set_option synthInstance.maxHeartbeats 1000000
set_option synthInstance.maxSize 1000000
open Go.Cg.Dk (By Nm)
open Go.Cg.Oc (Mf)
theorem law_saves (w : World) (fr : List Res) (hl : Laid fr) (A0 : Option Addr) (n0 c0 : Nat) (l : List Mf) (ok0 : SlOk fr 6 A0 l.length c0 (mfs l)) (A : Option Addr) (n c : Nat) (x1 : List Bool) (ok1 : SlOk fr 1 A n c (bools x1)) (H : Sat w (fr)) :
    Rt Tryz.prog 6 #[.slice A0 l.length c0, .slice A n c] w fun v w' => v = .bool true ∧ Sat w' fr := by
  refine en2 Tryz.func6 rfl Tryz.ntmps6 rfl fun a S => ?_
  obtain rfl := ok1.nB
  have hc0 := ok1.le
  have hc1 := ok1.cap
  refine sr 1 S H t0 fun a w S H => ?_
  refine sb ?_
  refine r_call (args := #[]) S rfl rfl Tryz.call9 (shown_ct (H := H) _ _ (hl.via fun _ H => H)) rfl rfl rfl fun v a w hR S => ?_
  obtain ⟨rfl, H⟩ := hR
  refine rs 1 S H t0 fun a w S H => ?_
  refine sb ?_
  refine rn 3 S H t0 fun a w S H => ?_
  refine r_y S H (y_min S rfl rfl rfl) rfl rfl rfl fun a S => ?_
  obtain ⟨Kkk, hKkk⟩ : ∃ K : Nat, ((K : Nat) : Int) = min ((x1.length : Nat) : Int) 60 := ⟨min x1.length 60, by omega⟩
  have S := S.retell (v' := .int .i64 ((Kkk : Nat) : Int)) 19 rfl (by rw [hKkk])
  refine r_y S H (y_sliceH (k := Kkk) S rfl rfl rfl Tryz.underlying51 Tryz.sizeOf4 (by first | omega | (simp <;> omega)) (by first | omega | (simp <;> omega))) rfl rfl rfl fun a S => ?_
  have hcapkk := ok1.le
  obtain ⟨kk, hkk⟩ : ∃ x, x = x1.take Kkk := ⟨_, rfl⟩
  have hlkk : kk.length = Kkk := by rw [hkk]; simp; omega
  have okkk : SlOk fr 1 (shift A 0 (decide (c = 0))) kk.length c (bools kk) := by rw [hlkk, hkk]; exact bools_take x1 Kkk ▸ ok1.init Kkk (by omega)
  have S := S.retell (v' := .slice (shift A 0 (decide (c = 0))) kk.length c) 20 rfl (by rw [hlkk])
  refine rs 1 S H t0 fun a w S H => ?_
  refine sb ?_
  refine r_call (args := #[.int .i64 1000]) S rfl rfl Tryz.call10 (new_ct (H := H) _ _ 1000 (by omega)) rfl rfl rfl fun v a w hR S => ?_
  obtain ⟨db2, rfl, H⟩ := hR
  refine rs 1 S H t0 fun a w S H => ?_
  refine r_seq ?_
  refine sr 2 S H t0 fun a w S H => ?_
  refine r_condF S rfl ?_
  refine wp_skip ?_
  refine x_then ?_
  refine r_seq ?_
  have hkk : kk.length ≤ 60 := by omega
  refine sr 1 S H t0 fun a w S H => ?_
  refine r_block ?_
  refine r_loop (ι := Nat × Dk.Disk) (fun ⟨i, D⟩ a w => Slots a 88 [(0, .slice A0 l.length c0), (1, .slice (shift A 0 (decide (c = 0))) kk.length c), (5, .bool true), (6, .pointer (some ⟨db2, 0, none⟩)), (7, .int .i64 ((i : Nat) : Int)), (15, .bool true), (16, .slice A x1.length c), (17, .slice A x1.length c), (18, .int .i64 ((x1.length : Nat) : Int)), (19, .int .i64 ((Kkk : Nat) : Int)), (20, .slice (shift A 0 (decide (c = 0))) kk.length c), (21, .pointer (some ⟨db2, 0, none⟩)), (22, .pointer (some ⟨db2, 0, none⟩)), (23, .bool false), (88, undef)] ∧ Sat w (diskR db2 D :: fr) ∧ (i ≤ 10 ∧ Cl.Sv i D)) (fun ⟨i, D⟩ => 10 - i) (0, Dk.fresh 1000) ⟨S.sub ⟨rfl, rfl, rfl, rfl, rfl, rfl, rfl, rfl, rfl, rfl, rfl, rfl, rfl, rfl, rfl, trivial⟩, H, ⟨by omega, Cl.sv_0⟩⟩ (fun ⟨i, D⟩ a w hI => ?_)
  obtain ⟨S, H, hI⟩ := hI
  obtain ⟨hi10, hS⟩ := hI
  refine r_seq ?_
  refine sb ?_
  refine rn 5 S H t0 fun a w S H => ?_
  refine scA 1 S H (fun _ => t0) fun a w S H => ?_
  refine sn ?_
  refine r_cond S rfl (fun h31 => ?_) (fun h31 => ?_)
  · skip
    simp only [Bool.and_eq_true, decide_eq_true_eq] at h31
    refine wp_skip ?_
    refine x_then ?_
    refine r_seq ?_
    refine r_block ?_
    refine sb ?_
    refine rn 2 S H t0 fun a w S H => ?_
    obtain ⟨b3, o4, rfl⟩ := (ok0.more _).addr H (by first | omega | (simp <;> omega))
    refine r_y S H (y_index S rfl rfl rfl Tryz.underlying57 Tryz.sizeOf27 (by omega) (by omega)) rfl rfl rfl fun a S => ?_
    refine r_y S H (y_loadAggAt [.int .u64 (((l.getD i Oc.mf0).seq : Nat) : Int), .int .i64 ((l.getD i Oc.mf0).n), .int .i64 ((l.getD i Oc.mf0).shards), .int .i64 ((l.getD i Oc.mf0).step), .int .i64 ((l.getD i Oc.mf0).kind), .int .u32 (((l.getD i Oc.mf0).start : Nat) : Int)] S rfl rfl (fun w => ⟨Tryz.isAgg27 w, Tryz.sizeOf27 w⟩) rfl (fun w H => (ok0.more _).cells w H (mfs_from (i := i) (by first | omega | (simp <;> omega))))) rfl rfl rfl fun a S => ?_
    refine rn 2 S H (by omega) fun a w S H => ?_
    refine r_y S H (y_conv S rfl rfl Tryz.underlying3 Tryz.underlying22 (wu64 (by omega) (by omega))) rfl rfl rfl fun a S => ?_
    have S := S.retell (v' := .int .u64 (((i + 1) : Nat) : Int)) 40 rfl (int_eq (by omega))
    refine r_call (args := #[.agg #[.int .u64 (((l.getD i Oc.mf0).seq : Nat) : Int), .int .i64 ((l.getD i Oc.mf0).n), .int .i64 ((l.getD i Oc.mf0).shards), .int .i64 ((l.getD i Oc.mf0).step), .int .i64 ((l.getD i Oc.mf0).kind), .int .u32 (((l.getD i Oc.mf0).start : Nat) : Int)], .int .u64 (((i + 1) : Nat) : Int)]) S rfl rfl Tryz.call11 (right_ct (H := H) _ _ (l.getD i Oc.mf0) (i + 1)) rfl rfl rfl fun v a w hR S => ?_
    obtain ⟨rfl, H⟩ := hR
    refine r_alloc S H rfl Tryz.zeroValue27 rfl rfl rfl rfl fun a w b5 S H => ?_
    replace H : Sat _ (blk b5 (.cells #[.int .u64 0, .int .i64 0, .int .i64 0, .int .i64 0, .int .i64 0, .int .u32 0] 27) :: diskR db2 D :: fr) := H
    refine rs 1 S H t0 fun a w S H => ?_
    refine r_seq ?_
    obtain ⟨mI, hmI⟩ : ∃ x, x = (Cl.right (l.getD i Oc.mf0) (i + 1)) := ⟨_, rfl⟩
    have hm0 : mI.seq = i + 1 := by rw [hmI]; exact Cl.right_seq _ _
    have hm1 : mI.start < 4294967296 := by rw [hmI]; exact Cl.right_start _ _
    have hm2 : Oc.mright mI = true := by rw [hmI]; exact Cl.right_ok _ (by omega)
    obtain ⟨d1, d2, d4, e1, e2, e4, hS2, k0, k1, k2, k3⟩ := Cl.saves_step hS (by omega) hm2 hm0 hm1 kk
    rw [← hmI] at H S
    refine sb ?_
    refine rn 2 S H t0 fun a w S H => ?_
    refine r_call (args := #[.pointer (some ⟨db2, 0, none⟩), .agg #[.int .u64 ((mI.seq : Nat) : Int), .int .i64 (mI.n), .int .i64 (mI.shards), .int .i64 (mI.step), .int .i64 (mI.kind), .int .u32 ((mI.start : Nat) : Int)]]) S rfl rfl Tryz.call12 (save_ct (H := (pk [1, 0] 2 H)) _ _ db2 D mI (by omega) (hm1) (by omega)) rfl rfl rfl fun v a w hR S => ?_
    obtain ⟨rfl, H⟩ := hR
    rw [e1] at S H
    dsimp only at S H
    refine rs 1 S H t0 fun a w S H => ?_
    have S := S.retell (v' := .bool false) 45 rfl rfl
    refine r_condF S rfl ?_
    refine wp_skip ?_
    refine x_then ?_
    refine sb ?_
    refine rn 1 S H t0 fun a w S H => ?_
    refine r_call (args := #[.pointer (some ⟨db2, 0, none⟩)]) S rfl rfl Tryz.call17 (load_ct (H := H) _ _ db2 d1 (by omega)) rfl rfl rfl fun v a w hR S => ?_
    obtain ⟨rfl, H⟩ := hR
    rw [e2] at S H
    dsimp only at S H
    refine rn 4 S H t0 fun a w S H => ?_
    refine r_alloc S H rfl Tryz.zeroValue27 rfl rfl rfl rfl fun a w b6 S H => ?_
    replace H : Sat _ (blk b6 (.cells #[.int .u64 0, .int .i64 0, .int .i64 0, .int .i64 0, .int .i64 0, .int .u32 0] 27) :: diskR db2 d2 :: blk b5 (.cells #[.int .u64 ((mI.seq : Nat) : Int), .int .i64 (mI.n), .int .i64 (mI.shards), .int .i64 (mI.step), .int .i64 (mI.kind), .int .u32 ((mI.start : Nat) : Int)] 27) :: fr) := H
    refine rs 3 S H t0 fun a w S H => ?_
    refine sb ?_
    refine rn 2 S H t0 fun a w S H => ?_
    refine r_call (args := #[.pointer (some ⟨db2, 0, none⟩), .slice (shift A 0 (decide (c = 0))) kk.length c]) S rfl rfl Tryz.call22 (crashed_ct (H := (pk [1, 0, 2] 3 H)) _ _ db2 d2 (by omega) _ _ kk (okkk.via fun _ H => H.drop.drop)) rfl rfl rfl fun v a w hR S => ?_
    obtain ⟨rfl, H⟩ := hR
    refine sn ?_
    refine sr 2 S H (by omega) fun a w S H => ?_
    refine sb ?_
    refine rn 1 S H t0 fun a w S H => ?_
    refine r_call (args := #[.pointer (some ⟨db2, 0, none⟩)]) S rfl rfl Tryz.call17 (load_ct (H := H) _ _ db2 (Dk.Disk.restart (Dk.Disk.crash kk d2)) (by omega)) rfl rfl rfl fun v a w hR S => ?_
    obtain ⟨rfl, H⟩ := hR
    rw [e4] at S H
    dsimp only at S H
    refine rn 4 S H t0 fun a w S H => ?_
    refine r_alloc S H rfl Tryz.zeroValue27 rfl rfl rfl rfl fun a w b7 S H => ?_
    replace H : Sat _ (blk b7 (.cells #[.int .u64 0, .int .i64 0, .int .i64 0, .int .i64 0, .int .i64 0, .int .u32 0] 27) :: diskR db2 d4 :: blk b6 (.cells #[.int .u64 ((mI.seq : Nat) : Int), .int .i64 (mI.n), .int .i64 (mI.shards), .int .i64 (mI.step), .int .i64 (mI.kind), .int .u32 ((mI.start : Nat) : Int)] 27) :: blk b5 (.cells #[.int .u64 ((mI.seq : Nat) : Int), .int .i64 (mI.n), .int .i64 (mI.shards), .int .i64 (mI.step), .int .i64 (mI.kind), .int .u32 ((mI.start : Nat) : Int)] 27) :: fr) := H
    refine rs 3 S H t0 fun a w S H => ?_
    refine sb ?_
    refine rn 2 S H t0 fun a w S H => ?_
    have S := S.retell (v' := .bool false) 64 rfl rfl
    refine rn 3 S H t0 fun a w S H => ?_
    have S := S.retell (v' := .bool false) 67 rfl rfl
    refine rn 3 S H t0 fun a w S H => ?_
    refine r_y S H (y_not S rfl rfl) rfl rfl rfl fun a S => ?_
    have S := S.retell (v' := .bool false) 71 rfl rfl
    refine rn 3 S H t0 fun a w S H => ?_
    refine r_y S H (y_not S rfl rfl) rfl rfl rfl fun a S => ?_
    have S := S.retell (v' := .bool false) 75 rfl rfl
    refine rn 4 S H t0 fun a w S H => ?_
    refine r_y S H (yl_bin S rfl rfl rfl (fun w => run_eqGuard_agg w _ _ _ _ _ _ (by kernel_rfl)) fun w _ => neq27 _ _ _ _ _ _ w) rfl rfl rfl fun a S => ?_
    refine rn 4 S H t0 fun a w S H => ?_
    refine r_y S H (yl_bin S rfl rfl rfl (fun w => run_eqGuard_agg w _ _ _ _ _ _ (by kernel_rfl)) fun w _ => neq27 _ _ _ _ _ _ w) rfl rfl rfl fun a S => ?_
    refine rs 1 S H t0 fun a w S H => ?_
    refine r_condF S rfl ?_
    refine wp_skip ?_
    refine x_blockEnd ?_
    refine x_then ?_
    refine er 3 S H (by omega) fun a w S H => ?_
    refine x_then ?_
    exact ⟨(i + 1, d4), ⟨S.sub ⟨rfl, rfl, rfl, rfl, rfl, rfl, rfl, rfl, rfl, rfl, rfl, rfl, rfl, rfl, rfl, trivial⟩, pk [1] 4 H, ⟨by omega, hS2⟩⟩, by show 10 - (i + 1) < 10 - i; omega⟩
  · skip
    refine wp_exit ?_
    refine x_thenExit ?_
    refine x_thenExit ?_
    refine x_blockHere ?_
    refine x_then ?_
    refine sr 2 S H t0 fun a w S H => ?_
    refine wp_ret ?_
    refine r_ret1 S H Tryz.results6 (ro_tmp S rfl) ?_
    exact ⟨rfl, H.drop⟩

end Go.Proofs.YtfndfpgmgnacgaaGreatDoor
