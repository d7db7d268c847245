/- Walks of functions of the program, over slots and resources, and what they rest on. No condition. -/
import Derived.Test.YtfndfpgmgnacgaaGreatDoorKCommitSweepsd
import Derived.Test.YtfndfpgmgnacgaaGreatDoorCs
namespace Go.Proofs.YtfndfpgmgnacgaaGreatDoor
open Go.RowKit Go.Cg
set_option linter.unusedVariables false
set_option linter.unusedSimpArgs false
set_option maxRecDepth 8000
set_option synthInstance.maxHeartbeats 1000000
set_option synthInstance.maxSize 1000000
theorem el35 : Elem Tryz.prog 35 9 1 16 (.string ByteArray.empty) := ⟨Tryz.underlying35, by kernel_rfl, rfl, by decide⟩
open Go.Cg.Dk (By Nm)
open Go.Cg.Oc (Mf)
theorem gd_un {ops : List Oper} {E : Env} {j d : Nat} {want : Bool} (hd : (ops[j]?).bind (·.dst) = some d) (hl : lk E d = some undef) (o : Oper) (ho : o.guard = some (j, want)) : Wt ops.toArray E o = some false := by
  unfold Wt; rw [ho]
  simp only [List.getElem?_toArray, hd, hl, undef]
instance gdUn (ops : List Oper) (E : Env) (j d : Nat) (want : Bool) [hd : Dst ops j d] [hl : Lk E d undef] : Gd ops E (some (j, want)) false := ⟨fun o ho => gd_un hd.h hl.h o ho⟩
theorem strs_app (l l' : List Nm) : strs l ++ strs l' = strs (l ++ l') := by simp [strs]
theorem sw_cases (X : Mf) (i : Nat) : (i < 4 ∧ Cl.shd.getD (i % 4) 0 < X.shards) ∨ (i < 4 ∧ ¬ Cl.shd.getD (i % 4) 0 < X.shards) ∨ (¬ i < 4 ∧ 5 ≤ i ∧ i < 9 ∧ Cl.std.getD ((i - 5) % 4) 0 ≤ X.step) ∨ (¬ i < 4 ∧ 5 ≤ i ∧ i < 9 ∧ ¬ Cl.std.getD ((i - 5) % 4) 0 ≤ X.step) ∨ (¬ i < 4 ∧ ¬ 5 ≤ i) ∨ (¬ i < 4 ∧ 5 ≤ i ∧ ¬ i < 9) := by
  by_cases h4 : i < 4
  · by_cases h : Cl.shd.getD (i % 4) 0 < X.shards
    · exact .inl ⟨h4, h⟩
    · exact .inr (.inl ⟨h4, h⟩)
  · by_cases h5 : 5 ≤ i
    · by_cases h9 : i < 9
      · by_cases h : Cl.std.getD ((i - 5) % 4) 0 ≤ X.step
        · exact .inr (.inr (.inl ⟨h4, h5, h9, h⟩))
        · exact .inr (.inr (.inr (.inl ⟨h4, h5, h9, h⟩)))
      · exact .inr (.inr (.inr (.inr (.inr ⟨h4, h5, h9⟩))))
    · exact .inr (.inr (.inr (.inr (.inl ⟨h4, h5⟩))))
set_option maxHeartbeats 2000000 in
theorem law_sweeps (w : World) (fr : List Res) (hl : Laid fr) (m : Mf) (isB : Bool) (A2 : Option Addr) (c2 : Nat) (l : List Int) (ok2 : SlOk fr 1 A2 l.length c2 (ints l)) (H : Sat w (fr)) :
    Rt Tryz.prog 3 #[.agg #[.int .u64 ((m.seq : Nat) : Int), .int .i64 m.n, .int .i64 m.shards, .int .i64 m.step, .int .i64 m.kind, .int .u32 ((m.start : Nat) : Int)], .bool isB, .slice A2 l.length c2] w fun v w' => v = .bool true ∧ Sat w' fr := by
  refine en3 Tryz.func3 rfl Tryz.ntmps3 rfl fun a S => ?_
  have hc0 := ok2.le
  have hc1 := ok2.cap
  simp only [maxLen] at hc1
  refine sb ?_
  refine r_box (c := #[.int .u64 ((m.seq : Nat) : Int), .int .i64 m.n, .int .i64 m.shards, .int .i64 m.step, .int .i64 m.kind, .int .u32 ((m.start : Nat) : Int)]) S H rfl rfl rfl rfl rfl rfl fun a w b1 S H => ?_
  refine rs 1 S H t0 fun a w S H => ?_
  rcases Bool.eq_false_or_eq_true isB with hb | hb
  · skip
    subst hb
    refine sb ?_
    refine r_call (args := #[]) S rfl rfl Tryz.call9 (shown_ct (H := H) _ _ (hl.via fun _ H => H.drop)) rfl rfl rfl fun v a w hR S => ?_
    obtain ⟨rfl, H⟩ := hR
    refine rs 1 S H t0 fun a w S H => ?_
    refine sb ?_
    refine r_call (args := #[.int .i64 1000]) S rfl rfl Tryz.call10 (new_ct (H := H) _ _ 1000 (by omega)) rfl rfl rfl fun v a w hR S => ?_
    obtain ⟨db3, rfl, H⟩ := hR
    refine rs 1 S H t0 fun a w S H => ?_
    refine r_seq ?_
    refine sr 2 S H t0 fun a w S H => ?_
    refine r_condF S rfl ?_
    refine wp_skip ?_
    refine x_then ?_
    refine sb ?_
    refine rn 1 S H t0 fun a w S H => ?_
    refine r_call (args := #[.agg #[.int .u64 ((m.seq : Nat) : Int), .int .i64 m.n, .int .i64 m.shards, .int .i64 m.step, .int .i64 m.kind, .int .u32 ((m.start : Nat) : Int)], .int .u64 7]) S rfl rfl Tryz.call11 (right_ct (H := H) _ _ m 7) rfl rfl rfl fun v a w hR S => ?_
    obtain ⟨rfl, H⟩ := hR
    refine r_alloc S H rfl Tryz.zeroValue27 rfl rfl rfl rfl fun a w b4 S H => ?_
    replace H : Sat _ (blk b4 (.cells #[.int .u64 0, .int .i64 0, .int .i64 0, .int .i64 0, .int .i64 0, .int .u32 0] 27) :: diskR db3 (Dk.fresh 1000) :: blk b1 (.cells #[.int .u64 ((m.seq : Nat) : Int), .int .i64 m.n, .int .i64 m.shards, .int .i64 m.step, .int .i64 m.kind, .int .u32 ((m.start : Nat) : Int)] 27) :: fr) := H
    refine rs 1 S H t0 fun a w S H => ?_
    refine sr 5 S H t0 fun a w S H => ?_
    refine r_seq ?_
    replace H : Sat _ (blk b4 (.cells #[.int .u64 (((Cl.swm m).seq : Nat) : Int), .int .i64 ((Cl.swm m).n), .int .i64 ((Cl.swm m).shards), .int .i64 ((Cl.swm m).step), .int .i64 ((Cl.swm m).kind), .int .u32 (((Cl.swm m).start : Nat) : Int)] 27) :: diskR db3 (Dk.fresh 1000) :: blk b1 (.cells #[.int .u64 ((m.seq : Nat) : Int), .int .i64 m.n, .int .i64 m.shards, .int .i64 m.step, .int .i64 m.kind, .int .u32 ((m.start : Nat) : Int)] 27) :: fr) := H
    obtain ⟨X, hX⟩ : ∃ q, q = Cl.swm m := ⟨_, rfl⟩
    have hF : Cl.Few X := by rw [hX]; exact Cl.swm_few m
    rw [← hX] at H
    obtain ⟨d0, e0, f0, hS0⟩ := Cl.sw_0 hF true (Cl.th l)
    have k0 : (Dk.fresh 1000).files.length ≤ 30 := by decide
    have hsq := hF.seq
    have hss := hF.start
    refine sb ?_
    refine rn 4 S H t0 fun a w S H => ?_
    refine r_call (args := #[.pointer (some ⟨db3, 0, none⟩), .agg #[.int .u64 ((X.seq : Nat) : Int), .int .i64 (X.n), .int .i64 (X.shards), .int .i64 (X.step), .int .i64 (X.kind), .int .u32 ((X.start : Nat) : Int)]]) S rfl rfl Tryz.call12 (save_ct (H := (pk [1, 0, 2] 3 H)) _ _ db3 (Dk.fresh 1000) X (by omega) (hss) (by omega)) rfl rfl rfl fun v a w hR S => ?_
    obtain ⟨rfl, H⟩ := hR
    have e0' := e0 rfl
    rw [e0'] at S H
    dsimp only at S H
    refine rn 1 S H t0 fun a w S H => ?_
    have S := S.retell (v' := .bool false) 39 rfl rfl
    refine rs 1 S H t0 fun a w S H => ?_
    refine r_condF S rfl ?_
    refine wp_skip ?_
    refine x_then ?_
    refine sb ?_
    refine r_lit (vs := #[(0, str ([115, 104, 97, 114, 100, 46, 48])), (1, str ([115, 104, 97, 114, 100, 46, 53])), (2, str ([115, 104, 97, 114, 100, 46, 56])), (3, str ([115, 104, 97, 114, 100, 46, 57])), (4, str ([115, 104, 97, 114, 100, 46, 48, 53])), (5, str ([115, 116, 97, 116, 101, 46, 48])), (6, str ([115, 116, 97, 116, 101, 46, 51])), (7, str ([115, 116, 97, 116, 101, 46, 57])), (8, str ([115, 116, 97, 116, 101, 46, 49, 48])), (9, str ([115, 116, 97, 116, 101, 46, 48, 51])), (10, str ([115, 116, 97, 116, 101, 46, 45, 49])), (11, str ([115, 116, 97, 116, 101, 46, 110, 101, 119])), (12, str ([115, 108, 111, 116, 46, 110, 101, 119])), (13, str ([115, 108, 111, 116, 46, 50])), (14, str ([98, 111, 120, 46, 49])), (15, str ([114, 117, 110, 46, 51])), (16, str ([112, 97, 114, 116, 46, 48])), (17, str ([120])), (18, str ([115, 116, 97, 116, 101, 46])), (19, str ([115, 104, 97, 114, 100, 46]))]) (cs := strs [[115, 104, 97, 114, 100, 46, 48], [115, 104, 97, 114, 100, 46, 53], [115, 104, 97, 114, 100, 46, 56], [115, 104, 97, 114, 100, 46, 57], [115, 104, 97, 114, 100, 46, 48, 53], [115, 116, 97, 116, 101, 46, 48], [115, 116, 97, 116, 101, 46, 51], [115, 116, 97, 116, 101, 46, 57], [115, 116, 97, 116, 101, 46, 49, 48], [115, 116, 97, 116, 101, 46, 48, 51], [115, 116, 97, 116, 101, 46, 45, 49], [115, 116, 97, 116, 101, 46, 110, 101, 119], [115, 108, 111, 116, 46, 110, 101, 119], [115, 108, 111, 116, 46, 50], [98, 111, 120, 46, 49], [114, 117, 110, 46, 51], [112, 97, 114, 116, 46, 48], [120], [115, 116, 97, 116, 101, 46], [115, 104, 97, 114, 100, 46]]) S H rfl rfl el35 (by kernel_rfl) (by decide) (by rfl) rfl rfl rfl fun a w b5 S H => ?_
    replace H : Sat _ (row 9 1 (.slice (some ⟨b5, 0, none⟩) 20 20) 20 (strs Cl.swN) :: diskR db3 d0 :: blk b4 (.cells #[.int .u64 ((X.seq : Nat) : Int), .int .i64 (X.n), .int .i64 (X.shards), .int .i64 (X.step), .int .i64 (X.kind), .int .u32 ((X.start : Nat) : Int)] 27) :: blk b1 (.cells #[.int .u64 ((m.seq : Nat) : Int), .int .i64 m.n, .int .i64 m.shards, .int .i64 m.step, .int .i64 m.kind, .int .u32 ((m.start : Nat) : Int)] 27) :: fr) := H
    have hl41 : Cl.swN.length = 20 := rfl
    refine rs 1 S H t0 fun a w S H => ?_
    refine sb ?_
    refine r_lit (vs := #[(0, .int .i64 0), (1, .int .i64 5), (2, .int .i64 8), (3, .int .i64 9)]) (cs := ints [0, 5, 8, 9]) S H rfl rfl el28 (by kernel_rfl) (by decide) (by rfl) rfl rfl rfl fun a w b6 S H => ?_
    replace H : Sat _ (row 3 1 (.slice (some ⟨b6, 0, none⟩) 4 4) 4 (ints Cl.shd) :: row 9 1 (.slice (some ⟨b5, 0, none⟩) 20 20) 20 (strs Cl.swN) :: diskR db3 d0 :: blk b4 (.cells #[.int .u64 ((X.seq : Nat) : Int), .int .i64 (X.n), .int .i64 (X.shards), .int .i64 (X.step), .int .i64 (X.kind), .int .u32 ((X.start : Nat) : Int)] 27) :: blk b1 (.cells #[.int .u64 ((m.seq : Nat) : Int), .int .i64 m.n, .int .i64 m.shards, .int .i64 m.step, .int .i64 m.kind, .int .u32 ((m.start : Nat) : Int)] 27) :: fr) := H
    have hl42 : Cl.shd.length = 4 := rfl
    refine rs 1 S H t0 fun a w S H => ?_
    refine sb ?_
    refine r_lit (vs := #[(0, .int .i64 0), (1, .int .i64 3), (2, .int .i64 9), (3, .int .i64 10)]) (cs := ints [0, 3, 9, 10]) S H rfl rfl el28 (by kernel_rfl) (by decide) (by rfl) rfl rfl rfl fun a w b7 S H => ?_
    replace H : Sat _ (row 3 1 (.slice (some ⟨b7, 0, none⟩) 4 4) 4 (ints Cl.std) :: row 3 1 (.slice (some ⟨b6, 0, none⟩) 4 4) 4 (ints Cl.shd) :: row 9 1 (.slice (some ⟨b5, 0, none⟩) 20 20) 20 (strs Cl.swN) :: diskR db3 d0 :: blk b4 (.cells #[.int .u64 ((X.seq : Nat) : Int), .int .i64 (X.n), .int .i64 (X.shards), .int .i64 (X.step), .int .i64 (X.kind), .int .u32 ((X.start : Nat) : Int)] 27) :: blk b1 (.cells #[.int .u64 ((m.seq : Nat) : Int), .int .i64 m.n, .int .i64 m.shards, .int .i64 m.step, .int .i64 m.kind, .int .u32 ((m.start : Nat) : Int)] 27) :: fr) := H
    have hl43 : Cl.std.length = 4 := rfl
    refine rs 1 S H t0 fun a w S H => ?_
    refine sb ?_
    refine r_lit (vs := #[]) (cs := strs []) S H rfl rfl el35 (by kernel_rfl) (by decide) (by rfl) rfl rfl rfl fun a w b8 S H => ?_
    refine rs 1 S H t0 fun a w S H => ?_
    refine r_seq ?_
    refine sr 1 S H t0 fun a w S H => ?_
    refine r_condT S rfl ?_
    refine r_region ?_
    refine rn 1 S H t0 fun a w S H => ?_
    refine r_lit (vs := #[(0, str ([115, 108, 111, 116, 46, 49]))]) (cs := strs [[115, 108, 111, 116, 46, 49]]) S H rfl rfl el35 (by kernel_rfl) (by decide) (by rfl) rfl rfl rfl fun a w b9 S H => ?_
    refine r_appendS (L' := fun A10 c11 => row 9 1 (.slice (some ⟨b9, 0, none⟩) 1 1) 1 (strs [[115, 108, 111, 116, 46, 49]]) :: row 9 1 (.slice A10 1 c11) 1 (strs ([[115, 108, 111, 116, 46, 49]])) :: row 3 1 (.slice (some ⟨b7, 0, none⟩) 4 4) 4 (ints Cl.std) :: row 3 1 (.slice (some ⟨b6, 0, none⟩) 4 4) 4 (ints Cl.shd) :: row 9 1 (.slice (some ⟨b5, 0, none⟩) 20 20) 20 (strs Cl.swN) :: diskR db3 d0 :: blk b4 (.cells #[.int .u64 ((X.seq : Nat) : Int), .int .i64 (X.n), .int .i64 (X.shards), .int .i64 (X.step), .int .i64 (X.kind), .int .u32 ((X.start : Nat) : Int)] 27) :: blk b1 (.cells #[.int .u64 ((m.seq : Nat) : Int), .int .i64 m.n, .int .i64 m.shards, .int .i64 m.step, .int .i64 m.kind, .int .u32 ((m.start : Nat) : Int)] 27) :: fr) (xs' := strs ([[115, 108, 111, 116, 46, 49]])) 1 S H rfl rfl rfl rfl el35 (SlOk.ofRow (i := 0) H rfl) (one_strs _) (by simp only [maxLen]; first | omega | (simp <;> omega)) (by first | omega | (simp <;> omega)) (List.nil_append _) (by first | omega | (simp <;> omega)) (fun _ _ => rfl) rfl rfl rfl fun a w A10 c11 hA10 S H => ?_
    refine rn 1 S H t0 fun a w S H => ?_
    refine r_nil ?_
    refine x_then ?_
    refine r_seq ?_
    have ew : ([[115, 108, 111, 116, 46, 49]] : List Nm) = Cl.want X true (Cl.th l) 0 := by rw [show Cl.want X true (Cl.th l) 0 = [Cm.slotN 1] from rfl, Cl.slot_1]
    have en : 1 = (Cl.want X true (Cl.th l) 0).length := by rw [← ew]; rfl
    replace H : Sat w (row 9 1 (.slice (some ⟨b9, 0, none⟩) 1 1) 1 (strs [[115, 108, 111, 116, 46, 49]]) :: row 9 1 (.slice A10 ((Cl.want X true (Cl.th l) 0).length) c11) ((Cl.want X true (Cl.th l) 0).length) (strs (Cl.want X true (Cl.th l) 0)) :: row 3 1 (.slice (some ⟨b7, 0, none⟩) 4 4) 4 (ints Cl.std) :: row 3 1 (.slice (some ⟨b6, 0, none⟩) 4 4) 4 (ints Cl.shd) :: row 9 1 (.slice (some ⟨b5, 0, none⟩) 20 20) 20 (strs Cl.swN) :: diskR db3 d0 :: blk b4 (.cells #[.int .u64 ((X.seq : Nat) : Int), .int .i64 (X.n), .int .i64 (X.shards), .int .i64 (X.step), .int .i64 (X.kind), .int .u32 ((X.start : Nat) : Int)] 27) :: blk b1 (.cells #[.int .u64 ((m.seq : Nat) : Int), .int .i64 m.n, .int .i64 m.shards, .int .i64 m.step, .int .i64 m.kind, .int .u32 ((m.start : Nat) : Int)] 27) :: fr) := by rw [← ew]; exact H
    have S := S.retell (v' := .slice A10 ((Cl.want X true (Cl.th l) 0).length) c11) 13 rfl (by rw [← ew]; rfl)
    refine sr 1 S H t0 fun a w S H => ?_
    refine r_block ?_
    refine r_loop (ι := Nat × Dk.Disk × Option Addr × Nat) (fun ⟨i, D, Aw, cw⟩ a w => Slots a 179 [(0, .agg #[.int .u64 ((m.seq : Nat) : Int), .int .i64 m.n, .int .i64 m.shards, .int .i64 m.step, .int .i64 m.kind, .int .u32 ((m.start : Nat) : Int)]), (1, .bool true), (2, .slice A2 l.length c2), (3, .pointer (some ⟨b1, 0, none⟩)), (7, .bool true), (8, .pointer (some ⟨db3, 0, none⟩)), (9, .pointer (some ⟨b4, 0, none⟩)), (10, .slice (some ⟨b5, 0, none⟩) 20 20), (11, .slice (some ⟨b6, 0, none⟩) 4 4), (12, .slice (some ⟨b7, 0, none⟩) 4 4), (13, .slice Aw ((Cl.want X true (Cl.th l) i).length) cw), (14, .int .i64 ((i : Nat) : Int)), (24, .bool true), (25, .pointer (some ⟨db3, 0, none⟩)), (26, .pointer (some ⟨db3, 0, none⟩)), (27, .bool false), (28, .agg #[.int .u64 ((m.seq : Nat) : Int), .int .i64 m.n, .int .i64 m.shards, .int .i64 m.step, .int .i64 m.kind, .int .u32 ((m.start : Nat) : Int)]), (29, .agg #[.int .u64 (((Cl.right m 7).seq : Nat) : Int), .int .i64 ((Cl.right m 7).n), .int .i64 ((Cl.right m 7).shards), .int .i64 ((Cl.right m 7).step), .int .i64 ((Cl.right m 7).kind), .int .u32 (((Cl.right m 7).start : Nat) : Int)]), (30, .pointer (some ⟨b4, 3, none⟩)), (31, .int .i64 ((Cl.right m 7).step)), (32, .int .i64 (min ((Cl.right m 7).step) 9)), (33, .pointer (some ⟨b4, 3, none⟩)), (34, .bool true), (35, .bool true), (36, .pointer (some ⟨db3, 0, none⟩)), (37, .agg #[.int .u64 ((X.seq : Nat) : Int), .int .i64 (X.n), .int .i64 (X.shards), .int .i64 (X.step), .int .i64 (X.kind), .int .u32 ((X.start : Nat) : Int)]), (38, .int .i64 0), (39, .bool false), (40, .bool false), (41, .slice (some ⟨b5, 0, none⟩) 20 20), (42, .slice (some ⟨b6, 0, none⟩) 4 4), (43, .slice (some ⟨b7, 0, none⟩) 4 4), (44, .slice (some ⟨b8, 0, none⟩) 0 0), (45, .bool true), (46, .slice (some ⟨b8, 0, none⟩) 0 0), (47, .slice (some ⟨b9, 0, none⟩) 1 1), (48, .slice A10 1 c11), (179, undef)] ∧ Sat w (diskR db3 D :: row 9 1 (.slice Aw ((Cl.want X true (Cl.th l) i).length) cw) ((Cl.want X true (Cl.th l) i).length) (strs (Cl.want X true (Cl.th l) i)) :: row 9 1 (.slice (some ⟨b5, 0, none⟩) 20 20) 20 (strs Cl.swN) :: row 3 1 (.slice (some ⟨b6, 0, none⟩) 4 4) 4 (ints Cl.shd) :: row 3 1 (.slice (some ⟨b7, 0, none⟩) 4 4) 4 (ints Cl.std) :: blk b4 (.cells #[.int .u64 ((X.seq : Nat) : Int), .int .i64 (X.n), .int .i64 (X.shards), .int .i64 (X.step), .int .i64 (X.kind), .int .u32 ((X.start : Nat) : Int)] 27) :: fr) ∧ (i ≤ 20 ∧ Cl.Sw X true (Cl.th l) i D)) (fun ⟨i, D, Aw, cw⟩ => 20 - i) (0, d0, A10, c11) ⟨S.sub ⟨rfl, rfl, rfl, rfl, rfl, rfl, rfl, rfl, rfl, rfl, rfl, rfl, rfl, rfl, rfl, rfl, rfl, rfl, rfl, rfl, rfl, rfl, rfl, rfl, rfl, rfl, rfl, rfl, rfl, rfl, rfl, rfl, rfl, rfl, rfl, rfl, rfl, rfl, trivial⟩, pk [5, 1, 4, 3, 2, 6] 8 H, ⟨by omega, hS0⟩⟩ (fun ⟨i, D, Aw, cw⟩ a w hI => ?_)
    obtain ⟨S, H, hI⟩ := hI
    obtain ⟨hi20, hS⟩ := hI
    have hkD := hS.cnt
    have hwl := Cl.want_len X true (Cl.th l) i
    refine r_seq ?_
    refine sr 4 S H t0 fun a w S H => ?_
    refine r_test S rfl (fun h52 => ?_) (fun h52 => ?_)
    · skip
      refine wp_skip ?_
      refine x_then ?_
      refine r_seq ?_
      refine r_block ?_
      refine sr 1 S H t0 fun a w S H => ?_
      refine r_seq ?_
      refine sr 1 S H t0 fun a w S H => ?_
      refine r_block ?_
      refine r_loop (ι := Nat × Bool) (fun ⟨k, tb⟩ a w => Slots a 179 [(0, .agg #[.int .u64 ((m.seq : Nat) : Int), .int .i64 m.n, .int .i64 m.shards, .int .i64 m.step, .int .i64 m.kind, .int .u32 ((m.start : Nat) : Int)]), (1, .bool true), (2, .slice A2 l.length c2), (3, .pointer (some ⟨b1, 0, none⟩)), (7, .bool true), (8, .pointer (some ⟨db3, 0, none⟩)), (9, .pointer (some ⟨b4, 0, none⟩)), (10, .slice (some ⟨b5, 0, none⟩) 20 20), (11, .slice (some ⟨b6, 0, none⟩) 4 4), (12, .slice (some ⟨b7, 0, none⟩) 4 4), (13, .slice Aw ((Cl.want X true (Cl.th l) i).length) cw), (14, .int .i64 ((i : Nat) : Int)), (15, .bool tb), (16, .int .i64 ((k : Nat) : Int)), (24, .bool true), (25, .pointer (some ⟨db3, 0, none⟩)), (26, .pointer (some ⟨db3, 0, none⟩)), (27, .bool false), (28, .agg #[.int .u64 ((m.seq : Nat) : Int), .int .i64 m.n, .int .i64 m.shards, .int .i64 m.step, .int .i64 m.kind, .int .u32 ((m.start : Nat) : Int)]), (29, .agg #[.int .u64 (((Cl.right m 7).seq : Nat) : Int), .int .i64 ((Cl.right m 7).n), .int .i64 ((Cl.right m 7).shards), .int .i64 ((Cl.right m 7).step), .int .i64 ((Cl.right m 7).kind), .int .u32 (((Cl.right m 7).start : Nat) : Int)]), (30, .pointer (some ⟨b4, 3, none⟩)), (31, .int .i64 ((Cl.right m 7).step)), (32, .int .i64 (min ((Cl.right m 7).step) 9)), (33, .pointer (some ⟨b4, 3, none⟩)), (34, .bool true), (35, .bool true), (36, .pointer (some ⟨db3, 0, none⟩)), (37, .agg #[.int .u64 ((X.seq : Nat) : Int), .int .i64 (X.n), .int .i64 (X.shards), .int .i64 (X.step), .int .i64 (X.kind), .int .u32 ((X.start : Nat) : Int)]), (38, .int .i64 0), (39, .bool false), (40, .bool false), (41, .slice (some ⟨b5, 0, none⟩) 20 20), (42, .slice (some ⟨b6, 0, none⟩) 4 4), (43, .slice (some ⟨b7, 0, none⟩) 4 4), (44, .slice (some ⟨b8, 0, none⟩) 0 0), (45, .bool true), (46, .slice (some ⟨b8, 0, none⟩) 0 0), (47, .slice (some ⟨b9, 0, none⟩) 1 1), (48, .slice A10 1 c11), (49, .int .i64 ((i : Nat) : Int)), (50, .slice (some ⟨b5, 0, none⟩) 20 20), (51, .int .i64 20), (52, .bool (decide (((i : Nat) : Int) < 20))), (179, undef)] ∧ Sat w (diskR db3 D :: row 9 1 (.slice Aw ((Cl.want X true (Cl.th l) i).length) cw) ((Cl.want X true (Cl.th l) i).length) (strs (Cl.want X true (Cl.th l) i)) :: row 9 1 (.slice (some ⟨b5, 0, none⟩) 20 20) 20 (strs Cl.swN) :: row 3 1 (.slice (some ⟨b6, 0, none⟩) 4 4) 4 (ints Cl.shd) :: row 3 1 (.slice (some ⟨b7, 0, none⟩) 4 4) 4 (ints Cl.std) :: blk b4 (.cells #[.int .u64 ((X.seq : Nat) : Int), .int .i64 (X.n), .int .i64 (X.shards), .int .i64 (X.step), .int .i64 (X.kind), .int .u32 ((X.start : Nat) : Int)] 27) :: fr) ∧ (k ≤ l.length ∧ k ≤ 40 ∧ tb = Cl.thn l i k)) (fun ⟨k, tb⟩ => l.length - k) (0, false) ⟨S.sub ⟨rfl, rfl, rfl, rfl, rfl, rfl, rfl, rfl, rfl, rfl, rfl, rfl, rfl, rfl, rfl, rfl, rfl, rfl, rfl, rfl, rfl, rfl, rfl, rfl, rfl, rfl, rfl, rfl, rfl, rfl, rfl, rfl, rfl, rfl, rfl, rfl, rfl, rfl, rfl, rfl, rfl, rfl, rfl, rfl, trivial⟩, H, ⟨by omega, by omega, rfl⟩⟩ (fun ⟨k, tb⟩ a w hI => ?_)
      obtain ⟨S, H, hI⟩ := hI
      obtain ⟨hkl, hk40, htb⟩ := hI
      refine r_seq ?_
      refine sb ?_
      refine rn 5 S H t0 fun a w S H => ?_
      refine scA 1 S H (fun _ => t0) fun a w S H => ?_
      refine sn ?_
      refine r_cond S rfl (fun h62 => ?_) (fun h62 => ?_)
      · skip
        simp only [Bool.and_eq_true, decide_eq_true_eq] at h62
        refine wp_skip ?_
        refine x_then ?_
        refine r_seq ?_
        refine r_block ?_
        rcases Bool.eq_false_or_eq_true tb with hq | hq
        · skip
          subst hq
          refine er 14 S H t0 fun a w S H => ?_
          refine x_blockEnd ?_
          refine x_then ?_
          refine er 3 S H (by omega) fun a w S H => ?_
          refine x_then ?_
          have em := Cl.thn_more l i k
          rw [← htb] at em
          exact ⟨(k + 1, true), ⟨S.sub ⟨rfl, rfl, rfl, rfl, rfl, rfl, rfl, rfl, rfl, rfl, rfl, rfl, rfl, rfl, rfl, rfl, rfl, rfl, rfl, rfl, rfl, rfl, rfl, rfl, rfl, rfl, rfl, rfl, rfl, rfl, rfl, rfl, rfl, rfl, rfl, rfl, rfl, rfl, rfl, rfl, rfl, rfl, rfl, rfl, trivial⟩, H, ⟨by omega, by omega, by rw [em]; simp⟩⟩, by show l.length - (k + 1) < l.length - k; omega⟩
        · skip
          subst hq
          refine r_region ?_
          refine rn 4 S H t0 fun a w S H => ?_
          obtain ⟨b12, o13, rfl⟩ := ((((((ok2.more _).more _).more _).more _).more _).more _).addr H (by first | omega | (simp <;> omega))
          refine r_y S H (y_index S rfl rfl rfl Tryz.underlying28 Tryz.sizeOf3 (by omega) (by omega)) rfl rfl rfl fun a S => ?_
          refine r_y S H (y_loadAt S rfl rfl Tryz.isAgg3 (fun w H => ((((((ok2.more _).more _).more _).more _).more _).more _).cell w H (ints_at (i := k) (by first | omega | (simp <;> omega))))) rfl rfl rfl fun a S => ?_
          refine r_y S H (y_bitop S rfl rfl rfl (fun w => maskL 16 65536 65535 (by decide) (by decide) (by decide) (l.getD k 0) w)) rfl rfl rfl fun a S => ?_
          refine rn 2 S H t0 fun a w S H => ?_
          refine r_y S H (y_remN S rfl rfl rfl (by omega) (by omega)) rfl rfl rfl fun a S => ?_
          refine rn 4 S H t0 fun a w S H => ?_
          refine r_nil ?_
          refine x_blockEnd ?_
          refine x_then ?_
          refine er 3 S H (by omega) fun a w S H => ?_
          refine x_then ?_
          have em := Cl.thn_more l i k
          rw [← htb] at em
          exact ⟨(k + 1, Cl.thn l i (k + 1)), ⟨S.sub ⟨rfl, rfl, rfl, rfl, rfl, rfl, rfl, rfl, rfl, rfl, rfl, rfl, (by rw [em, Bool.false_or]; rfl), rfl, rfl, rfl, rfl, rfl, rfl, rfl, rfl, rfl, rfl, rfl, rfl, rfl, rfl, rfl, rfl, rfl, rfl, rfl, rfl, rfl, rfl, rfl, rfl, rfl, rfl, rfl, rfl, rfl, rfl, rfl, trivial⟩, H, ⟨by omega, by omega, rfl⟩⟩, by show l.length - (k + 1) < l.length - k; omega⟩
      · skip
        simp only [Bool.and_eq_false_iff, decide_eq_false_iff_not] at h62
        refine wp_exit ?_
        refine x_thenExit ?_
        refine x_thenExit ?_
        refine x_blockHere ?_
        refine x_then ?_
        refine r_seq ?_
        rcases Bool.eq_false_or_eq_true tb with hq | hq
        · skip
          subst hq
          have hth : Cl.th l i = true := by rw [htb]; unfold Cl.th; congr 1; omega
          obtain ⟨d1, e1, hS1⟩ := Cl.sw_yes hS (by omega) hth
          have hk1 := hS1.cnt
          refine sb ?_
          refine rn 1 S H t0 fun a w S H => ?_
          refine r_y S H (y_not S rfl rfl) rfl rfl rfl fun a S => ?_
          have S := S.retell (v' := .bool false) 79 rfl rfl
          refine sn ?_
          refine r_condF S rfl ?_
          refine wp_skip ?_
          refine x_then ?_
          refine r_seq ?_
          refine sb ?_
          refine rn 3 S H t0 fun a w S H => ?_
          refine r_y S H (y_index S rfl rfl rfl Tryz.underlying35 Tryz.sizeOf9 (by omega) (by omega)) rfl rfl rfl fun a S => ?_
          refine r_y S H (y_loadAt S rfl rfl Tryz.isAgg9 (fun w H => (SlOk.ofRow (i := 2) H rfl).cell w H (strs_at (i := i) (by first | omega | (simp <;> omega))))) rfl rfl rfl fun a S => ?_
          refine rn 1 S H (by omega) fun a w S H => ?_
          have e1' : Dk.Disk.create (Cl.swN.getD i []) D = (d1, 0) := e1
          rw [e1'] at S H
          dsimp only at S H
          refine rs 1 S H t0 fun a w S H => ?_
          have S := S.retell (v' := .bool false) 86 rfl rfl
          refine r_condF S rfl ?_
          refine wp_skip ?_
          refine x_then ?_
          rcases sw_cases X i with ⟨h4, hc1⟩ | ⟨h4, hc1⟩ | ⟨h4, h5, h9, hc2⟩ | ⟨h4, h5, h9, hc2⟩ | ⟨h4, h5⟩ | ⟨h4, h5, h9⟩
          · skip
            have hkp : Cl.kp X true i = true := by rw [Cl.kp_a h4]; exact decide_eq_true hc1
            apply qb H rfl (by kernel_rfl)
            · skip
              refine qn 3 S t0 fun a S => ?_
              refine q_y S (y_lt S rfl rfl rfl) rfl rfl rfl fun a S => ?_
              have S := S.retell (v' := .bool true) 90 rfl (by rw [decide_eq_true (by omega)])
              refine qn 4 S t0 fun a S => ?_
              refine q_y S (y_bitop S rfl rfl rfl (fun w => maskL 2 4 3 (by decide) (by decide) (by decide) ((i : Nat) : Int) w)) rfl rfl rfl fun a S => ?_
              have S := S.retell (v' := .int .i64 (((i % 4) : Nat) : Int)) 95 rfl (int_eq (by omega))
              refine q_y S (y_index S rfl rfl rfl Tryz.underlying28 Tryz.sizeOf3 (by omega) (by omega)) rfl rfl rfl fun a S => ?_
              refine q_y S (y_loadAt S rfl rfl Tryz.isAgg3 (fun w H => (SlOk.ofRow (i := 3) H rfl).cell w H (ints_at (i := (i % 4)) (by first | omega | (simp <;> omega))))) rfl rfl rfl fun a S => ?_
              refine qn 2 S t0 fun a S => ?_
              refine q_y S (y_lt S rfl rfl rfl) rfl rfl rfl fun a S => ?_
              have S := S.retell (v' := .bool true) 100 rfl (by rw [decide_eq_true (by exact hc1)])
              refine qn 24 S t0 fun a S => ?_
              exact q_nil S
            · intro a w S H
              refine sr 1 S H t0 fun a w S H => ?_
              refine r_condT S rfl ?_
              refine r_region ?_
              refine rn 3 S H t0 fun a w S H => ?_
              refine r_y S H (y_index S rfl rfl rfl Tryz.underlying35 Tryz.sizeOf9 (by omega) (by omega)) rfl rfl rfl fun a S => ?_
              refine r_y S H (y_loadAt S rfl rfl Tryz.isAgg9 (fun w H => (SlOk.ofRow (i := 2) H rfl).cell w H (strs_at (i := i) (by first | omega | (simp <;> omega))))) rfl rfl rfl fun a S => ?_
              refine r_lit (vs := #[(0, str (Cl.swN.getD i []))]) (cs := strs [Cl.swN.getD i []]) S H rfl rfl el35 (by kernel_rfl) (by decide) (by rfl) rfl rfl rfl fun a w b14 S H => ?_
              refine r_appendS (L' := fun A15 c16 => row 9 1 (.slice (some ⟨b14, 0, none⟩) 1 1) 1 (strs [Cl.swN.getD i []]) :: diskR db3 d1 :: row 9 1 (.slice A15 ((Cl.want X true (Cl.th l) i).length + 1) c16) ((Cl.want X true (Cl.th l) i).length + 1) (strs ((Cl.want X true (Cl.th l) i) ++ ([Cl.swN.getD i []]))) :: row 9 1 (.slice (some ⟨b5, 0, none⟩) 20 20) 20 (strs Cl.swN) :: row 3 1 (.slice (some ⟨b6, 0, none⟩) 4 4) 4 (ints Cl.shd) :: row 3 1 (.slice (some ⟨b7, 0, none⟩) 4 4) 4 (ints Cl.std) :: blk b4 (.cells #[.int .u64 ((X.seq : Nat) : Int), .int .i64 (X.n), .int .i64 (X.shards), .int .i64 (X.step), .int .i64 (X.kind), .int .u32 ((X.start : Nat) : Int)] 27) :: fr) (xs' := strs ((Cl.want X true (Cl.th l) i) ++ ([Cl.swN.getD i []]))) 2 S H rfl rfl rfl rfl el35 (SlOk.ofRow (i := 0) H rfl) (one_strs _) (by simp only [maxLen]; first | omega | (simp <;> omega)) (by first | omega | (simp <;> omega)) (strs_app (Cl.want X true (Cl.th l) i) ([Cl.swN.getD i []])) (by first | omega | (simp <;> omega)) (fun _ _ => rfl) rfl rfl rfl fun a w A15 c16 hA15 S H => ?_
              refine rn 1 S H t0 fun a w S H => ?_
              refine r_nil ?_
              refine x_blockEnd ?_
              refine x_then ?_
              refine er 3 S H (by omega) fun a w S H => ?_
              refine x_then ?_
              have ew : (Cl.want X true (Cl.th l) i) ++ ([Cl.swN.getD i []]) = Cl.want X true (Cl.th l) (i + 1) := (Cl.want_yes hth hkp).symm
              have en : (Cl.want X true (Cl.th l) i).length + 1 = (Cl.want X true (Cl.th l) (i + 1)).length := by rw [← ew]; simp
              have H := pk [1, 2, 3, 4, 5, 6] 7 H
              rw [ew, en] at H
              rw [en] at S
              exact ⟨(i + 1, d1, A15, c16), ⟨S.sub ⟨rfl, rfl, rfl, rfl, rfl, rfl, rfl, rfl, rfl, rfl, rfl, rfl, rfl, rfl, rfl, rfl, rfl, rfl, rfl, rfl, rfl, rfl, rfl, rfl, rfl, rfl, rfl, rfl, rfl, rfl, rfl, rfl, rfl, rfl, rfl, rfl, rfl, rfl, trivial⟩, H, ⟨by omega, hS1⟩⟩, by show 20 - (i + 1) < 20 - i; omega⟩
          · skip
            have hkp : Cl.kp X true i = false := by rw [Cl.kp_a h4]; exact decide_eq_false hc1
            apply qb H rfl (by kernel_rfl)
            · skip
              refine qn 3 S t0 fun a S => ?_
              refine q_y S (y_lt S rfl rfl rfl) rfl rfl rfl fun a S => ?_
              have S := S.retell (v' := .bool true) 90 rfl (by rw [decide_eq_true (by omega)])
              refine qn 4 S t0 fun a S => ?_
              refine q_y S (y_bitop S rfl rfl rfl (fun w => maskL 2 4 3 (by decide) (by decide) (by decide) ((i : Nat) : Int) w)) rfl rfl rfl fun a S => ?_
              have S := S.retell (v' := .int .i64 (((i % 4) : Nat) : Int)) 95 rfl (int_eq (by omega))
              refine q_y S (y_index S rfl rfl rfl Tryz.underlying28 Tryz.sizeOf3 (by omega) (by omega)) rfl rfl rfl fun a S => ?_
              refine q_y S (y_loadAt S rfl rfl Tryz.isAgg3 (fun w H => (SlOk.ofRow (i := 3) H rfl).cell w H (ints_at (i := (i % 4)) (by first | omega | (simp <;> omega))))) rfl rfl rfl fun a S => ?_
              refine qn 2 S t0 fun a S => ?_
              refine q_y S (y_lt S rfl rfl rfl) rfl rfl rfl fun a S => ?_
              have S := S.retell (v' := .bool false) 100 rfl (by rw [decide_eq_false (by exact hc1)])
              refine qn 5 S t0 fun a S => ?_
              refine q_y S (y_ge S rfl rfl rfl) rfl rfl rfl fun a S => ?_
              have S := S.retell (v' := .bool false) 106 rfl (by rw [decide_eq_false (by omega)])
              refine qn 18 S t0 fun a S => ?_
              exact q_nil S
            · intro a w S H
              refine sr 1 S H t0 fun a w S H => ?_
              refine r_condF S rfl ?_
              refine wp_skip ?_
              refine x_blockEnd ?_
              refine x_then ?_
              refine er 3 S H (by omega) fun a w S H => ?_
              refine x_then ?_
              have ew : Cl.want X true (Cl.th l) (i + 1) = Cl.want X true (Cl.th l) i := Cl.want_no (.inr hkp)
              have H := H
              exact ⟨(i + 1, d1, Aw, cw), ⟨S.sub ⟨rfl, rfl, rfl, rfl, rfl, rfl, rfl, rfl, rfl, rfl, (by rw [ew]; rfl), rfl, rfl, rfl, rfl, rfl, rfl, rfl, rfl, rfl, rfl, rfl, rfl, rfl, rfl, rfl, rfl, rfl, rfl, rfl, rfl, rfl, rfl, rfl, rfl, rfl, rfl, rfl, trivial⟩, (by rw [ew]; exact H), ⟨by omega, hS1⟩⟩, by show 20 - (i + 1) < 20 - i; omega⟩
          · skip
            have hkp : Cl.kp X true i = true := by rw [Cl.kp_b h5 h9]; exact decide_eq_true hc2
            apply qb H rfl (by kernel_rfl)
            · skip
              refine qn 3 S t0 fun a S => ?_
              refine q_y S (y_lt S rfl rfl rfl) rfl rfl rfl fun a S => ?_
              have S := S.retell (v' := .bool false) 90 rfl (by rw [decide_eq_false (by omega)])
              refine qn 15 S t0 fun a S => ?_
              refine q_y S (y_ge S rfl rfl rfl) rfl rfl rfl fun a S => ?_
              have S := S.retell (v' := .bool true) 106 rfl (by rw [decide_eq_true (by omega)])
              refine qn 3 S t0 fun a S => ?_
              refine q_y S (y_lt S rfl rfl rfl) rfl rfl rfl fun a S => ?_
              have S := S.retell (v' := .bool true) 110 rfl (by rw [decide_eq_true (by omega)])
              refine qn 5 S (by omega) fun a S => ?_
              refine q_y S (y_bitop S rfl rfl rfl (fun w => maskL 2 4 3 (by decide) (by decide) (by decide) (((i : Nat) : Int) - 5) w)) rfl rfl rfl fun a S => ?_
              have S := S.retell (v' := .int .i64 ((((i - 5) % 4) : Nat) : Int)) 116 rfl (int_eq (by omega))
              refine q_y S (y_index S rfl rfl rfl Tryz.underlying28 Tryz.sizeOf3 (by omega) (by omega)) rfl rfl rfl fun a S => ?_
              refine q_y S (y_loadAt S rfl rfl Tryz.isAgg3 (fun w H => (SlOk.ofRow (i := 4) H rfl).cell w H (ints_at (i := ((i - 5) % 4)) (by first | omega | (simp <;> omega))))) rfl rfl rfl fun a S => ?_
              refine qn 2 S t0 fun a S => ?_
              refine q_y S (y_le S rfl rfl rfl) rfl rfl rfl fun a S => ?_
              have S := S.retell (v' := .bool true) 121 rfl (by rw [decide_eq_true (by exact hc2)])
              refine qn 3 S t0 fun a S => ?_
              exact q_nil S
            · intro a w S H
              refine sr 1 S H t0 fun a w S H => ?_
              refine r_condT S rfl ?_
              refine r_region ?_
              refine rn 3 S H t0 fun a w S H => ?_
              refine r_y S H (y_index S rfl rfl rfl Tryz.underlying35 Tryz.sizeOf9 (by omega) (by omega)) rfl rfl rfl fun a S => ?_
              refine r_y S H (y_loadAt S rfl rfl Tryz.isAgg9 (fun w H => (SlOk.ofRow (i := 2) H rfl).cell w H (strs_at (i := i) (by first | omega | (simp <;> omega))))) rfl rfl rfl fun a S => ?_
              refine r_lit (vs := #[(0, str (Cl.swN.getD i []))]) (cs := strs [Cl.swN.getD i []]) S H rfl rfl el35 (by kernel_rfl) (by decide) (by rfl) rfl rfl rfl fun a w b17 S H => ?_
              refine r_appendS (L' := fun A18 c19 => row 9 1 (.slice (some ⟨b17, 0, none⟩) 1 1) 1 (strs [Cl.swN.getD i []]) :: diskR db3 d1 :: row 9 1 (.slice A18 ((Cl.want X true (Cl.th l) i).length + 1) c19) ((Cl.want X true (Cl.th l) i).length + 1) (strs ((Cl.want X true (Cl.th l) i) ++ ([Cl.swN.getD i []]))) :: row 9 1 (.slice (some ⟨b5, 0, none⟩) 20 20) 20 (strs Cl.swN) :: row 3 1 (.slice (some ⟨b6, 0, none⟩) 4 4) 4 (ints Cl.shd) :: row 3 1 (.slice (some ⟨b7, 0, none⟩) 4 4) 4 (ints Cl.std) :: blk b4 (.cells #[.int .u64 ((X.seq : Nat) : Int), .int .i64 (X.n), .int .i64 (X.shards), .int .i64 (X.step), .int .i64 (X.kind), .int .u32 ((X.start : Nat) : Int)] 27) :: fr) (xs' := strs ((Cl.want X true (Cl.th l) i) ++ ([Cl.swN.getD i []]))) 2 S H rfl rfl rfl rfl el35 (SlOk.ofRow (i := 0) H rfl) (one_strs _) (by simp only [maxLen]; first | omega | (simp <;> omega)) (by first | omega | (simp <;> omega)) (strs_app (Cl.want X true (Cl.th l) i) ([Cl.swN.getD i []])) (by first | omega | (simp <;> omega)) (fun _ _ => rfl) rfl rfl rfl fun a w A18 c19 hA18 S H => ?_
              refine rn 1 S H t0 fun a w S H => ?_
              refine r_nil ?_
              refine x_blockEnd ?_
              refine x_then ?_
              refine er 3 S H (by omega) fun a w S H => ?_
              refine x_then ?_
              have ew : (Cl.want X true (Cl.th l) i) ++ ([Cl.swN.getD i []]) = Cl.want X true (Cl.th l) (i + 1) := (Cl.want_yes hth hkp).symm
              have en : (Cl.want X true (Cl.th l) i).length + 1 = (Cl.want X true (Cl.th l) (i + 1)).length := by rw [← ew]; simp
              have H := pk [1, 2, 3, 4, 5, 6] 7 H
              rw [ew, en] at H
              rw [en] at S
              exact ⟨(i + 1, d1, A18, c19), ⟨S.sub ⟨rfl, rfl, rfl, rfl, rfl, rfl, rfl, rfl, rfl, rfl, rfl, rfl, rfl, rfl, rfl, rfl, rfl, rfl, rfl, rfl, rfl, rfl, rfl, rfl, rfl, rfl, rfl, rfl, rfl, rfl, rfl, rfl, rfl, rfl, rfl, rfl, rfl, rfl, trivial⟩, H, ⟨by omega, hS1⟩⟩, by show 20 - (i + 1) < 20 - i; omega⟩
          · skip
            have hkp : Cl.kp X true i = false := by rw [Cl.kp_b h5 h9]; exact decide_eq_false hc2
            apply qb H rfl (by kernel_rfl)
            · skip
              refine qn 3 S t0 fun a S => ?_
              refine q_y S (y_lt S rfl rfl rfl) rfl rfl rfl fun a S => ?_
              have S := S.retell (v' := .bool false) 90 rfl (by rw [decide_eq_false (by omega)])
              refine qn 15 S t0 fun a S => ?_
              refine q_y S (y_ge S rfl rfl rfl) rfl rfl rfl fun a S => ?_
              have S := S.retell (v' := .bool true) 106 rfl (by rw [decide_eq_true (by omega)])
              refine qn 3 S t0 fun a S => ?_
              refine q_y S (y_lt S rfl rfl rfl) rfl rfl rfl fun a S => ?_
              have S := S.retell (v' := .bool true) 110 rfl (by rw [decide_eq_true (by omega)])
              refine qn 5 S (by omega) fun a S => ?_
              refine q_y S (y_bitop S rfl rfl rfl (fun w => maskL 2 4 3 (by decide) (by decide) (by decide) (((i : Nat) : Int) - 5) w)) rfl rfl rfl fun a S => ?_
              have S := S.retell (v' := .int .i64 ((((i - 5) % 4) : Nat) : Int)) 116 rfl (int_eq (by omega))
              refine q_y S (y_index S rfl rfl rfl Tryz.underlying28 Tryz.sizeOf3 (by omega) (by omega)) rfl rfl rfl fun a S => ?_
              refine q_y S (y_loadAt S rfl rfl Tryz.isAgg3 (fun w H => (SlOk.ofRow (i := 4) H rfl).cell w H (ints_at (i := ((i - 5) % 4)) (by first | omega | (simp <;> omega))))) rfl rfl rfl fun a S => ?_
              refine qn 2 S t0 fun a S => ?_
              refine q_y S (y_le S rfl rfl rfl) rfl rfl rfl fun a S => ?_
              have S := S.retell (v' := .bool false) 121 rfl (by rw [decide_eq_false (by exact hc2)])
              refine qn 3 S t0 fun a S => ?_
              exact q_nil S
            · intro a w S H
              refine sr 1 S H t0 fun a w S H => ?_
              refine r_condF S rfl ?_
              refine wp_skip ?_
              refine x_blockEnd ?_
              refine x_then ?_
              refine er 3 S H (by omega) fun a w S H => ?_
              refine x_then ?_
              have ew : Cl.want X true (Cl.th l) (i + 1) = Cl.want X true (Cl.th l) i := Cl.want_no (.inr hkp)
              have H := H
              exact ⟨(i + 1, d1, Aw, cw), ⟨S.sub ⟨rfl, rfl, rfl, rfl, rfl, rfl, rfl, rfl, rfl, rfl, (by rw [ew]; rfl), rfl, rfl, rfl, rfl, rfl, rfl, rfl, rfl, rfl, rfl, rfl, rfl, rfl, rfl, rfl, rfl, rfl, rfl, rfl, rfl, rfl, rfl, rfl, rfl, rfl, rfl, rfl, trivial⟩, (by rw [ew]; exact H), ⟨by omega, hS1⟩⟩, by show 20 - (i + 1) < 20 - i; omega⟩
          · skip
            have hkp := Cl.kp_c (x := X) h4 (by omega)
            apply qb H rfl (by kernel_rfl)
            · skip
              refine qn 3 S t0 fun a S => ?_
              refine q_y S (y_lt S rfl rfl rfl) rfl rfl rfl fun a S => ?_
              have S := S.retell (v' := .bool false) 90 rfl (by rw [decide_eq_false (by omega)])
              refine qn 15 S t0 fun a S => ?_
              refine q_y S (y_ge S rfl rfl rfl) rfl rfl rfl fun a S => ?_
              have S := S.retell (v' := .bool false) 106 rfl (by rw [decide_eq_false (by omega)])
              refine qn 18 S t0 fun a S => ?_
              exact q_nil S
            · intro a w S H
              refine sr 1 S H t0 fun a w S H => ?_
              refine r_condF S rfl ?_
              refine wp_skip ?_
              refine x_blockEnd ?_
              refine x_then ?_
              refine er 3 S H (by omega) fun a w S H => ?_
              refine x_then ?_
              have ew : Cl.want X true (Cl.th l) (i + 1) = Cl.want X true (Cl.th l) i := Cl.want_no (.inr hkp)
              have H := H
              exact ⟨(i + 1, d1, Aw, cw), ⟨S.sub ⟨rfl, rfl, rfl, rfl, rfl, rfl, rfl, rfl, rfl, rfl, (by rw [ew]; rfl), rfl, rfl, rfl, rfl, rfl, rfl, rfl, rfl, rfl, rfl, rfl, rfl, rfl, rfl, rfl, rfl, rfl, rfl, rfl, rfl, rfl, rfl, rfl, rfl, rfl, rfl, rfl, trivial⟩, (by rw [ew]; exact H), ⟨by omega, hS1⟩⟩, by show 20 - (i + 1) < 20 - i; omega⟩
          · skip
            have hkp := Cl.kp_c (x := X) h4 (by omega)
            apply qb H rfl (by kernel_rfl)
            · skip
              refine qn 3 S t0 fun a S => ?_
              refine q_y S (y_lt S rfl rfl rfl) rfl rfl rfl fun a S => ?_
              have S := S.retell (v' := .bool false) 90 rfl (by rw [decide_eq_false (by omega)])
              refine qn 15 S t0 fun a S => ?_
              refine q_y S (y_ge S rfl rfl rfl) rfl rfl rfl fun a S => ?_
              have S := S.retell (v' := .bool true) 106 rfl (by rw [decide_eq_true (by omega)])
              refine qn 3 S t0 fun a S => ?_
              refine q_y S (y_lt S rfl rfl rfl) rfl rfl rfl fun a S => ?_
              have S := S.retell (v' := .bool false) 110 rfl (by rw [decide_eq_false (by omega)])
              refine qn 14 S t0 fun a S => ?_
              exact q_nil S
            · intro a w S H
              refine sr 1 S H t0 fun a w S H => ?_
              refine r_condF S rfl ?_
              refine wp_skip ?_
              refine x_blockEnd ?_
              refine x_then ?_
              refine er 3 S H (by omega) fun a w S H => ?_
              refine x_then ?_
              have ew : Cl.want X true (Cl.th l) (i + 1) = Cl.want X true (Cl.th l) i := Cl.want_no (.inr hkp)
              have H := H
              exact ⟨(i + 1, d1, Aw, cw), ⟨S.sub ⟨rfl, rfl, rfl, rfl, rfl, rfl, rfl, rfl, rfl, rfl, (by rw [ew]; rfl), rfl, rfl, rfl, rfl, rfl, rfl, rfl, rfl, rfl, rfl, rfl, rfl, rfl, rfl, rfl, rfl, rfl, rfl, rfl, rfl, rfl, rfl, rfl, rfl, rfl, rfl, rfl, trivial⟩, (by rw [ew]; exact H), ⟨by omega, hS1⟩⟩, by show 20 - (i + 1) < 20 - i; omega⟩
        · skip
          subst hq
          have hth : Cl.th l i = false := by rw [htb]; unfold Cl.th; congr 1; omega
          refine sb ?_
          refine rn 1 S H t0 fun a w S H => ?_
          refine r_y S H (y_not S rfl rfl) rfl rfl rfl fun a S => ?_
          have S := S.retell (v' := .bool true) 79 rfl rfl
          refine sn ?_
          refine r_condT S rfl ?_
          refine wp_exit ?_
          refine x_thenExit ?_
          refine x_blockHere ?_
          refine x_then ?_
          refine er 3 S H (by omega) fun a w S H => ?_
          refine x_then ?_
          have ew : Cl.want X true (Cl.th l) (i + 1) = Cl.want X true (Cl.th l) i := Cl.want_no (.inl hth)
          have H := H
          exact ⟨(i + 1, D, Aw, cw), ⟨S.sub ⟨rfl, rfl, rfl, rfl, rfl, rfl, rfl, rfl, rfl, rfl, (by rw [ew]; rfl), rfl, rfl, rfl, rfl, rfl, rfl, rfl, rfl, rfl, rfl, rfl, rfl, rfl, rfl, rfl, rfl, rfl, rfl, rfl, rfl, rfl, rfl, rfl, rfl, rfl, rfl, rfl, trivial⟩, (by rw [ew]; exact H), ⟨by omega, Cl.sw_no hS hth⟩⟩, by show 20 - (i + 1) < 20 - i; omega⟩
    · skip
      refine wp_exit ?_
      refine x_thenExit ?_
      refine x_thenExit ?_
      refine x_blockHere ?_
      refine x_then ?_
      have hi : i = 20 := by omega
      subst hi
      obtain ⟨d1, d2, ls, e1, e2, hll, hin, k1, k2⟩ := Cl.sw_end hF hS
      refine sb ?_
      refine rn 1 S H t0 fun a w S H => ?_
      refine r_call (args := #[.pointer (some ⟨db3, 0, none⟩)]) S rfl rfl Tryz.call14 (sweep_ct (H := H) _ _ (hl.via fun _ H => H.drop.drop.drop.drop.drop) db3 D (by omega)) rfl rfl rfl fun v a w hR S => ?_
      obtain ⟨rfl, H⟩ := hR
      rw [e1] at S H
      dsimp only at S H
      refine rs 1 S H t0 fun a w S H => ?_
      refine sb ?_
      refine rn 1 S H t0 fun a w S H => ?_
      refine r_call (args := #[.pointer (some ⟨db3, 0, none⟩)]) S rfl rfl Tryz.call15 (list_ct (H := H) _ _ db3 d1 (by omega)) rfl rfl rfl fun v a w hR S => ?_
      obtain ⟨A24, c25, rfl, H⟩ := hR
      rw [e2] at S H
      dsimp only at S H
      refine rs 5 S H t0 fun a w S H => ?_
      refine r_seq ?_
      refine sb ?_
      refine rn 2 S H t0 fun a w S H => ?_
      have S := S.retell (v' := .bool false) 140 rfl rfl
      refine rn 3 S H t0 fun a w S H => ?_
      have S := S.retell (v' := .bool false) 143 rfl rfl
      refine rn 6 S H t0 fun a w S H => ?_
      refine r_y S H (y_ne S rfl rfl rfl) rfl rfl rfl fun a S => ?_
      have S := S.retell (v' := .bool false) 150 rfl (by rw [hll]; simp)
      refine rs 1 S H t0 fun a w S H => ?_
      refine r_condF S rfl ?_
      refine wp_skip ?_
      refine x_then ?_
      refine r_seq ?_
      refine sr 1 S H t0 fun a w S H => ?_
      refine r_block ?_
      refine r_loop (ι := Nat) (fun i a w => Slots a 179 [(0, .agg #[.int .u64 ((m.seq : Nat) : Int), .int .i64 m.n, .int .i64 m.shards, .int .i64 m.step, .int .i64 m.kind, .int .u32 ((m.start : Nat) : Int)]), (1, .bool true), (2, .slice A2 l.length c2), (3, .pointer (some ⟨b1, 0, none⟩)), (7, .bool true), (8, .pointer (some ⟨db3, 0, none⟩)), (9, .pointer (some ⟨b4, 0, none⟩)), (10, .slice (some ⟨b5, 0, none⟩) 20 20), (11, .slice (some ⟨b6, 0, none⟩) 4 4), (12, .slice (some ⟨b7, 0, none⟩) 4 4), (13, .slice Aw ((Cl.want X true (Cl.th l) 20).length) cw), (18, .int .i64 0), (19, .slice A24 (ls.length) c25), (20, .int .i64 0), (21, .int .i64 ((i : Nat) : Int)), (24, .bool true), (25, .pointer (some ⟨db3, 0, none⟩)), (26, .pointer (some ⟨db3, 0, none⟩)), (27, .bool false), (28, .agg #[.int .u64 ((m.seq : Nat) : Int), .int .i64 m.n, .int .i64 m.shards, .int .i64 m.step, .int .i64 m.kind, .int .u32 ((m.start : Nat) : Int)]), (29, .agg #[.int .u64 (((Cl.right m 7).seq : Nat) : Int), .int .i64 ((Cl.right m 7).n), .int .i64 ((Cl.right m 7).shards), .int .i64 ((Cl.right m 7).step), .int .i64 ((Cl.right m 7).kind), .int .u32 (((Cl.right m 7).start : Nat) : Int)]), (30, .pointer (some ⟨b4, 3, none⟩)), (31, .int .i64 ((Cl.right m 7).step)), (32, .int .i64 (min ((Cl.right m 7).step) 9)), (33, .pointer (some ⟨b4, 3, none⟩)), (34, .bool true), (35, .bool true), (36, .pointer (some ⟨db3, 0, none⟩)), (37, .agg #[.int .u64 ((X.seq : Nat) : Int), .int .i64 (X.n), .int .i64 (X.shards), .int .i64 (X.step), .int .i64 (X.kind), .int .u32 ((X.start : Nat) : Int)]), (38, .int .i64 0), (39, .bool false), (40, .bool false), (41, .slice (some ⟨b5, 0, none⟩) 20 20), (42, .slice (some ⟨b6, 0, none⟩) 4 4), (43, .slice (some ⟨b7, 0, none⟩) 4 4), (44, .slice (some ⟨b8, 0, none⟩) 0 0), (45, .bool true), (46, .slice (some ⟨b8, 0, none⟩) 0 0), (47, .slice (some ⟨b9, 0, none⟩) 1 1), (48, .slice A10 1 c11), (50, .slice (some ⟨b5, 0, none⟩) 20 20), (51, .int .i64 20), (132, .pointer (some ⟨db3, 0, none⟩)), (133, .int .i64 0), (134, .tuple #[.slice A24 (ls.length) c25, .int .i64 0]), (135, .pointer (some ⟨db3, 0, none⟩)), (136, .tuple #[.slice A24 (ls.length) c25, .int .i64 0]), (137, .slice A24 (ls.length) c25), (138, .int .i64 0), (139, .int .i64 0), (140, .bool false), (141, .bool false), (142, .int .i64 0), (143, .bool false), (144, .bool false), (145, .bool false), (146, .slice A24 (ls.length) c25), (147, .int .i64 ((ls.length : Nat) : Int)), (148, .slice Aw ((Cl.want X true (Cl.th l) 20).length) cw), (149, .int .i64 (((Cl.want X true (Cl.th l) 20).length : Nat) : Int)), (150, .bool false), (151, .bool false), (179, undef)] ∧ Sat w (diskR db3 d2 :: row 9 1 (.slice A24 (ls.length) c25) (ls.length) (strs ls) :: row 9 1 (.slice Aw ((Cl.want X true (Cl.th l) 20).length) cw) ((Cl.want X true (Cl.th l) 20).length) (strs (Cl.want X true (Cl.th l) 20)) :: row 9 1 (.slice (some ⟨b5, 0, none⟩) 20 20) 20 (strs Cl.swN) :: row 3 1 (.slice (some ⟨b6, 0, none⟩) 4 4) 4 (ints Cl.shd) :: row 3 1 (.slice (some ⟨b7, 0, none⟩) 4 4) 4 (ints Cl.std) :: blk b4 (.cells #[.int .u64 ((X.seq : Nat) : Int), .int .i64 (X.n), .int .i64 (X.shards), .int .i64 (X.step), .int .i64 (X.kind), .int .u32 ((X.start : Nat) : Int)] 27) :: fr) ∧ (i ≤ (Cl.want X true (Cl.th l) 20).length)) (fun i => (Cl.want X true (Cl.th l) 20).length - i) 0 ⟨S.sub ⟨rfl, rfl, rfl, rfl, rfl, rfl, rfl, rfl, rfl, rfl, rfl, rfl, rfl, rfl, rfl, rfl, rfl, rfl, rfl, rfl, rfl, rfl, rfl, rfl, rfl, rfl, rfl, rfl, rfl, rfl, rfl, rfl, rfl, rfl, rfl, rfl, rfl, rfl, rfl, rfl, rfl, rfl, rfl, rfl, rfl, rfl, rfl, rfl, rfl, rfl, rfl, rfl, rfl, rfl, rfl, rfl, rfl, rfl, rfl, rfl, rfl, rfl, rfl, trivial⟩, H, Nat.zero_le _⟩ (fun i a w hI => ?_)
      obtain ⟨S, H, hI⟩ := hI
      have hiw := hI
      refine r_seq ?_
      refine sr 4 S H t0 fun a w S H => ?_
      refine r_test S rfl (fun h155 => ?_) (fun h155 => ?_)
      · skip
        refine wp_skip ?_
        refine x_then ?_
        refine r_seq ?_
        refine r_block ?_
        refine sr 1 S H t0 fun a w S H => ?_
        refine r_seq ?_
        refine sr 1 S H t0 fun a w S H => ?_
        refine r_block ?_
        refine r_loop (ι := Nat × Bool) (fun ⟨k, ib⟩ a w => Slots a 179 [(0, .agg #[.int .u64 ((m.seq : Nat) : Int), .int .i64 m.n, .int .i64 m.shards, .int .i64 m.step, .int .i64 m.kind, .int .u32 ((m.start : Nat) : Int)]), (1, .bool true), (2, .slice A2 l.length c2), (3, .pointer (some ⟨b1, 0, none⟩)), (7, .bool true), (8, .pointer (some ⟨db3, 0, none⟩)), (9, .pointer (some ⟨b4, 0, none⟩)), (10, .slice (some ⟨b5, 0, none⟩) 20 20), (11, .slice (some ⟨b6, 0, none⟩) 4 4), (12, .slice (some ⟨b7, 0, none⟩) 4 4), (13, .slice Aw ((Cl.want X true (Cl.th l) 20).length) cw), (18, .int .i64 0), (19, .slice A24 (ls.length) c25), (20, .int .i64 0), (21, .int .i64 ((i : Nat) : Int)), (22, .bool ib), (23, .int .i64 ((k : Nat) : Int)), (24, .bool true), (25, .pointer (some ⟨db3, 0, none⟩)), (26, .pointer (some ⟨db3, 0, none⟩)), (27, .bool false), (28, .agg #[.int .u64 ((m.seq : Nat) : Int), .int .i64 m.n, .int .i64 m.shards, .int .i64 m.step, .int .i64 m.kind, .int .u32 ((m.start : Nat) : Int)]), (29, .agg #[.int .u64 (((Cl.right m 7).seq : Nat) : Int), .int .i64 ((Cl.right m 7).n), .int .i64 ((Cl.right m 7).shards), .int .i64 ((Cl.right m 7).step), .int .i64 ((Cl.right m 7).kind), .int .u32 (((Cl.right m 7).start : Nat) : Int)]), (30, .pointer (some ⟨b4, 3, none⟩)), (31, .int .i64 ((Cl.right m 7).step)), (32, .int .i64 (min ((Cl.right m 7).step) 9)), (33, .pointer (some ⟨b4, 3, none⟩)), (34, .bool true), (35, .bool true), (36, .pointer (some ⟨db3, 0, none⟩)), (37, .agg #[.int .u64 ((X.seq : Nat) : Int), .int .i64 (X.n), .int .i64 (X.shards), .int .i64 (X.step), .int .i64 (X.kind), .int .u32 ((X.start : Nat) : Int)]), (38, .int .i64 0), (39, .bool false), (40, .bool false), (41, .slice (some ⟨b5, 0, none⟩) 20 20), (42, .slice (some ⟨b6, 0, none⟩) 4 4), (43, .slice (some ⟨b7, 0, none⟩) 4 4), (44, .slice (some ⟨b8, 0, none⟩) 0 0), (45, .bool true), (46, .slice (some ⟨b8, 0, none⟩) 0 0), (47, .slice (some ⟨b9, 0, none⟩) 1 1), (48, .slice A10 1 c11), (50, .slice (some ⟨b5, 0, none⟩) 20 20), (51, .int .i64 20), (132, .pointer (some ⟨db3, 0, none⟩)), (133, .int .i64 0), (134, .tuple #[.slice A24 (ls.length) c25, .int .i64 0]), (135, .pointer (some ⟨db3, 0, none⟩)), (136, .tuple #[.slice A24 (ls.length) c25, .int .i64 0]), (137, .slice A24 (ls.length) c25), (138, .int .i64 0), (139, .int .i64 0), (140, .bool false), (141, .bool false), (142, .int .i64 0), (143, .bool false), (144, .bool false), (145, .bool false), (146, .slice A24 (ls.length) c25), (147, .int .i64 ((ls.length : Nat) : Int)), (148, .slice Aw ((Cl.want X true (Cl.th l) 20).length) cw), (149, .int .i64 (((Cl.want X true (Cl.th l) 20).length : Nat) : Int)), (150, .bool false), (151, .bool false), (152, .int .i64 ((i : Nat) : Int)), (153, .slice Aw ((Cl.want X true (Cl.th l) 20).length) cw), (154, .int .i64 (((Cl.want X true (Cl.th l) 20).length : Nat) : Int)), (155, .bool (decide (((i : Nat) : Int) < (((Cl.want X true (Cl.th l) 20).length : Nat) : Int)))), (179, undef)] ∧ Sat w (diskR db3 d2 :: row 9 1 (.slice A24 (ls.length) c25) (ls.length) (strs ls) :: row 9 1 (.slice Aw ((Cl.want X true (Cl.th l) 20).length) cw) ((Cl.want X true (Cl.th l) 20).length) (strs (Cl.want X true (Cl.th l) 20)) :: row 9 1 (.slice (some ⟨b5, 0, none⟩) 20 20) 20 (strs Cl.swN) :: row 3 1 (.slice (some ⟨b6, 0, none⟩) 4 4) 4 (ints Cl.shd) :: row 3 1 (.slice (some ⟨b7, 0, none⟩) 4 4) 4 (ints Cl.std) :: blk b4 (.cells #[.int .u64 ((X.seq : Nat) : Int), .int .i64 (X.n), .int .i64 (X.shards), .int .i64 (X.step), .int .i64 (X.kind), .int .u32 ((X.start : Nat) : Int)] 27) :: fr) ∧ (k ≤ ls.length ∧ ib = Cl.inn ls ((Cl.want X true (Cl.th l) 20).getD i []) k)) (fun ⟨k, ib⟩ => ls.length - k) (0, false) ⟨S.sub ⟨rfl, rfl, rfl, rfl, rfl, rfl, rfl, rfl, rfl, rfl, rfl, rfl, rfl, rfl, rfl, rfl, rfl, rfl, rfl, rfl, rfl, rfl, rfl, rfl, rfl, rfl, rfl, rfl, rfl, rfl, rfl, rfl, rfl, rfl, rfl, rfl, rfl, rfl, rfl, rfl, rfl, rfl, rfl, rfl, rfl, rfl, rfl, rfl, rfl, rfl, rfl, rfl, rfl, rfl, rfl, rfl, rfl, rfl, rfl, rfl, rfl, rfl, rfl, rfl, rfl, rfl, rfl, rfl, rfl, trivial⟩, H, ⟨by omega, rfl⟩⟩ (fun ⟨k, ib⟩ a w hI => ?_)
        obtain ⟨S, H, hI⟩ := hI
        obtain ⟨hkl, hib⟩ := hI
        refine r_seq ?_
        refine sr 4 S H t0 fun a w S H => ?_
        refine r_test S rfl (fun h161 => ?_) (fun h161 => ?_)
        · skip
          refine wp_skip ?_
          refine x_then ?_
          refine r_seq ?_
          refine r_block ?_
          rcases Bool.eq_false_or_eq_true ib with hq | hq
          · skip
            subst hq
            refine qe 13 S H t0 fun a w S H => ?_
            refine x_blockEnd ?_
            refine x_then ?_
            refine er 3 S H (by omega) fun a w S H => ?_
            refine x_then ?_
            have em := Cl.inn_more ls ((Cl.want X true (Cl.th l) 20).getD i []) k
            rw [← hib] at em
            exact ⟨(k + 1, true), ⟨S.sub ⟨rfl, rfl, rfl, rfl, rfl, rfl, rfl, rfl, rfl, rfl, rfl, rfl, rfl, rfl, rfl, rfl, rfl, rfl, rfl, rfl, rfl, rfl, rfl, rfl, rfl, rfl, rfl, rfl, rfl, rfl, rfl, rfl, rfl, rfl, rfl, rfl, rfl, rfl, rfl, rfl, rfl, rfl, rfl, rfl, rfl, rfl, rfl, rfl, rfl, rfl, rfl, rfl, rfl, rfl, rfl, rfl, rfl, rfl, rfl, rfl, rfl, rfl, rfl, rfl, rfl, rfl, rfl, rfl, rfl, trivial⟩, H, ⟨by omega, by rw [em]; simp⟩⟩, by show ls.length - (k + 1) < ls.length - k; omega⟩
          · skip
            subst hq
            obtain ⟨b26, rfl⟩ := H.rowAt (i := 1) rfl (by omega)
            obtain ⟨b27, rfl⟩ := H.rowAt (i := 2) rfl (by omega)
            apply qbe H rfl (by kernel_rfl)
            · skip
              refine qn 4 S t0 fun a S => ?_
              refine q_y S (y_index S rfl rfl rfl Tryz.underlying35 Tryz.sizeOf9 (by omega) (by omega)) rfl rfl rfl fun a S => ?_
              refine q_y S (y_loadAt S rfl rfl Tryz.isAgg9 (fun w H => (SlOk.ofRow (i := 1) H rfl).cell w H (strs_at (i := k) (by first | omega | (simp <;> omega))))) rfl rfl rfl fun a S => ?_
              refine qn 2 S t0 fun a S => ?_
              refine q_y S (y_index S rfl rfl rfl Tryz.underlying35 Tryz.sizeOf9 (by omega) (by omega)) rfl rfl rfl fun a S => ?_
              refine q_y S (y_loadAt S rfl rfl Tryz.isAgg9 (fun w H => (SlOk.ofRow (i := 2) H rfl).cell w H (strs_at (i := i) (by first | omega | (simp <;> omega))))) rfl rfl rfl fun a S => ?_
              refine qn 3 S t0 fun a S => ?_
              exact q_nil S
            · intro a w S H
              refine x_blockEnd ?_
              refine x_then ?_
              refine er 3 S H (by omega) fun a w S H => ?_
              refine x_then ?_
              have em := Cl.inn_more ls ((Cl.want X true (Cl.th l) 20).getD i []) k
              rw [← hib] at em
              exact ⟨(k + 1, Cl.inn ls ((Cl.want X true (Cl.th l) 20).getD i []) (k + 1)), ⟨S.sub ⟨rfl, rfl, rfl, rfl, rfl, rfl, rfl, rfl, rfl, rfl, rfl, rfl, rfl, rfl, rfl, (by rw [em, Bool.false_or]; rfl), rfl, rfl, rfl, rfl, rfl, rfl, rfl, rfl, rfl, rfl, rfl, rfl, rfl, rfl, rfl, rfl, rfl, rfl, rfl, rfl, rfl, rfl, rfl, rfl, rfl, rfl, rfl, rfl, rfl, rfl, rfl, rfl, rfl, rfl, rfl, rfl, rfl, rfl, rfl, rfl, rfl, rfl, rfl, rfl, rfl, rfl, rfl, rfl, rfl, rfl, rfl, rfl, rfl, trivial⟩, H, ⟨by omega, rfl⟩⟩, by show ls.length - (k + 1) < ls.length - k; omega⟩
        · skip
          refine wp_exit ?_
          refine x_thenExit ?_
          refine x_thenExit ?_
          refine x_blockHere ?_
          refine x_then ?_
          have hib2 : ib = true := by rw [hib, show k = ls.length from by omega]; exact Cl.inn_all (hin _ (Cl.want_at (by omega)))
          subst hib2
          refine sb ?_
          refine rn 1 S H t0 fun a w S H => ?_
          refine r_y S H (y_not S rfl rfl) rfl rfl rfl fun a S => ?_
          have S := S.retell (v' := .bool false) 177 rfl rfl
          refine sn ?_
          refine r_condF S rfl ?_
          refine wp_skip ?_
          refine x_blockEnd ?_
          refine x_then ?_
          refine er 3 S H (by omega) fun a w S H => ?_
          refine x_then ?_
          exact ⟨(i + 1), ⟨S.sub ⟨rfl, rfl, rfl, rfl, rfl, rfl, rfl, rfl, rfl, rfl, rfl, rfl, rfl, rfl, rfl, rfl, rfl, rfl, rfl, rfl, rfl, rfl, rfl, rfl, rfl, rfl, rfl, rfl, rfl, rfl, rfl, rfl, rfl, rfl, rfl, rfl, rfl, rfl, rfl, rfl, rfl, rfl, rfl, rfl, rfl, rfl, rfl, rfl, rfl, rfl, rfl, rfl, rfl, rfl, rfl, rfl, rfl, rfl, rfl, rfl, rfl, rfl, rfl, trivial⟩, H, (by omega : i + 1 ≤ (Cl.want X true (Cl.th l) 20).length)⟩, by show (Cl.want X true (Cl.th l) 20).length - (i + 1) < (Cl.want X true (Cl.th l) 20).length - i; omega⟩
      · skip
        refine wp_exit ?_
        refine x_thenExit ?_
        refine x_thenExit ?_
        refine x_blockHere ?_
        refine x_then ?_
        refine sr 2 S H t0 fun a w S H => ?_
        refine wp_ret ?_
        refine r_ret1 S H Tryz.results3 (ro_tmp S rfl) ?_
        exact ⟨rfl, H.drop.drop.drop.drop.drop.drop.drop⟩
  · skip
    subst hb
    refine sb ?_
    refine r_call (args := #[]) S rfl rfl Tryz.call9 (shown_ct (H := H) _ _ (hl.via fun _ H => H.drop)) rfl rfl rfl fun v a w hR S => ?_
    obtain ⟨rfl, H⟩ := hR
    refine rs 1 S H t0 fun a w S H => ?_
    refine sb ?_
    refine r_call (args := #[.int .i64 1000]) S rfl rfl Tryz.call10 (new_ct (H := H) _ _ 1000 (by omega)) rfl rfl rfl fun v a w hR S => ?_
    obtain ⟨db29, rfl, H⟩ := hR
    refine rs 1 S H t0 fun a w S H => ?_
    refine r_seq ?_
    refine sr 2 S H t0 fun a w S H => ?_
    refine r_condF S rfl ?_
    refine wp_skip ?_
    refine x_then ?_
    refine sb ?_
    refine rn 1 S H t0 fun a w S H => ?_
    refine r_call (args := #[.agg #[.int .u64 ((m.seq : Nat) : Int), .int .i64 m.n, .int .i64 m.shards, .int .i64 m.step, .int .i64 m.kind, .int .u32 ((m.start : Nat) : Int)], .int .u64 7]) S rfl rfl Tryz.call11 (right_ct (H := H) _ _ m 7) rfl rfl rfl fun v a w hR S => ?_
    obtain ⟨rfl, H⟩ := hR
    refine r_alloc S H rfl Tryz.zeroValue27 rfl rfl rfl rfl fun a w b30 S H => ?_
    replace H : Sat _ (blk b30 (.cells #[.int .u64 0, .int .i64 0, .int .i64 0, .int .i64 0, .int .i64 0, .int .u32 0] 27) :: diskR db29 (Dk.fresh 1000) :: blk b1 (.cells #[.int .u64 ((m.seq : Nat) : Int), .int .i64 m.n, .int .i64 m.shards, .int .i64 m.step, .int .i64 m.kind, .int .u32 ((m.start : Nat) : Int)] 27) :: fr) := H
    refine rs 1 S H t0 fun a w S H => ?_
    refine sr 5 S H t0 fun a w S H => ?_
    refine r_seq ?_
    replace H : Sat _ (blk b30 (.cells #[.int .u64 (((Cl.swm m).seq : Nat) : Int), .int .i64 ((Cl.swm m).n), .int .i64 ((Cl.swm m).shards), .int .i64 ((Cl.swm m).step), .int .i64 ((Cl.swm m).kind), .int .u32 (((Cl.swm m).start : Nat) : Int)] 27) :: diskR db29 (Dk.fresh 1000) :: blk b1 (.cells #[.int .u64 ((m.seq : Nat) : Int), .int .i64 m.n, .int .i64 m.shards, .int .i64 m.step, .int .i64 m.kind, .int .u32 ((m.start : Nat) : Int)] 27) :: fr) := H
    obtain ⟨X, hX⟩ : ∃ q, q = Cl.swm m := ⟨_, rfl⟩
    have hF : Cl.Few X := by rw [hX]; exact Cl.swm_few m
    rw [← hX] at H
    obtain ⟨d0, e0, f0, hS0⟩ := Cl.sw_0 hF false (Cl.th l)
    have k0 : (Dk.fresh 1000).files.length ≤ 30 := by decide
    have hsq := hF.seq
    have hss := hF.start
    obtain rfl := f0 rfl
    refine sr 7 S H t0 fun a w S H => ?_
    refine r_condF S rfl ?_
    refine wp_skip ?_
    refine x_then ?_
    refine sb ?_
    refine r_lit (vs := #[(0, str ([115, 104, 97, 114, 100, 46, 48])), (1, str ([115, 104, 97, 114, 100, 46, 53])), (2, str ([115, 104, 97, 114, 100, 46, 56])), (3, str ([115, 104, 97, 114, 100, 46, 57])), (4, str ([115, 104, 97, 114, 100, 46, 48, 53])), (5, str ([115, 116, 97, 116, 101, 46, 48])), (6, str ([115, 116, 97, 116, 101, 46, 51])), (7, str ([115, 116, 97, 116, 101, 46, 57])), (8, str ([115, 116, 97, 116, 101, 46, 49, 48])), (9, str ([115, 116, 97, 116, 101, 46, 48, 51])), (10, str ([115, 116, 97, 116, 101, 46, 45, 49])), (11, str ([115, 116, 97, 116, 101, 46, 110, 101, 119])), (12, str ([115, 108, 111, 116, 46, 110, 101, 119])), (13, str ([115, 108, 111, 116, 46, 50])), (14, str ([98, 111, 120, 46, 49])), (15, str ([114, 117, 110, 46, 51])), (16, str ([112, 97, 114, 116, 46, 48])), (17, str ([120])), (18, str ([115, 116, 97, 116, 101, 46])), (19, str ([115, 104, 97, 114, 100, 46]))]) (cs := strs [[115, 104, 97, 114, 100, 46, 48], [115, 104, 97, 114, 100, 46, 53], [115, 104, 97, 114, 100, 46, 56], [115, 104, 97, 114, 100, 46, 57], [115, 104, 97, 114, 100, 46, 48, 53], [115, 116, 97, 116, 101, 46, 48], [115, 116, 97, 116, 101, 46, 51], [115, 116, 97, 116, 101, 46, 57], [115, 116, 97, 116, 101, 46, 49, 48], [115, 116, 97, 116, 101, 46, 48, 51], [115, 116, 97, 116, 101, 46, 45, 49], [115, 116, 97, 116, 101, 46, 110, 101, 119], [115, 108, 111, 116, 46, 110, 101, 119], [115, 108, 111, 116, 46, 50], [98, 111, 120, 46, 49], [114, 117, 110, 46, 51], [112, 97, 114, 116, 46, 48], [120], [115, 116, 97, 116, 101, 46], [115, 104, 97, 114, 100, 46]]) S H rfl rfl el35 (by kernel_rfl) (by decide) (by rfl) rfl rfl rfl fun a w b31 S H => ?_
    replace H : Sat _ (row 9 1 (.slice (some ⟨b31, 0, none⟩) 20 20) 20 (strs Cl.swN) :: blk b30 (.cells #[.int .u64 ((X.seq : Nat) : Int), .int .i64 (X.n), .int .i64 (X.shards), .int .i64 (X.step), .int .i64 (X.kind), .int .u32 ((X.start : Nat) : Int)] 27) :: diskR db29 (Dk.fresh 1000) :: blk b1 (.cells #[.int .u64 ((m.seq : Nat) : Int), .int .i64 m.n, .int .i64 m.shards, .int .i64 m.step, .int .i64 m.kind, .int .u32 ((m.start : Nat) : Int)] 27) :: fr) := H
    have hl41 : Cl.swN.length = 20 := rfl
    refine rs 1 S H t0 fun a w S H => ?_
    refine sb ?_
    refine r_lit (vs := #[(0, .int .i64 0), (1, .int .i64 5), (2, .int .i64 8), (3, .int .i64 9)]) (cs := ints [0, 5, 8, 9]) S H rfl rfl el28 (by kernel_rfl) (by decide) (by rfl) rfl rfl rfl fun a w b32 S H => ?_
    replace H : Sat _ (row 3 1 (.slice (some ⟨b32, 0, none⟩) 4 4) 4 (ints Cl.shd) :: row 9 1 (.slice (some ⟨b31, 0, none⟩) 20 20) 20 (strs Cl.swN) :: blk b30 (.cells #[.int .u64 ((X.seq : Nat) : Int), .int .i64 (X.n), .int .i64 (X.shards), .int .i64 (X.step), .int .i64 (X.kind), .int .u32 ((X.start : Nat) : Int)] 27) :: diskR db29 (Dk.fresh 1000) :: blk b1 (.cells #[.int .u64 ((m.seq : Nat) : Int), .int .i64 m.n, .int .i64 m.shards, .int .i64 m.step, .int .i64 m.kind, .int .u32 ((m.start : Nat) : Int)] 27) :: fr) := H
    have hl42 : Cl.shd.length = 4 := rfl
    refine rs 1 S H t0 fun a w S H => ?_
    refine sb ?_
    refine r_lit (vs := #[(0, .int .i64 0), (1, .int .i64 3), (2, .int .i64 9), (3, .int .i64 10)]) (cs := ints [0, 3, 9, 10]) S H rfl rfl el28 (by kernel_rfl) (by decide) (by rfl) rfl rfl rfl fun a w b33 S H => ?_
    replace H : Sat _ (row 3 1 (.slice (some ⟨b33, 0, none⟩) 4 4) 4 (ints Cl.std) :: row 3 1 (.slice (some ⟨b32, 0, none⟩) 4 4) 4 (ints Cl.shd) :: row 9 1 (.slice (some ⟨b31, 0, none⟩) 20 20) 20 (strs Cl.swN) :: blk b30 (.cells #[.int .u64 ((X.seq : Nat) : Int), .int .i64 (X.n), .int .i64 (X.shards), .int .i64 (X.step), .int .i64 (X.kind), .int .u32 ((X.start : Nat) : Int)] 27) :: diskR db29 (Dk.fresh 1000) :: blk b1 (.cells #[.int .u64 ((m.seq : Nat) : Int), .int .i64 m.n, .int .i64 m.shards, .int .i64 m.step, .int .i64 m.kind, .int .u32 ((m.start : Nat) : Int)] 27) :: fr) := H
    have hl43 : Cl.std.length = 4 := rfl
    refine rs 1 S H t0 fun a w S H => ?_
    refine sb ?_
    refine r_lit (vs := #[]) (cs := strs []) S H rfl rfl el35 (by kernel_rfl) (by decide) (by rfl) rfl rfl rfl fun a w b34 S H => ?_
    refine rs 1 S H t0 fun a w S H => ?_
    refine r_seq ?_
    refine sr 1 S H t0 fun a w S H => ?_
    refine r_condF S rfl ?_
    refine wp_skip ?_
    refine x_then ?_
    refine r_seq ?_
    have ew : ([] : List Nm) = Cl.want X false (Cl.th l) 0 := by rfl
    have en : 0 = (Cl.want X false (Cl.th l) 0).length := by rw [← ew]; rfl
    replace H : Sat w (row 9 1 (.slice (some ⟨b34, 0, none⟩) ((Cl.want X false (Cl.th l) 0).length) 0) ((Cl.want X false (Cl.th l) 0).length) (strs (Cl.want X false (Cl.th l) 0)) :: row 3 1 (.slice (some ⟨b33, 0, none⟩) 4 4) 4 (ints Cl.std) :: row 3 1 (.slice (some ⟨b32, 0, none⟩) 4 4) 4 (ints Cl.shd) :: row 9 1 (.slice (some ⟨b31, 0, none⟩) 20 20) 20 (strs Cl.swN) :: blk b30 (.cells #[.int .u64 ((X.seq : Nat) : Int), .int .i64 (X.n), .int .i64 (X.shards), .int .i64 (X.step), .int .i64 (X.kind), .int .u32 ((X.start : Nat) : Int)] 27) :: diskR db29 (Dk.fresh 1000) :: blk b1 (.cells #[.int .u64 ((m.seq : Nat) : Int), .int .i64 m.n, .int .i64 m.shards, .int .i64 m.step, .int .i64 m.kind, .int .u32 ((m.start : Nat) : Int)] 27) :: fr) := by rw [← ew]; exact H
    have S := S.retell (v' := .slice (some ⟨b34, 0, none⟩) ((Cl.want X false (Cl.th l) 0).length) 0) 13 rfl (by rw [← ew]; rfl)
    refine sr 1 S H t0 fun a w S H => ?_
    refine r_block ?_
    refine r_loop (ι := Nat × Dk.Disk × Option Addr × Nat) (fun ⟨i, D, Aw, cw⟩ a w => Slots a 179 [(0, .agg #[.int .u64 ((m.seq : Nat) : Int), .int .i64 m.n, .int .i64 m.shards, .int .i64 m.step, .int .i64 m.kind, .int .u32 ((m.start : Nat) : Int)]), (1, .bool false), (2, .slice A2 l.length c2), (3, .pointer (some ⟨b1, 0, none⟩)), (7, .bool true), (8, .pointer (some ⟨db29, 0, none⟩)), (9, .pointer (some ⟨b30, 0, none⟩)), (10, .slice (some ⟨b31, 0, none⟩) 20 20), (11, .slice (some ⟨b32, 0, none⟩) 4 4), (12, .slice (some ⟨b33, 0, none⟩) 4 4), (13, .slice Aw ((Cl.want X false (Cl.th l) i).length) cw), (14, .int .i64 ((i : Nat) : Int)), (24, .bool true), (25, .pointer (some ⟨db29, 0, none⟩)), (26, .pointer (some ⟨db29, 0, none⟩)), (27, .bool false), (28, .agg #[.int .u64 ((m.seq : Nat) : Int), .int .i64 m.n, .int .i64 m.shards, .int .i64 m.step, .int .i64 m.kind, .int .u32 ((m.start : Nat) : Int)]), (29, .agg #[.int .u64 (((Cl.right m 7).seq : Nat) : Int), .int .i64 ((Cl.right m 7).n), .int .i64 ((Cl.right m 7).shards), .int .i64 ((Cl.right m 7).step), .int .i64 ((Cl.right m 7).kind), .int .u32 (((Cl.right m 7).start : Nat) : Int)]), (30, .pointer (some ⟨b30, 3, none⟩)), (31, .int .i64 ((Cl.right m 7).step)), (32, .int .i64 (min ((Cl.right m 7).step) 9)), (33, .pointer (some ⟨b30, 3, none⟩)), (34, .bool false), (35, .bool false), (36, undef), (37, undef), (38, undef), (39, undef), (40, .bool false), (41, .slice (some ⟨b31, 0, none⟩) 20 20), (42, .slice (some ⟨b32, 0, none⟩) 4 4), (43, .slice (some ⟨b33, 0, none⟩) 4 4), (44, .slice (some ⟨b34, 0, none⟩) 0 0), (45, .bool false), (179, undef)] ∧ Sat w (diskR db29 D :: row 9 1 (.slice Aw ((Cl.want X false (Cl.th l) i).length) cw) ((Cl.want X false (Cl.th l) i).length) (strs (Cl.want X false (Cl.th l) i)) :: row 9 1 (.slice (some ⟨b31, 0, none⟩) 20 20) 20 (strs Cl.swN) :: row 3 1 (.slice (some ⟨b32, 0, none⟩) 4 4) 4 (ints Cl.shd) :: row 3 1 (.slice (some ⟨b33, 0, none⟩) 4 4) 4 (ints Cl.std) :: blk b30 (.cells #[.int .u64 ((X.seq : Nat) : Int), .int .i64 (X.n), .int .i64 (X.shards), .int .i64 (X.step), .int .i64 (X.kind), .int .u32 ((X.start : Nat) : Int)] 27) :: fr) ∧ (i ≤ 20 ∧ Cl.Sw X false (Cl.th l) i D)) (fun ⟨i, D, Aw, cw⟩ => 20 - i) (0, (Dk.fresh 1000), (some ⟨b34, 0, none⟩), 0) ⟨S.sub ⟨rfl, rfl, rfl, rfl, rfl, rfl, rfl, rfl, rfl, rfl, rfl, rfl, rfl, rfl, rfl, rfl, rfl, rfl, rfl, rfl, rfl, rfl, rfl, rfl, rfl, rfl, rfl, rfl, rfl, rfl, rfl, rfl, rfl, rfl, rfl, trivial⟩, pk [5, 0, 3, 2, 1, 4] 7 H, ⟨by omega, hS0⟩⟩ (fun ⟨i, D, Aw, cw⟩ a w hI => ?_)
    obtain ⟨S, H, hI⟩ := hI
    obtain ⟨hi20, hS⟩ := hI
    have hkD := hS.cnt
    have hwl := Cl.want_len X false (Cl.th l) i
    refine r_seq ?_
    refine sr 4 S H t0 fun a w S H => ?_
    refine r_test S rfl (fun h52 => ?_) (fun h52 => ?_)
    · skip
      refine wp_skip ?_
      refine x_then ?_
      refine r_seq ?_
      refine r_block ?_
      refine sr 1 S H t0 fun a w S H => ?_
      refine r_seq ?_
      refine sr 1 S H t0 fun a w S H => ?_
      refine r_block ?_
      refine r_loop (ι := Nat × Bool) (fun ⟨k, tb⟩ a w => Slots a 179 [(0, .agg #[.int .u64 ((m.seq : Nat) : Int), .int .i64 m.n, .int .i64 m.shards, .int .i64 m.step, .int .i64 m.kind, .int .u32 ((m.start : Nat) : Int)]), (1, .bool false), (2, .slice A2 l.length c2), (3, .pointer (some ⟨b1, 0, none⟩)), (7, .bool true), (8, .pointer (some ⟨db29, 0, none⟩)), (9, .pointer (some ⟨b30, 0, none⟩)), (10, .slice (some ⟨b31, 0, none⟩) 20 20), (11, .slice (some ⟨b32, 0, none⟩) 4 4), (12, .slice (some ⟨b33, 0, none⟩) 4 4), (13, .slice Aw ((Cl.want X false (Cl.th l) i).length) cw), (14, .int .i64 ((i : Nat) : Int)), (15, .bool tb), (16, .int .i64 ((k : Nat) : Int)), (24, .bool true), (25, .pointer (some ⟨db29, 0, none⟩)), (26, .pointer (some ⟨db29, 0, none⟩)), (27, .bool false), (28, .agg #[.int .u64 ((m.seq : Nat) : Int), .int .i64 m.n, .int .i64 m.shards, .int .i64 m.step, .int .i64 m.kind, .int .u32 ((m.start : Nat) : Int)]), (29, .agg #[.int .u64 (((Cl.right m 7).seq : Nat) : Int), .int .i64 ((Cl.right m 7).n), .int .i64 ((Cl.right m 7).shards), .int .i64 ((Cl.right m 7).step), .int .i64 ((Cl.right m 7).kind), .int .u32 (((Cl.right m 7).start : Nat) : Int)]), (30, .pointer (some ⟨b30, 3, none⟩)), (31, .int .i64 ((Cl.right m 7).step)), (32, .int .i64 (min ((Cl.right m 7).step) 9)), (33, .pointer (some ⟨b30, 3, none⟩)), (34, .bool false), (35, .bool false), (36, undef), (37, undef), (38, undef), (39, undef), (40, .bool false), (41, .slice (some ⟨b31, 0, none⟩) 20 20), (42, .slice (some ⟨b32, 0, none⟩) 4 4), (43, .slice (some ⟨b33, 0, none⟩) 4 4), (44, .slice (some ⟨b34, 0, none⟩) 0 0), (45, .bool false), (49, .int .i64 ((i : Nat) : Int)), (50, .slice (some ⟨b31, 0, none⟩) 20 20), (51, .int .i64 20), (52, .bool (decide (((i : Nat) : Int) < 20))), (179, undef)] ∧ Sat w (diskR db29 D :: row 9 1 (.slice Aw ((Cl.want X false (Cl.th l) i).length) cw) ((Cl.want X false (Cl.th l) i).length) (strs (Cl.want X false (Cl.th l) i)) :: row 9 1 (.slice (some ⟨b31, 0, none⟩) 20 20) 20 (strs Cl.swN) :: row 3 1 (.slice (some ⟨b32, 0, none⟩) 4 4) 4 (ints Cl.shd) :: row 3 1 (.slice (some ⟨b33, 0, none⟩) 4 4) 4 (ints Cl.std) :: blk b30 (.cells #[.int .u64 ((X.seq : Nat) : Int), .int .i64 (X.n), .int .i64 (X.shards), .int .i64 (X.step), .int .i64 (X.kind), .int .u32 ((X.start : Nat) : Int)] 27) :: fr) ∧ (k ≤ l.length ∧ k ≤ 40 ∧ tb = Cl.thn l i k)) (fun ⟨k, tb⟩ => l.length - k) (0, false) ⟨S.sub ⟨rfl, rfl, rfl, rfl, rfl, rfl, rfl, rfl, rfl, rfl, rfl, rfl, rfl, rfl, rfl, rfl, rfl, rfl, rfl, rfl, rfl, rfl, rfl, rfl, rfl, rfl, rfl, rfl, rfl, rfl, rfl, rfl, rfl, rfl, rfl, rfl, rfl, rfl, rfl, rfl, rfl, trivial⟩, H, ⟨by omega, by omega, rfl⟩⟩ (fun ⟨k, tb⟩ a w hI => ?_)
      obtain ⟨S, H, hI⟩ := hI
      obtain ⟨hkl, hk40, htb⟩ := hI
      refine r_seq ?_
      refine sb ?_
      refine rn 5 S H t0 fun a w S H => ?_
      refine scA 1 S H (fun _ => t0) fun a w S H => ?_
      refine sn ?_
      refine r_cond S rfl (fun h62 => ?_) (fun h62 => ?_)
      · skip
        simp only [Bool.and_eq_true, decide_eq_true_eq] at h62
        refine wp_skip ?_
        refine x_then ?_
        refine r_seq ?_
        refine r_block ?_
        rcases Bool.eq_false_or_eq_true tb with hq | hq
        · skip
          subst hq
          refine er 14 S H t0 fun a w S H => ?_
          refine x_blockEnd ?_
          refine x_then ?_
          refine er 3 S H (by omega) fun a w S H => ?_
          refine x_then ?_
          have em := Cl.thn_more l i k
          rw [← htb] at em
          exact ⟨(k + 1, true), ⟨S.sub ⟨rfl, rfl, rfl, rfl, rfl, rfl, rfl, rfl, rfl, rfl, rfl, rfl, rfl, rfl, rfl, rfl, rfl, rfl, rfl, rfl, rfl, rfl, rfl, rfl, rfl, rfl, rfl, rfl, rfl, rfl, rfl, rfl, rfl, rfl, rfl, rfl, rfl, rfl, rfl, rfl, rfl, trivial⟩, H, ⟨by omega, by omega, by rw [em]; simp⟩⟩, by show l.length - (k + 1) < l.length - k; omega⟩
        · skip
          subst hq
          refine r_region ?_
          refine rn 4 S H t0 fun a w S H => ?_
          obtain ⟨b35, o36, rfl⟩ := ((((((ok2.more _).more _).more _).more _).more _).more _).addr H (by first | omega | (simp <;> omega))
          refine r_y S H (y_index S rfl rfl rfl Tryz.underlying28 Tryz.sizeOf3 (by omega) (by omega)) rfl rfl rfl fun a S => ?_
          refine r_y S H (y_loadAt S rfl rfl Tryz.isAgg3 (fun w H => ((((((ok2.more _).more _).more _).more _).more _).more _).cell w H (ints_at (i := k) (by first | omega | (simp <;> omega))))) rfl rfl rfl fun a S => ?_
          refine r_y S H (y_bitop S rfl rfl rfl (fun w => maskL 16 65536 65535 (by decide) (by decide) (by decide) (l.getD k 0) w)) rfl rfl rfl fun a S => ?_
          refine rn 2 S H t0 fun a w S H => ?_
          refine r_y S H (y_remN S rfl rfl rfl (by omega) (by omega)) rfl rfl rfl fun a S => ?_
          refine rn 4 S H t0 fun a w S H => ?_
          refine r_nil ?_
          refine x_blockEnd ?_
          refine x_then ?_
          refine er 3 S H (by omega) fun a w S H => ?_
          refine x_then ?_
          have em := Cl.thn_more l i k
          rw [← htb] at em
          exact ⟨(k + 1, Cl.thn l i (k + 1)), ⟨S.sub ⟨rfl, rfl, rfl, rfl, rfl, rfl, rfl, rfl, rfl, rfl, rfl, rfl, (by rw [em, Bool.false_or]; rfl), rfl, rfl, rfl, rfl, rfl, rfl, rfl, rfl, rfl, rfl, rfl, rfl, rfl, rfl, rfl, rfl, rfl, rfl, rfl, rfl, rfl, rfl, rfl, rfl, rfl, rfl, rfl, rfl, trivial⟩, H, ⟨by omega, by omega, rfl⟩⟩, by show l.length - (k + 1) < l.length - k; omega⟩
      · skip
        simp only [Bool.and_eq_false_iff, decide_eq_false_iff_not] at h62
        refine wp_exit ?_
        refine x_thenExit ?_
        refine x_thenExit ?_
        refine x_blockHere ?_
        refine x_then ?_
        refine r_seq ?_
        rcases Bool.eq_false_or_eq_true tb with hq | hq
        · skip
          subst hq
          have hth : Cl.th l i = true := by rw [htb]; unfold Cl.th; congr 1; omega
          obtain ⟨d1, e1, hS1⟩ := Cl.sw_yes hS (by omega) hth
          have hk1 := hS1.cnt
          refine sb ?_
          refine rn 1 S H t0 fun a w S H => ?_
          refine r_y S H (y_not S rfl rfl) rfl rfl rfl fun a S => ?_
          have S := S.retell (v' := .bool false) 79 rfl rfl
          refine sn ?_
          refine r_condF S rfl ?_
          refine wp_skip ?_
          refine x_then ?_
          refine r_seq ?_
          refine sb ?_
          refine rn 3 S H t0 fun a w S H => ?_
          refine r_y S H (y_index S rfl rfl rfl Tryz.underlying35 Tryz.sizeOf9 (by omega) (by omega)) rfl rfl rfl fun a S => ?_
          refine r_y S H (y_loadAt S rfl rfl Tryz.isAgg9 (fun w H => (SlOk.ofRow (i := 2) H rfl).cell w H (strs_at (i := i) (by first | omega | (simp <;> omega))))) rfl rfl rfl fun a S => ?_
          refine rn 1 S H (by omega) fun a w S H => ?_
          have e1' : Dk.Disk.create (Cl.swN.getD i []) D = (d1, 0) := e1
          rw [e1'] at S H
          dsimp only at S H
          refine rs 1 S H t0 fun a w S H => ?_
          have S := S.retell (v' := .bool false) 86 rfl rfl
          refine r_condF S rfl ?_
          refine wp_skip ?_
          refine x_then ?_
          by_cases hz : True
          · skip
            have hkp := Cl.kp_no X i
            refine qr 38 S H t0 fun a w S H => ?_
            refine sr 1 S H t0 fun a w S H => ?_
            refine r_condF S rfl ?_
            refine wp_skip ?_
            refine x_blockEnd ?_
            refine x_then ?_
            refine er 3 S H (by omega) fun a w S H => ?_
            refine x_then ?_
            have ew : Cl.want X false (Cl.th l) (i + 1) = Cl.want X false (Cl.th l) i := Cl.want_no (.inr hkp)
            have H := H
            exact ⟨(i + 1, d1, Aw, cw), ⟨S.sub ⟨rfl, rfl, rfl, rfl, rfl, rfl, rfl, rfl, rfl, rfl, (by rw [ew]; rfl), rfl, rfl, rfl, rfl, rfl, rfl, rfl, rfl, rfl, rfl, rfl, rfl, rfl, rfl, rfl, rfl, rfl, rfl, rfl, rfl, rfl, rfl, rfl, rfl, trivial⟩, (by rw [ew]; exact H), ⟨by omega, hS1⟩⟩, by show 20 - (i + 1) < 20 - i; omega⟩
          · skip
            exact absurd trivial hz
        · skip
          subst hq
          have hth : Cl.th l i = false := by rw [htb]; unfold Cl.th; congr 1; omega
          refine sb ?_
          refine rn 1 S H t0 fun a w S H => ?_
          refine r_y S H (y_not S rfl rfl) rfl rfl rfl fun a S => ?_
          have S := S.retell (v' := .bool true) 79 rfl rfl
          refine sn ?_
          refine r_condT S rfl ?_
          refine wp_exit ?_
          refine x_thenExit ?_
          refine x_blockHere ?_
          refine x_then ?_
          refine er 3 S H (by omega) fun a w S H => ?_
          refine x_then ?_
          have ew : Cl.want X false (Cl.th l) (i + 1) = Cl.want X false (Cl.th l) i := Cl.want_no (.inl hth)
          have H := H
          exact ⟨(i + 1, D, Aw, cw), ⟨S.sub ⟨rfl, rfl, rfl, rfl, rfl, rfl, rfl, rfl, rfl, rfl, (by rw [ew]; rfl), rfl, rfl, rfl, rfl, rfl, rfl, rfl, rfl, rfl, rfl, rfl, rfl, rfl, rfl, rfl, rfl, rfl, rfl, rfl, rfl, rfl, rfl, rfl, rfl, trivial⟩, (by rw [ew]; exact H), ⟨by omega, Cl.sw_no hS hth⟩⟩, by show 20 - (i + 1) < 20 - i; omega⟩
    · skip
      refine wp_exit ?_
      refine x_thenExit ?_
      refine x_thenExit ?_
      refine x_blockHere ?_
      refine x_then ?_
      have hi : i = 20 := by omega
      subst hi
      obtain ⟨d1, d2, ls, e1, e2, hll, hin, k1, k2⟩ := Cl.sw_end hF hS
      refine sb ?_
      refine rn 1 S H t0 fun a w S H => ?_
      refine r_call (args := #[.pointer (some ⟨db29, 0, none⟩)]) S rfl rfl Tryz.call14 (sweep_ct (H := H) _ _ (hl.via fun _ H => H.drop.drop.drop.drop.drop) db29 D (by omega)) rfl rfl rfl fun v a w hR S => ?_
      obtain ⟨rfl, H⟩ := hR
      rw [e1] at S H
      dsimp only at S H
      refine rs 1 S H t0 fun a w S H => ?_
      refine sb ?_
      refine rn 1 S H t0 fun a w S H => ?_
      refine r_call (args := #[.pointer (some ⟨db29, 0, none⟩)]) S rfl rfl Tryz.call15 (list_ct (H := H) _ _ db29 d1 (by omega)) rfl rfl rfl fun v a w hR S => ?_
      obtain ⟨A41, c42, rfl, H⟩ := hR
      rw [e2] at S H
      dsimp only at S H
      refine rs 5 S H t0 fun a w S H => ?_
      refine r_seq ?_
      refine sb ?_
      refine rn 2 S H t0 fun a w S H => ?_
      have S := S.retell (v' := .bool false) 140 rfl rfl
      refine rn 3 S H t0 fun a w S H => ?_
      have S := S.retell (v' := .bool false) 143 rfl rfl
      refine rn 6 S H t0 fun a w S H => ?_
      refine r_y S H (y_ne S rfl rfl rfl) rfl rfl rfl fun a S => ?_
      have S := S.retell (v' := .bool false) 150 rfl (by rw [hll]; simp)
      refine rs 1 S H t0 fun a w S H => ?_
      refine r_condF S rfl ?_
      refine wp_skip ?_
      refine x_then ?_
      refine r_seq ?_
      refine sr 1 S H t0 fun a w S H => ?_
      refine r_block ?_
      refine r_loop (ι := Nat) (fun i a w => Slots a 179 [(0, .agg #[.int .u64 ((m.seq : Nat) : Int), .int .i64 m.n, .int .i64 m.shards, .int .i64 m.step, .int .i64 m.kind, .int .u32 ((m.start : Nat) : Int)]), (1, .bool false), (2, .slice A2 l.length c2), (3, .pointer (some ⟨b1, 0, none⟩)), (7, .bool true), (8, .pointer (some ⟨db29, 0, none⟩)), (9, .pointer (some ⟨b30, 0, none⟩)), (10, .slice (some ⟨b31, 0, none⟩) 20 20), (11, .slice (some ⟨b32, 0, none⟩) 4 4), (12, .slice (some ⟨b33, 0, none⟩) 4 4), (13, .slice Aw ((Cl.want X false (Cl.th l) 20).length) cw), (18, .int .i64 0), (19, .slice A41 (ls.length) c42), (20, .int .i64 0), (21, .int .i64 ((i : Nat) : Int)), (24, .bool true), (25, .pointer (some ⟨db29, 0, none⟩)), (26, .pointer (some ⟨db29, 0, none⟩)), (27, .bool false), (28, .agg #[.int .u64 ((m.seq : Nat) : Int), .int .i64 m.n, .int .i64 m.shards, .int .i64 m.step, .int .i64 m.kind, .int .u32 ((m.start : Nat) : Int)]), (29, .agg #[.int .u64 (((Cl.right m 7).seq : Nat) : Int), .int .i64 ((Cl.right m 7).n), .int .i64 ((Cl.right m 7).shards), .int .i64 ((Cl.right m 7).step), .int .i64 ((Cl.right m 7).kind), .int .u32 (((Cl.right m 7).start : Nat) : Int)]), (30, .pointer (some ⟨b30, 3, none⟩)), (31, .int .i64 ((Cl.right m 7).step)), (32, .int .i64 (min ((Cl.right m 7).step) 9)), (33, .pointer (some ⟨b30, 3, none⟩)), (34, .bool false), (35, .bool false), (36, undef), (37, undef), (38, undef), (39, undef), (40, .bool false), (41, .slice (some ⟨b31, 0, none⟩) 20 20), (42, .slice (some ⟨b32, 0, none⟩) 4 4), (43, .slice (some ⟨b33, 0, none⟩) 4 4), (44, .slice (some ⟨b34, 0, none⟩) 0 0), (45, .bool false), (50, .slice (some ⟨b31, 0, none⟩) 20 20), (51, .int .i64 20), (132, .pointer (some ⟨db29, 0, none⟩)), (133, .int .i64 0), (134, .tuple #[.slice A41 (ls.length) c42, .int .i64 0]), (135, .pointer (some ⟨db29, 0, none⟩)), (136, .tuple #[.slice A41 (ls.length) c42, .int .i64 0]), (137, .slice A41 (ls.length) c42), (138, .int .i64 0), (139, .int .i64 0), (140, .bool false), (141, .bool false), (142, .int .i64 0), (143, .bool false), (144, .bool false), (145, .bool false), (146, .slice A41 (ls.length) c42), (147, .int .i64 ((ls.length : Nat) : Int)), (148, .slice Aw ((Cl.want X false (Cl.th l) 20).length) cw), (149, .int .i64 (((Cl.want X false (Cl.th l) 20).length : Nat) : Int)), (150, .bool false), (151, .bool false), (179, undef)] ∧ Sat w (diskR db29 d2 :: row 9 1 (.slice A41 (ls.length) c42) (ls.length) (strs ls) :: row 9 1 (.slice Aw ((Cl.want X false (Cl.th l) 20).length) cw) ((Cl.want X false (Cl.th l) 20).length) (strs (Cl.want X false (Cl.th l) 20)) :: row 9 1 (.slice (some ⟨b31, 0, none⟩) 20 20) 20 (strs Cl.swN) :: row 3 1 (.slice (some ⟨b32, 0, none⟩) 4 4) 4 (ints Cl.shd) :: row 3 1 (.slice (some ⟨b33, 0, none⟩) 4 4) 4 (ints Cl.std) :: blk b30 (.cells #[.int .u64 ((X.seq : Nat) : Int), .int .i64 (X.n), .int .i64 (X.shards), .int .i64 (X.step), .int .i64 (X.kind), .int .u32 ((X.start : Nat) : Int)] 27) :: fr) ∧ (i ≤ (Cl.want X false (Cl.th l) 20).length)) (fun i => (Cl.want X false (Cl.th l) 20).length - i) 0 ⟨S.sub ⟨rfl, rfl, rfl, rfl, rfl, rfl, rfl, rfl, rfl, rfl, rfl, rfl, rfl, rfl, rfl, rfl, rfl, rfl, rfl, rfl, rfl, rfl, rfl, rfl, rfl, rfl, rfl, rfl, rfl, rfl, rfl, rfl, rfl, rfl, rfl, rfl, rfl, rfl, rfl, rfl, rfl, rfl, rfl, rfl, rfl, rfl, rfl, rfl, rfl, rfl, rfl, rfl, rfl, rfl, rfl, rfl, rfl, rfl, rfl, rfl, trivial⟩, H, Nat.zero_le _⟩ (fun i a w hI => ?_)
      obtain ⟨S, H, hI⟩ := hI
      have hiw := hI
      refine r_seq ?_
      refine sr 4 S H t0 fun a w S H => ?_
      refine r_test S rfl (fun h155 => ?_) (fun h155 => ?_)
      · skip
        refine wp_skip ?_
        refine x_then ?_
        refine r_seq ?_
        refine r_block ?_
        refine sr 1 S H t0 fun a w S H => ?_
        refine r_seq ?_
        refine sr 1 S H t0 fun a w S H => ?_
        refine r_block ?_
        refine r_loop (ι := Nat × Bool) (fun ⟨k, ib⟩ a w => Slots a 179 [(0, .agg #[.int .u64 ((m.seq : Nat) : Int), .int .i64 m.n, .int .i64 m.shards, .int .i64 m.step, .int .i64 m.kind, .int .u32 ((m.start : Nat) : Int)]), (1, .bool false), (2, .slice A2 l.length c2), (3, .pointer (some ⟨b1, 0, none⟩)), (7, .bool true), (8, .pointer (some ⟨db29, 0, none⟩)), (9, .pointer (some ⟨b30, 0, none⟩)), (10, .slice (some ⟨b31, 0, none⟩) 20 20), (11, .slice (some ⟨b32, 0, none⟩) 4 4), (12, .slice (some ⟨b33, 0, none⟩) 4 4), (13, .slice Aw ((Cl.want X false (Cl.th l) 20).length) cw), (18, .int .i64 0), (19, .slice A41 (ls.length) c42), (20, .int .i64 0), (21, .int .i64 ((i : Nat) : Int)), (22, .bool ib), (23, .int .i64 ((k : Nat) : Int)), (24, .bool true), (25, .pointer (some ⟨db29, 0, none⟩)), (26, .pointer (some ⟨db29, 0, none⟩)), (27, .bool false), (28, .agg #[.int .u64 ((m.seq : Nat) : Int), .int .i64 m.n, .int .i64 m.shards, .int .i64 m.step, .int .i64 m.kind, .int .u32 ((m.start : Nat) : Int)]), (29, .agg #[.int .u64 (((Cl.right m 7).seq : Nat) : Int), .int .i64 ((Cl.right m 7).n), .int .i64 ((Cl.right m 7).shards), .int .i64 ((Cl.right m 7).step), .int .i64 ((Cl.right m 7).kind), .int .u32 (((Cl.right m 7).start : Nat) : Int)]), (30, .pointer (some ⟨b30, 3, none⟩)), (31, .int .i64 ((Cl.right m 7).step)), (32, .int .i64 (min ((Cl.right m 7).step) 9)), (33, .pointer (some ⟨b30, 3, none⟩)), (34, .bool false), (35, .bool false), (36, undef), (37, undef), (38, undef), (39, undef), (40, .bool false), (41, .slice (some ⟨b31, 0, none⟩) 20 20), (42, .slice (some ⟨b32, 0, none⟩) 4 4), (43, .slice (some ⟨b33, 0, none⟩) 4 4), (44, .slice (some ⟨b34, 0, none⟩) 0 0), (45, .bool false), (50, .slice (some ⟨b31, 0, none⟩) 20 20), (51, .int .i64 20), (132, .pointer (some ⟨db29, 0, none⟩)), (133, .int .i64 0), (134, .tuple #[.slice A41 (ls.length) c42, .int .i64 0]), (135, .pointer (some ⟨db29, 0, none⟩)), (136, .tuple #[.slice A41 (ls.length) c42, .int .i64 0]), (137, .slice A41 (ls.length) c42), (138, .int .i64 0), (139, .int .i64 0), (140, .bool false), (141, .bool false), (142, .int .i64 0), (143, .bool false), (144, .bool false), (145, .bool false), (146, .slice A41 (ls.length) c42), (147, .int .i64 ((ls.length : Nat) : Int)), (148, .slice Aw ((Cl.want X false (Cl.th l) 20).length) cw), (149, .int .i64 (((Cl.want X false (Cl.th l) 20).length : Nat) : Int)), (150, .bool false), (151, .bool false), (152, .int .i64 ((i : Nat) : Int)), (153, .slice Aw ((Cl.want X false (Cl.th l) 20).length) cw), (154, .int .i64 (((Cl.want X false (Cl.th l) 20).length : Nat) : Int)), (155, .bool (decide (((i : Nat) : Int) < (((Cl.want X false (Cl.th l) 20).length : Nat) : Int)))), (179, undef)] ∧ Sat w (diskR db29 d2 :: row 9 1 (.slice A41 (ls.length) c42) (ls.length) (strs ls) :: row 9 1 (.slice Aw ((Cl.want X false (Cl.th l) 20).length) cw) ((Cl.want X false (Cl.th l) 20).length) (strs (Cl.want X false (Cl.th l) 20)) :: row 9 1 (.slice (some ⟨b31, 0, none⟩) 20 20) 20 (strs Cl.swN) :: row 3 1 (.slice (some ⟨b32, 0, none⟩) 4 4) 4 (ints Cl.shd) :: row 3 1 (.slice (some ⟨b33, 0, none⟩) 4 4) 4 (ints Cl.std) :: blk b30 (.cells #[.int .u64 ((X.seq : Nat) : Int), .int .i64 (X.n), .int .i64 (X.shards), .int .i64 (X.step), .int .i64 (X.kind), .int .u32 ((X.start : Nat) : Int)] 27) :: fr) ∧ (k ≤ ls.length ∧ ib = Cl.inn ls ((Cl.want X false (Cl.th l) 20).getD i []) k)) (fun ⟨k, ib⟩ => ls.length - k) (0, false) ⟨S.sub ⟨rfl, rfl, rfl, rfl, rfl, rfl, rfl, rfl, rfl, rfl, rfl, rfl, rfl, rfl, rfl, rfl, rfl, rfl, rfl, rfl, rfl, rfl, rfl, rfl, rfl, rfl, rfl, rfl, rfl, rfl, rfl, rfl, rfl, rfl, rfl, rfl, rfl, rfl, rfl, rfl, rfl, rfl, rfl, rfl, rfl, rfl, rfl, rfl, rfl, rfl, rfl, rfl, rfl, rfl, rfl, rfl, rfl, rfl, rfl, rfl, rfl, rfl, rfl, rfl, rfl, rfl, trivial⟩, H, ⟨by omega, rfl⟩⟩ (fun ⟨k, ib⟩ a w hI => ?_)
        obtain ⟨S, H, hI⟩ := hI
        obtain ⟨hkl, hib⟩ := hI
        refine r_seq ?_
        refine sr 4 S H t0 fun a w S H => ?_
        refine r_test S rfl (fun h161 => ?_) (fun h161 => ?_)
        · skip
          refine wp_skip ?_
          refine x_then ?_
          refine r_seq ?_
          refine r_block ?_
          rcases Bool.eq_false_or_eq_true ib with hq | hq
          · skip
            subst hq
            refine qe 13 S H t0 fun a w S H => ?_
            refine x_blockEnd ?_
            refine x_then ?_
            refine er 3 S H (by omega) fun a w S H => ?_
            refine x_then ?_
            have em := Cl.inn_more ls ((Cl.want X false (Cl.th l) 20).getD i []) k
            rw [← hib] at em
            exact ⟨(k + 1, true), ⟨S.sub ⟨rfl, rfl, rfl, rfl, rfl, rfl, rfl, rfl, rfl, rfl, rfl, rfl, rfl, rfl, rfl, rfl, rfl, rfl, rfl, rfl, rfl, rfl, rfl, rfl, rfl, rfl, rfl, rfl, rfl, rfl, rfl, rfl, rfl, rfl, rfl, rfl, rfl, rfl, rfl, rfl, rfl, rfl, rfl, rfl, rfl, rfl, rfl, rfl, rfl, rfl, rfl, rfl, rfl, rfl, rfl, rfl, rfl, rfl, rfl, rfl, rfl, rfl, rfl, rfl, rfl, rfl, trivial⟩, H, ⟨by omega, by rw [em]; simp⟩⟩, by show ls.length - (k + 1) < ls.length - k; omega⟩
          · skip
            subst hq
            obtain ⟨b43, rfl⟩ := H.rowAt (i := 1) rfl (by omega)
            obtain ⟨b44, rfl⟩ := H.rowAt (i := 2) rfl (by omega)
            apply qbe H rfl (by kernel_rfl)
            · skip
              refine qn 4 S t0 fun a S => ?_
              refine q_y S (y_index S rfl rfl rfl Tryz.underlying35 Tryz.sizeOf9 (by omega) (by omega)) rfl rfl rfl fun a S => ?_
              refine q_y S (y_loadAt S rfl rfl Tryz.isAgg9 (fun w H => (SlOk.ofRow (i := 1) H rfl).cell w H (strs_at (i := k) (by first | omega | (simp <;> omega))))) rfl rfl rfl fun a S => ?_
              refine qn 2 S t0 fun a S => ?_
              refine q_y S (y_index S rfl rfl rfl Tryz.underlying35 Tryz.sizeOf9 (by omega) (by omega)) rfl rfl rfl fun a S => ?_
              refine q_y S (y_loadAt S rfl rfl Tryz.isAgg9 (fun w H => (SlOk.ofRow (i := 2) H rfl).cell w H (strs_at (i := i) (by first | omega | (simp <;> omega))))) rfl rfl rfl fun a S => ?_
              refine qn 3 S t0 fun a S => ?_
              exact q_nil S
            · intro a w S H
              refine x_blockEnd ?_
              refine x_then ?_
              refine er 3 S H (by omega) fun a w S H => ?_
              refine x_then ?_
              have em := Cl.inn_more ls ((Cl.want X false (Cl.th l) 20).getD i []) k
              rw [← hib] at em
              exact ⟨(k + 1, Cl.inn ls ((Cl.want X false (Cl.th l) 20).getD i []) (k + 1)), ⟨S.sub ⟨rfl, rfl, rfl, rfl, rfl, rfl, rfl, rfl, rfl, rfl, rfl, rfl, rfl, rfl, rfl, (by rw [em, Bool.false_or]; rfl), rfl, rfl, rfl, rfl, rfl, rfl, rfl, rfl, rfl, rfl, rfl, rfl, rfl, rfl, rfl, rfl, rfl, rfl, rfl, rfl, rfl, rfl, rfl, rfl, rfl, rfl, rfl, rfl, rfl, rfl, rfl, rfl, rfl, rfl, rfl, rfl, rfl, rfl, rfl, rfl, rfl, rfl, rfl, rfl, rfl, rfl, rfl, rfl, rfl, rfl, trivial⟩, H, ⟨by omega, rfl⟩⟩, by show ls.length - (k + 1) < ls.length - k; omega⟩
        · skip
          refine wp_exit ?_
          refine x_thenExit ?_
          refine x_thenExit ?_
          refine x_blockHere ?_
          refine x_then ?_
          have hib2 : ib = true := by rw [hib, show k = ls.length from by omega]; exact Cl.inn_all (hin _ (Cl.want_at (by omega)))
          subst hib2
          refine sb ?_
          refine rn 1 S H t0 fun a w S H => ?_
          refine r_y S H (y_not S rfl rfl) rfl rfl rfl fun a S => ?_
          have S := S.retell (v' := .bool false) 177 rfl rfl
          refine sn ?_
          refine r_condF S rfl ?_
          refine wp_skip ?_
          refine x_blockEnd ?_
          refine x_then ?_
          refine er 3 S H (by omega) fun a w S H => ?_
          refine x_then ?_
          exact ⟨(i + 1), ⟨S.sub ⟨rfl, rfl, rfl, rfl, rfl, rfl, rfl, rfl, rfl, rfl, rfl, rfl, rfl, rfl, rfl, rfl, rfl, rfl, rfl, rfl, rfl, rfl, rfl, rfl, rfl, rfl, rfl, rfl, rfl, rfl, rfl, rfl, rfl, rfl, rfl, rfl, rfl, rfl, rfl, rfl, rfl, rfl, rfl, rfl, rfl, rfl, rfl, rfl, rfl, rfl, rfl, rfl, rfl, rfl, rfl, rfl, rfl, rfl, rfl, rfl, trivial⟩, H, (by omega : i + 1 ≤ (Cl.want X false (Cl.th l) 20).length)⟩, by show (Cl.want X false (Cl.th l) 20).length - (i + 1) < (Cl.want X false (Cl.th l) 20).length - i; omega⟩
      · skip
        refine wp_exit ?_
        refine x_thenExit ?_
        refine x_thenExit ?_
        refine x_blockHere ?_
        refine x_then ?_
        refine sr 2 S H t0 fun a w S H => ?_
        refine wp_ret ?_
        refine r_ret1 S H Tryz.results3 (ro_tmp S rfl) ?_
        exact ⟨rfl, H.drop.drop.drop.drop.drop.drop.drop⟩

end Go.Proofs.YtfndfpgmgnacgaaGreatDoor
