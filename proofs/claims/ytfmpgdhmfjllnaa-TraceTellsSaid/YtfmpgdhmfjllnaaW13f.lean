/- Walks of functions of the program, over slots and resources. No condition. -/
import Derived.Test.YtfmpgdhmfjllnaaW13e
namespace Go.Proofs.Ytfmpgdhmfjllnaa
open Go.RowKit Go.Cg
set_option linter.unusedVariables false
set_option linter.unusedSimpArgs false
theorem el33 : Elem Try.prog 33 47 3 12 (.agg #[.int .u32 0, .int .u32 0, .int .u32 0]) := ⟨Try.underlying33, by kernel_rfl, rfl, by decide⟩
open Go.Cg.Tr (E top right graph quiet msg comb nxt summed)
theorem shown_es : ∀ e ∈ ([⟨0, 1, 5⟩] : List E), e.f < 4294967296 ∧ e.t < 4294967296 := by intro e he; simp at he; subst he; decide
theorem shown_ew : ∀ e ∈ ([⟨0, 1, 5⟩] : List E), e.w < 4294967296 := by intro e he; simp at he; subst he; decide
theorem shown_1 : Tr.traceR 1 0 2 [⟨0, 1, 5⟩] 1 = ([0, 1], [false, true]) := by decide
theorem shown_m1 : (Tr.may 1 0 2 [⟨0, 1, 5⟩] && decide ((0 : Int) ≤ 1)) = true := by decide
theorem shown_3 : Tr.traceR 3 0 2 [⟨0, 1, 5⟩] 9 = ([0, 5], [false, false]) := by decide
theorem shown_m3 : (Tr.may 3 0 2 [⟨0, 1, 5⟩] && decide ((0 : Int) ≤ 9)) = true := by decide
theorem shown_2 : Tr.startR 1 2 2 [⟨0, 1, 5⟩] = ([], []) := by decide
theorem shown_m2 : Tr.may 1 2 2 [⟨0, 1, 5⟩] = false := by decide
set_option maxRecDepth 4000 in
theorem shown_ct (w : World) (fr : List Res)  (H : Sat w (fr)) :
    Rt Try.prog 14 #[] w fun v w' => v = .bool true ∧ Sat w' fr := by
  refine rt_enter Try.func14 rfl (n := 84) Try.ntmps14 rfl fun a S => ?_
  refine r_seq ?_
  refine r_region ?_
  refine r_y S H (y_assign S rfl rfl) rfl rfl rfl fun a S => ?_
  refine r_nil ?_
  refine x_then ?_
  refine r_seq ?_
  refine r_region ?_
  refine r_y S H (y_build (vs := #[(0, .int .u32 0), (1, .int .u32 1), (2, .int .u32 5)]) (v := .agg #[.int .u32 0, .int .u32 1, .int .u32 5]) S rfl rfl (fun w => by kernel_rfl)) rfl rfl rfl fun a S => ?_
  refine r_lit (vs := #[(0, .agg #[.int .u32 0, .int .u32 1, .int .u32 5])]) (cs := ecells [⟨0, 1, 5⟩]) S H rfl rfl el33 (by kernel_rfl) (by decide) (by rfl) rfl rfl rfl fun a w b1 S H => ?_
  refine r_y S H (y_build (vs := #[(0, .int .i64 2), (1, .slice (some ⟨b1, 0, none⟩) 1 1)]) (v := .agg #[.int .i64 2, .slice (some ⟨b1, 0, none⟩) 1 1]) S rfl rfl (fun w => by kernel_rfl)) rfl rfl rfl fun a S => ?_
  refine r_alloc S H rfl Try.zeroValue35 rfl rfl rfl rfl fun a w b2 S H => ?_
  refine r_store (vs := [.int .i64 2, .slice (some ⟨b1, 0, none⟩) 1 1]) 0 S H rfl rfl rfl rfl Try.sizeOf35 rfl rfl (by simp [Value.oneCell']) rfl rfl rfl rfl rfl fun w H => ?_
  refine r_nil ?_
  refine x_then ?_
  refine r_seq ?_
  refine r_region ?_
  refine r_y S H (y_build (vs := #[(0, .int .i64 1)]) (v := .agg #[.int .i64 1, .int .u32 0]) S rfl rfl (fun w => by kernel_rfl)) rfl rfl rfl fun a S => ?_
  refine r_y S H (y_loadAgg [_, _] 0 S rfl rfl (fun w => ⟨Try.isAgg35 w, Try.sizeOf35 w⟩) rfl rfl ⟨rfl, rfl, trivial⟩) rfl rfl rfl fun a S => ?_
  refine r_call (args := #[.agg #[.int .i64 1, .int .u32 0], .agg #[.int .i64 2, .slice (some ⟨b1, 0, none⟩) 1 1], .int .i64 1]) S rfl rfl Try.call24 (trace_ct (H := H) _ _ 1 0 (by omega) 2 _ _ [⟨0, 1, 5⟩] (SlOk.ofRow (i := 1) H rfl) shown_es shown_ew 1 (by omega)) rfl rfl rfl fun v a w hR S => ?_
  obtain ⟨A3, c4, A5, c6, rfl, H⟩ := hR
  rw [shown_1] at H S; rw [shown_m1] at S
  replace H : Sat _ (row 25 1 (.slice A3 2 c4) 2 (u64s [0, 1]) :: row 4 1 (.slice A5 2 c6) 2 (bools [false, true]) :: blk b2 (.cells #[.int .i64 2, .slice (some ⟨b1, 0, none⟩) 1 1] 35) :: row 47 3 (.slice (some ⟨b1, 0, none⟩) 1 1) 1 (ecells [⟨0, 1, 5⟩]) :: fr) := H
  have S := S.retell (v' := .tuple #[.agg #[.slice A3 2 c4, .slice A5 2 c6], .int .i64 0]) 14 rfl rfl
  refine r_y S H (y_move S rfl rfl) rfl rfl rfl fun a S => ?_
  refine r_y S H (y_extract (v := .agg #[.slice A3 2 c4, .slice A5 2 c6]) S rfl rfl rfl) rfl rfl rfl fun a S => ?_
  refine r_y S H (y_extract (v := .int .i64 0) S rfl rfl rfl) rfl rfl rfl fun a S => ?_
  refine r_alloc S H rfl Try.zeroValue40 rfl rfl rfl rfl fun a w b7 S H => ?_
  refine r_store (vs := [.slice A3 2 c4, .slice A5 2 c6]) 0 S H rfl rfl rfl rfl Try.sizeOf40 rfl rfl (by simp [Value.oneCell']) rfl rfl rfl rfl rfl fun w H => ?_
  refine r_y S H (y_assign S rfl rfl) rfl rfl rfl fun a S => ?_
  refine r_nil ?_
  refine x_then ?_
  refine r_seq ?_
  refine r_region ?_
  refine r_y S H (y_build (vs := #[(0, .int .i64 3)]) (v := .agg #[.int .i64 3, .int .u32 0]) S rfl rfl (fun w => by kernel_rfl)) rfl rfl rfl fun a S => ?_
  refine r_y S H (y_loadAgg [_, _] 3 S rfl rfl (fun w => ⟨Try.isAgg35 w, Try.sizeOf35 w⟩) rfl rfl ⟨rfl, rfl, trivial⟩) rfl rfl rfl fun a S => ?_
  refine r_call (args := #[.agg #[.int .i64 3, .int .u32 0], .agg #[.int .i64 2, .slice (some ⟨b1, 0, none⟩) 1 1], .int .i64 9]) S rfl rfl Try.call24 (trace_ct (H := H) _ _ 3 0 (by omega) 2 _ _ [⟨0, 1, 5⟩] (SlOk.ofRow (i := 4) H rfl) shown_es shown_ew 9 (by omega)) rfl rfl rfl fun v a w hR S => ?_
  obtain ⟨A8, c9, A10, c11, rfl, H⟩ := hR
  rw [shown_3] at H S; rw [shown_m3] at S
  replace H : Sat _ (row 25 1 (.slice A8 2 c9) 2 (u64s [0, 5]) :: row 4 1 (.slice A10 2 c11) 2 (bools [false, false]) :: blk b7 (.cells #[.slice A3 2 c4, .slice A5 2 c6] 40) :: row 25 1 (.slice A3 2 c4) 2 (u64s [0, 1]) :: row 4 1 (.slice A5 2 c6) 2 (bools [false, true]) :: blk b2 (.cells #[.int .i64 2, .slice (some ⟨b1, 0, none⟩) 1 1] 35) :: row 47 3 (.slice (some ⟨b1, 0, none⟩) 1 1) 1 (ecells [⟨0, 1, 5⟩]) :: fr) := H
  have S := S.retell (v' := .tuple #[.agg #[.slice A8 2 c9, .slice A10 2 c11], .int .i64 0]) 20 rfl rfl
  refine r_y S H (y_move S rfl rfl) rfl rfl rfl fun a S => ?_
  refine r_y S H (y_extract (v := .agg #[.slice A8 2 c9, .slice A10 2 c11]) S rfl rfl rfl) rfl rfl rfl fun a S => ?_
  refine r_y S H (y_extract (v := .int .i64 0) S rfl rfl rfl) rfl rfl rfl fun a S => ?_
  refine r_alloc S H rfl Try.zeroValue40 rfl rfl rfl rfl fun a w b12 S H => ?_
  refine r_store (vs := [.slice A8 2 c9, .slice A10 2 c11]) 0 S H rfl rfl rfl rfl Try.sizeOf40 rfl rfl (by simp [Value.oneCell']) rfl rfl rfl rfl rfl fun w H => ?_
  refine r_y S H (y_assign S rfl rfl) rfl rfl rfl fun a S => ?_
  refine r_nil ?_
  refine x_then ?_
  refine r_seq ?_
  refine r_region ?_
  refine r_y S H (y_build (vs := #[(0, .int .i64 1), (1, .int .u32 2)]) (v := .agg #[.int .i64 1, .int .u32 2]) S rfl rfl (fun w => by kernel_rfl)) rfl rfl rfl fun a S => ?_
  refine r_y S H (y_loadAgg [_, _] 6 S rfl rfl (fun w => ⟨Try.isAgg35 w, Try.sizeOf35 w⟩) rfl rfl ⟨rfl, rfl, trivial⟩) rfl rfl rfl fun a S => ?_
  refine r_call (args := #[.agg #[.int .i64 1, .int .u32 2], .agg #[.int .i64 2, .slice (some ⟨b1, 0, none⟩) 1 1]]) S rfl rfl Try.call29 (start_ct (H := H) _ _ 1 2 (by omega) 2 _ _ [⟨0, 1, 5⟩] (SlOk.ofRow (i := 7) H rfl) shown_es ) rfl rfl rfl fun v a w hR S => ?_
  obtain ⟨A13, c14, A15, c16, rfl, H⟩ := hR
  rw [shown_2] at H S; rw [shown_m2] at S
  replace H : Sat _ (row 25 1 (.slice A13 0 c14) 0 (u64s []) :: row 4 1 (.slice A15 0 c16) 0 (bools []) :: blk b12 (.cells #[.slice A8 2 c9, .slice A10 2 c11] 40) :: row 25 1 (.slice A8 2 c9) 2 (u64s [0, 5]) :: row 4 1 (.slice A10 2 c11) 2 (bools [false, false]) :: blk b7 (.cells #[.slice A3 2 c4, .slice A5 2 c6] 40) :: row 25 1 (.slice A3 2 c4) 2 (u64s [0, 1]) :: row 4 1 (.slice A5 2 c6) 2 (bools [false, true]) :: blk b2 (.cells #[.int .i64 2, .slice (some ⟨b1, 0, none⟩) 1 1] 35) :: row 47 3 (.slice (some ⟨b1, 0, none⟩) 1 1) 1 (ecells [⟨0, 1, 5⟩]) :: fr) := H
  have S := S.retell (v' := .tuple #[.agg #[.slice A13 0 c14, .slice A15 0 c16], .int .i64 1]) 26 rfl rfl
  refine r_y S H (y_move S rfl rfl) rfl rfl rfl fun a S => ?_
  refine r_y S H (y_extract (v := .agg #[.slice A13 0 c14, .slice A15 0 c16]) S rfl rfl rfl) rfl rfl rfl fun a S => ?_
  refine r_y S H (y_extract (v := .int .i64 1) S rfl rfl rfl) rfl rfl rfl fun a S => ?_
  refine r_alloc S H rfl Try.zeroValue40 rfl rfl rfl rfl fun a w b17 S H => ?_
  refine r_store (vs := [.slice A13 0 c14, .slice A15 0 c16]) 0 S H rfl rfl rfl rfl Try.sizeOf40 rfl rfl (by simp [Value.oneCell']) rfl rfl rfl rfl rfl fun w H => ?_
  refine r_y S H (y_assign S rfl rfl) rfl rfl rfl fun a S => ?_
  refine r_nil ?_
  refine x_then ?_
  refine r_seq ?_
  refine wp_via (J := fun a w => Slots a 84 [(0, .bool true), (1, .pointer (some ⟨b2, 0, none⟩)), (2, .pointer (some ⟨b7, 0, none⟩)), (3, .int .i64 0), (4, .pointer (some ⟨b12, 0, none⟩)), (5, .int .i64 0), (6, .pointer (some ⟨b17, 0, none⟩)), (7, .int .i64 1), (8, .agg #[.int .u32 0, .int .u32 1, .int .u32 5]), (9, .slice (some ⟨b1, 0, none⟩) 1 1), (10, .agg #[.int .i64 2, .slice (some ⟨b1, 0, none⟩) 1 1]), (11, .tuple #[.agg #[.slice A3 2 c4, .slice A5 2 c6], .int .i64 0]), (12, .agg #[.int .i64 1, .int .u32 0]), (13, .agg #[.int .i64 2, .slice (some ⟨b1, 0, none⟩) 1 1]), (14, .tuple #[.agg #[.slice A3 2 c4, .slice A5 2 c6], .int .i64 0]), (15, .agg #[.slice A3 2 c4, .slice A5 2 c6]), (16, .int .i64 0), (17, .tuple #[.agg #[.slice A8 2 c9, .slice A10 2 c11], .int .i64 0]), (18, .agg #[.int .i64 3, .int .u32 0]), (19, .agg #[.int .i64 2, .slice (some ⟨b1, 0, none⟩) 1 1]), (20, .tuple #[.agg #[.slice A8 2 c9, .slice A10 2 c11], .int .i64 0]), (21, .agg #[.slice A8 2 c9, .slice A10 2 c11]), (22, .int .i64 0), (23, .tuple #[.agg #[.slice A13 0 c14, .slice A15 0 c16], .int .i64 1]), (24, .agg #[.int .i64 1, .int .u32 2]), (25, .agg #[.int .i64 2, .slice (some ⟨b1, 0, none⟩) 1 1]), (26, .tuple #[.agg #[.slice A13 0 c14, .slice A15 0 c16], .int .i64 1]), (27, .agg #[.slice A13 0 c14, .slice A15 0 c16]), (28, .int .i64 1)] ∧ Sat w (blk b17 (.cells #[.slice A13 0 c14, .slice A15 0 c16] 40) :: row 25 1 (.slice A13 0 c14) 0 (u64s []) :: row 4 1 (.slice A15 0 c16) 0 (bools []) :: blk b12 (.cells #[.slice A8 2 c9, .slice A10 2 c11] 40) :: row 25 1 (.slice A8 2 c9) 2 (u64s [0, 5]) :: row 4 1 (.slice A10 2 c11) 2 (bools [false, false]) :: blk b7 (.cells #[.slice A3 2 c4, .slice A5 2 c6] 40) :: row 25 1 (.slice A3 2 c4) 2 (u64s [0, 1]) :: row 4 1 (.slice A5 2 c6) 2 (bools [false, true]) :: blk b2 (.cells #[.int .i64 2, .slice (some ⟨b1, 0, none⟩) 1 1] 35) :: row 47 3 (.slice (some ⟨b1, 0, none⟩) 1 1) 1 (ecells [⟨0, 1, 5⟩]) :: fr)) ?_ (fun a w hm => ?_)
  · skip
    refine r_region ?_
    refine r_y S H (y_move S rfl rfl) rfl rfl rfl fun a S => ?_
    refine r_y S H (y_eq S rfl rfl rfl) rfl rfl rfl fun a S => ?_
    refine r_y S H (y_move S rfl rfl) rfl rfl rfl fun a S => ?_
    refine r_y S H (y_fieldAddr S rfl rfl fa40_0) rfl rfl rfl fun a S => ?_
    refine r_y S H (y_load 6 S rfl rfl Try.isAgg37 rfl rfl) rfl rfl rfl fun a S => ?_
    refine r_y S H (y_len S rfl rfl Try.underlying37) rfl rfl rfl fun a S => ?_
    refine r_y S H (y_eq S rfl rfl rfl) rfl rfl rfl fun a S => ?_
    refine r_y S H (y_pickT S rfl rfl rfl) rfl rfl rfl fun a S => ?_
    refine r_y S H (y_move S rfl rfl) rfl rfl rfl fun a S => ?_
    refine r_y S H (y_fieldAddr S rfl rfl fa40_0) rfl rfl rfl fun a S => ?_
    refine r_y S H (y_load 6 S rfl rfl Try.isAgg37 rfl rfl) rfl rfl rfl fun a S => ?_
    obtain ⟨b24, rfl⟩ := H.rowAt (i := 7) rfl (by first | omega | (simp <;> omega))
    refine r_y S H (y_index S rfl rfl rfl Try.underlying37 Try.sizeOf25 (by omega) (by omega)) rfl rfl rfl fun a S => ?_
    refine r_y S H (y_loadAt S rfl rfl Try.isAgg25 (fun w H => (SlOk.ofRow (i := 7) H rfl).cell w H (u64s_at (l := [0, 1]) (i := 1) (by decide)))) rfl rfl rfl fun a S => ?_
    refine r_y S H (y_eq S rfl rfl rfl) rfl rfl rfl fun a S => ?_
    refine r_y S H (y_pickT S rfl rfl rfl) rfl rfl rfl fun a S => ?_
    refine r_y S H (y_move S rfl rfl) rfl rfl rfl fun a S => ?_
    refine r_y S H (y_fieldAddr S rfl rfl fa40_1) rfl rfl rfl fun a S => ?_
    refine r_y S H (y_load 6 S rfl rfl Try.isAgg38 rfl rfl) rfl rfl rfl fun a S => ?_
    obtain ⟨b26, rfl⟩ := H.rowAt (i := 8) rfl (by first | omega | (simp <;> omega))
    refine r_y S H (y_index S rfl rfl rfl Try.underlying38 Try.sizeOf4 (by omega) (by omega)) rfl rfl rfl fun a S => ?_
    refine r_y S H (y_loadAt S rfl rfl Try.isAgg4 (fun w H => (SlOk.ofRow (i := 8) H rfl).cell w H (bools_at (l := [false, true]) (i := 1) (by decide)))) rfl rfl rfl fun a S => ?_
    refine r_y S H (y_pickT S rfl rfl rfl) rfl rfl rfl fun a S => ?_
    refine r_y S H (y_move S rfl rfl) rfl rfl rfl fun a S => ?_
    refine r_y S H (y_loadAgg [_, _] 6 S rfl rfl (fun w => ⟨Try.isAgg40 w, Try.sizeOf40 w⟩) rfl rfl ⟨rfl, rfl, trivial⟩) rfl rfl rfl fun a S => ?_
    refine r_call (args := #[.agg #[.slice (some ⟨b24, 0, none⟩) 2 c4, .slice (some ⟨b26, 0, none⟩) 2 c6]]) S rfl rfl Try.call25 (quiet_ct (H := H) _ _ _ _ ([0, 1]) (SlOk.ofRow (i := 7) H rfl) _ _ ([false, true]) (SlOk.ofRow (i := 8) H rfl)) rfl rfl rfl fun v a w hR S => ?_
    obtain ⟨rfl, H⟩ := hR
    refine r_y S H (y_not S rfl rfl) rfl rfl rfl fun a S => ?_
    refine r_y S H (y_pickT S rfl rfl rfl) rfl rfl rfl fun a S => ?_
    refine r_y S H (y_move S rfl rfl) rfl rfl rfl fun a S => ?_
    refine r_y S H (y_move S rfl rfl) rfl rfl rfl fun a S => ?_
    refine r_y S H (y_eq S rfl rfl rfl) rfl rfl rfl fun a S => ?_
    refine r_y S H (y_pickT S rfl rfl rfl) rfl rfl rfl fun a S => ?_
    refine r_y S H (y_move S rfl rfl) rfl rfl rfl fun a S => ?_
    refine r_y S H (y_fieldAddr S rfl rfl fa40_0) rfl rfl rfl fun a S => ?_
    refine r_y S H (y_load 3 S rfl rfl Try.isAgg37 rfl rfl) rfl rfl rfl fun a S => ?_
    refine r_y S H (y_len S rfl rfl Try.underlying37) rfl rfl rfl fun a S => ?_
    refine r_y S H (y_eq S rfl rfl rfl) rfl rfl rfl fun a S => ?_
    refine r_y S H (y_pickT S rfl rfl rfl) rfl rfl rfl fun a S => ?_
    refine r_y S H (y_move S rfl rfl) rfl rfl rfl fun a S => ?_
    refine r_y S H (y_fieldAddr S rfl rfl fa40_0) rfl rfl rfl fun a S => ?_
    refine r_y S H (y_load 3 S rfl rfl Try.isAgg37 rfl rfl) rfl rfl rfl fun a S => ?_
    obtain ⟨b28, rfl⟩ := H.rowAt (i := 4) rfl (by first | omega | (simp <;> omega))
    refine r_y S H (y_index S rfl rfl rfl Try.underlying37 Try.sizeOf25 (by omega) (by omega)) rfl rfl rfl fun a S => ?_
    refine r_y S H (y_loadAt S rfl rfl Try.isAgg25 (fun w H => (SlOk.ofRow (i := 4) H rfl).cell w H (u64s_at (l := [0, 5]) (i := 1) (by decide)))) rfl rfl rfl fun a S => ?_
    refine r_y S H (y_eq S rfl rfl rfl) rfl rfl rfl fun a S => ?_
    refine r_y S H (y_pickT S rfl rfl rfl) rfl rfl rfl fun a S => ?_
    refine r_y S H (y_move S rfl rfl) rfl rfl rfl fun a S => ?_
    refine r_y S H (y_loadAgg [_, _] 3 S rfl rfl (fun w => ⟨Try.isAgg40 w, Try.sizeOf40 w⟩) rfl rfl ⟨rfl, rfl, trivial⟩) rfl rfl rfl fun a S => ?_
    refine r_call (args := #[.agg #[.slice (some ⟨b28, 0, none⟩) 2 c9, .slice A10 2 c11]]) S rfl rfl Try.call25 (quiet_ct (H := H) _ _ _ _ ([0, 5]) (SlOk.ofRow (i := 4) H rfl) _ _ ([false, false]) (SlOk.ofRow (i := 5) H rfl)) rfl rfl rfl fun v a w hR S => ?_
    obtain ⟨rfl, H⟩ := hR
    refine r_y S H (y_pickT S rfl rfl rfl) rfl rfl rfl fun a S => ?_
    refine r_y S H (y_move S rfl rfl) rfl rfl rfl fun a S => ?_
    refine r_y S H (y_move S rfl rfl) rfl rfl rfl fun a S => ?_
    refine r_y S H (y_eq S rfl rfl rfl) rfl rfl rfl fun a S => ?_
    refine r_y S H (y_pickT S rfl rfl rfl) rfl rfl rfl fun a S => ?_
    refine r_y S H (y_move S rfl rfl) rfl rfl rfl fun a S => ?_
    refine r_y S H (y_pickT S rfl rfl rfl) rfl rfl rfl fun a S => ?_
    refine r_y S H (y_move S rfl rfl) rfl rfl rfl fun a S => ?_
    refine r_y S H (y_pickT S rfl rfl rfl) rfl rfl rfl fun a S => ?_
    refine r_y S H (y_assign S rfl rfl) rfl rfl rfl fun a S => ?_
    refine r_nil ?_
    refine x_then ?_
    exact ⟨S.sub ⟨rfl, rfl, rfl, rfl, rfl, rfl, rfl, rfl, rfl, rfl, rfl, rfl, rfl, rfl, rfl, rfl, rfl, rfl, rfl, rfl, rfl, rfl, rfl, rfl, rfl, rfl, rfl, rfl, rfl, trivial⟩, H⟩
  obtain ⟨S, H⟩ := hm
  refine x_then ?_
  refine wp_ret ?_
  refine r_ret1 S H Try.results14 (ro_tmp S rfl) ?_
  exact ⟨rfl, H.drop.drop.drop.drop.drop.drop.drop.drop.drop.drop.drop⟩

set_option maxRecDepth 4000 in
theorem law_parts (w : World) (fr : List Res) (k : Int) (s x y : Nat) (b : Bool) (o : Int) (ew : Nat) (n : Int) (hs : s < 4294967296) (hx : x < 18446744073709551616) (hy : y < 18446744073709551616) (ho : -9223372036854775808 ≤ o ∧ o < 9223372036854775808) (hew : ew < 4294967296) (H : Sat w (fr)) :
    Rt Try.prog 3 #[.agg #[.int .i64 k, .int .u32 ((s : Nat) : Int)], .int .u64 ((x : Nat) : Int), .int .u64 ((y : Nat) : Int), .bool b, .int .i64 o, .int .u32 ((ew : Nat) : Int), .int .i64 n] w fun v w' => v = .bool true ∧ Sat w' fr := by
  refine rt_enter Try.func3 rfl (n := 84) Try.ntmps3 rfl fun a S => ?_
  refine r_seq ?_
  refine r_region ?_
  refine r_box (c := #[.int .i64 k, .int .u32 ((s : Nat) : Int)]) S H rfl rfl rfl rfl rfl rfl fun a w b1 S H => ?_
  refine r_y S H (y_assign S rfl rfl) rfl rfl rfl fun a S => ?_
  refine r_nil ?_
  refine x_then ?_
  refine r_seq ?_
  refine r_region ?_
  refine r_call (args := #[]) S rfl rfl Try.call14 (shown_ct (H := H) _ _) rfl rfl rfl fun v a w hR S => ?_
  obtain ⟨rfl, H⟩ := hR
  refine r_y S H (y_assign S rfl rfl) rfl rfl rfl fun a S => ?_
  refine r_nil ?_
  refine x_then ?_
  refine r_seq ?_
  refine r_seq ?_
  refine r_quiet (n := 84) (E' := [(0, .agg #[.int .i64 k, .int .u32 ((s : Nat) : Int)]), (1, .int .u64 ((x : Nat) : Int)), (2, .int .u64 ((y : Nat) : Int)), (3, .bool b), (4, .int .i64 o), (5, .int .u32 ((ew : Nat) : Int)), (6, .int .i64 n), (7, .pointer (some ⟨b1, 0, none⟩)), (14, .bool false), (15, .bool true), (20, .bool true), (27, .bool ((right k s n) != (right k s n)))]) H rfl (by kernel_rfl) ?_ (fun a w S H => ?_)
  · skip
    refine q_y S (y_loadAgg [_, _] 0 S rfl rfl (fun w => ⟨Try.isAgg24 w, Try.sizeOf24 w⟩) rfl rfl ⟨rfl, rfl, trivial⟩) rfl rfl rfl fun a S => ?_
    refine q_y S (y_move S rfl rfl) rfl rfl rfl fun a S => ?_
    refine q_call (args := #[.agg #[.int .i64 k, .int .u32 ((s : Nat) : Int)], .int .i64 n]) S rfl rfl Try.call15 (fun w H => right_ct (H := H) _ _ k s n (by omega)) rfl rfl rfl fun a S => ?_
    refine q_y S (y_loadAgg [_, _] 0 S rfl rfl (fun w => ⟨Try.isAgg24 w, Try.sizeOf24 w⟩) rfl rfl ⟨rfl, rfl, trivial⟩) rfl rfl rfl fun a S => ?_
    refine q_y S (y_move S rfl rfl) rfl rfl rfl fun a S => ?_
    refine q_call (args := #[.agg #[.int .i64 k, .int .u32 ((s : Nat) : Int)], .int .i64 n]) S rfl rfl Try.call16 (fun w H => rright_ct (H := H) _ _ k s n (by omega)) rfl rfl rfl fun a S => ?_
    refine q_y S (y_neB S rfl rfl rfl Try.underlying4) rfl rfl rfl fun a S => ?_
    exact q_nil (S.sub ⟨rfl, rfl, rfl, rfl, rfl, rfl, rfl, rfl, rfl, rfl, rfl, rfl, trivial⟩)
  · skip
    refine x_then ?_
    refine r_cond S rfl (fun h27 => ?_) (fun h27 => ?_)
    · skip
      exfalso; simp at h27
    · skip
      refine wp_skip ?_
      refine x_then ?_
      refine r_seq ?_
      refine r_seq ?_
      refine wp_via (J := fun a w => Slots a 84 [(0, .agg #[.int .i64 k, .int .u32 ((s : Nat) : Int)]), (1, .int .u64 ((x : Nat) : Int)), (2, .int .u64 ((y : Nat) : Int)), (3, .bool b), (4, .int .i64 o), (5, .int .u32 ((ew : Nat) : Int)), (6, .int .i64 n), (7, .pointer (some ⟨b1, 0, none⟩)), (14, .bool false), (15, .bool true), (20, .bool true), (27, .bool ((right k s n) != (right k s n))), (35, .bool ((decide (k < 1)) || (decide (5 < k))))] ∧ Sat w (blk b1 (.cells #[.int .i64 k, .int .u32 ((s : Nat) : Int)] 24) :: fr)) ?_ (fun a w hm => ?_)
      · skip
        refine r_region ?_
        refine r_y S H (y_fieldAddr S rfl rfl fa24_0) rfl rfl rfl fun a S => ?_
        refine r_y S H (y_load 0 S rfl rfl Try.isAgg3 rfl rfl) rfl rfl rfl fun a S => ?_
        refine r_y S H (y_lt S rfl rfl rfl) rfl rfl rfl fun a S => ?_
        refine r_y S H (y_move S rfl rfl) rfl rfl rfl fun a S => ?_
        refine splitP S (d := 31) rfl (fun g31 S => ?_) (fun g31 S => ?_)
        · skip
          refine r_skip S rfl rfl rfl fun a S => ?_
          refine r_skip S rfl rfl rfl fun a S => ?_
          refine r_skip S rfl rfl rfl fun a S => ?_
          refine r_y S H (y_pickT S rfl rfl rfl) rfl rfl rfl fun a S => ?_
          refine r_nil ?_
          refine x_then ?_
          exact ⟨S.sub ⟨rfl, rfl, rfl, rfl, rfl, rfl, rfl, rfl, rfl, rfl, rfl, rfl, (show lk _ _ = some (.bool true) from rfl).trans (by first | (simp only [g31, decide_true, decide_false, Bool.true_and, Bool.false_and, Bool.true_or, Bool.false_or]; done) | (simp [-List.getD_eq_getElem?_getD, g31]; done) | (simp [-List.getD_eq_getElem?_getD, g31]; omega)), trivial⟩, H⟩
        · skip
          refine r_y S H (y_fieldAddr S rfl rfl fa24_0) rfl rfl rfl fun a S => ?_
          refine r_y S H (y_load 0 S rfl rfl Try.isAgg3 rfl rfl) rfl rfl rfl fun a S => ?_
          refine r_y S H (y_gt S rfl rfl rfl) rfl rfl rfl fun a S => ?_
          refine r_y S H (y_pickF S rfl rfl rfl) rfl rfl rfl fun a S => ?_
          refine r_nil ?_
          refine x_then ?_
          exact ⟨S.sub ⟨rfl, rfl, rfl, rfl, rfl, rfl, rfl, rfl, rfl, rfl, rfl, rfl, (show lk _ _ = some (.bool (decide (5 < k))) from rfl).trans (by first | (simp only [g31, decide_true, decide_false, Bool.true_and, Bool.false_and, Bool.true_or, Bool.false_or]; done) | (simp [-List.getD_eq_getElem?_getD, g31]; done) | (simp [-List.getD_eq_getElem?_getD, g31]; omega)), trivial⟩, H⟩
      obtain ⟨S, H⟩ := hm
      refine x_then ?_
      refine r_cond S rfl (fun h35 => ?_) (fun h35 => ?_)
      · skip
        refine r_seq ?_
        refine r_region ?_
        refine r_y S H (y_move S rfl rfl) rfl rfl rfl fun a S => ?_
        refine r_y S H (y_assign S rfl rfl) rfl rfl rfl fun a S => ?_
        refine r_nil ?_
        refine x_then ?_
        refine wp_ret ?_
        refine x_thenRet ?_
        refine r_ret1 S H Try.results3 (ro_tmp S rfl) ?_
        refine ⟨congrArg Value.bool ?_, H.drop⟩
        simp
      · skip
        refine wp_skip ?_
        refine x_then ?_
        refine r_seq ?_
        refine r_region ?_
        refine r_y S H (y_loadAgg [_, _] 0 S rfl rfl (fun w => ⟨Try.isAgg24 w, Try.sizeOf24 w⟩) rfl rfl ⟨rfl, rfl, trivial⟩) rfl rfl rfl fun a S => ?_
        refine r_y S H (y_move S rfl rfl) rfl rfl rfl fun a S => ?_
        refine r_y S H (y_move S rfl rfl) rfl rfl rfl fun a S => ?_
        refine r_y S H (y_move S rfl rfl) rfl rfl rfl fun a S => ?_
        refine r_call (args := #[.agg #[.int .i64 k, .int .u32 ((s : Nat) : Int)], .int .u64 ((x : Nat) : Int), .int .u64 ((y : Nat) : Int), .bool b]) S rfl rfl Try.call17 (next_ct (H := H) _ _ k s x y b (by omega) (by omega)) rfl rfl rfl fun v a w hR S => ?_
        obtain ⟨rfl, H⟩ := hR
        refine r_y S H (y_move S rfl rfl) rfl rfl rfl fun a S => ?_
        refine r_y S H (y_extract (v := .int .u64 (((nxt k x y b).1 : Nat) : Int)) S rfl rfl rfl) rfl rfl rfl fun a S => ?_
        refine r_y S H (y_extract (v := .bool ((nxt k x y b).2)) S rfl rfl rfl) rfl rfl rfl fun a S => ?_
        refine r_y S H (y_assign S rfl rfl) rfl rfl rfl fun a S => ?_
        refine r_y S H (y_assign S rfl rfl) rfl rfl rfl fun a S => ?_
        refine r_nil ?_
        refine x_then ?_
        refine r_seq ?_
        refine r_region ?_
        refine r_y S H (y_loadAgg [_, _] 0 S rfl rfl (fun w => ⟨Try.isAgg24 w, Try.sizeOf24 w⟩) rfl rfl ⟨rfl, rfl, trivial⟩) rfl rfl rfl fun a S => ?_
        refine r_y S H (y_move S rfl rfl) rfl rfl rfl fun a S => ?_
        refine r_y S H (y_move S rfl rfl) rfl rfl rfl fun a S => ?_
        refine r_y S H (y_move S rfl rfl) rfl rfl rfl fun a S => ?_
        refine r_call (args := #[.agg #[.int .i64 k, .int .u32 ((s : Nat) : Int)], .int .u64 ((x : Nat) : Int), .int .u64 ((y : Nat) : Int), .bool b]) S rfl rfl Try.call18 (rnext_ct (H := H) _ _ k s x y b (by omega) (by omega)) rfl rfl rfl fun v a w hR S => ?_
        obtain ⟨rfl, H⟩ := hR
        refine r_y S H (y_move S rfl rfl) rfl rfl rfl fun a S => ?_
        refine r_y S H (y_extract (v := .int .u64 (((nxt k x y b).1 : Nat) : Int)) S rfl rfl rfl) rfl rfl rfl fun a S => ?_
        refine r_y S H (y_extract (v := .bool ((nxt k x y b).2)) S rfl rfl rfl) rfl rfl rfl fun a S => ?_
        refine r_y S H (y_assign S rfl rfl) rfl rfl rfl fun a S => ?_
        refine r_y S H (y_assign S rfl rfl) rfl rfl rfl fun a S => ?_
        refine r_nil ?_
        refine x_then ?_
        refine r_seq ?_
        refine r_quiet (n := 84) (E' := [(0, .agg #[.int .i64 k, .int .u32 ((s : Nat) : Int)]), (1, .int .u64 ((x : Nat) : Int)), (2, .int .u64 ((y : Nat) : Int)), (3, .bool b), (4, .int .i64 o), (5, .int .u32 ((ew : Nat) : Int)), (6, .int .i64 n), (7, .pointer (some ⟨b1, 0, none⟩)), (14, .bool ((((decide ((if summed k then 1 else 2) = (if summed k then 1 else 2))) && (decide (((msg k x o ew : Nat) : Int) = ((msg k x o ew : Nat) : Int)))) && (decide ((((nxt k x y b).1 : Nat) : Int) = (((nxt k x y b).1 : Nat) : Int)))) && (((nxt k x y b).2) == ((nxt k x y b).2)))), (15, .bool true), (16, .int .u64 (((nxt k x y b).1 : Nat) : Int)), (17, .bool ((nxt k x y b).2)), (18, .int .u64 (((nxt k x y b).1 : Nat) : Int)), (19, .bool ((nxt k x y b).2)), (20, .bool true), (27, .bool ((right k s n) != (right k s n))), (35, .bool ((decide (k < 1)) || (decide (5 < k)))), (37, .tuple #[.int .u64 (((nxt k x y b).1 : Nat) : Int), .bool ((nxt k x y b).2)]), (38, .agg #[.int .i64 k, .int .u32 ((s : Nat) : Int)]), (39, .int .u64 ((x : Nat) : Int)), (40, .int .u64 ((y : Nat) : Int)), (41, .bool b), (42, .tuple #[.int .u64 (((nxt k x y b).1 : Nat) : Int), .bool ((nxt k x y b).2)]), (43, .int .u64 (((nxt k x y b).1 : Nat) : Int)), (44, .bool ((nxt k x y b).2)), (45, .tuple #[.int .u64 (((nxt k x y b).1 : Nat) : Int), .bool ((nxt k x y b).2)]), (46, .agg #[.int .i64 k, .int .u32 ((s : Nat) : Int)]), (47, .int .u64 ((x : Nat) : Int)), (48, .int .u64 ((y : Nat) : Int)), (49, .bool b), (50, .tuple #[.int .u64 (((nxt k x y b).1 : Nat) : Int), .bool ((nxt k x y b).2)]), (51, .int .u64 (((nxt k x y b).1 : Nat) : Int)), (52, .bool ((nxt k x y b).2))]) H rfl (by kernel_rfl) ?_ (fun a w S H => ?_)
        · skip
          refine q_y S (y_move S rfl rfl) rfl rfl rfl fun a S => ?_
          refine q_y S (y_move S rfl rfl) rfl rfl rfl fun a S => ?_
          refine q_y S (y_loadAgg [_, _] 0 S rfl rfl (fun w => ⟨Try.isAgg24 w, Try.sizeOf24 w⟩) rfl rfl ⟨rfl, rfl, trivial⟩) rfl rfl rfl fun a S => ?_
          refine q_call (args := #[.agg #[.int .i64 k, .int .u32 ((s : Nat) : Int)]]) S rfl rfl Try.call19 (fun w H => how_ct (H := H) _ _ k s) rfl rfl rfl fun a S => ?_
          refine q_y S (y_loadAgg [_, _] 0 S rfl rfl (fun w => ⟨Try.isAgg24 w, Try.sizeOf24 w⟩) rfl rfl ⟨rfl, rfl, trivial⟩) rfl rfl rfl fun a S => ?_
          refine q_call (args := #[.agg #[.int .i64 k, .int .u32 ((s : Nat) : Int)]]) S rfl rfl Try.call20 (fun w H => rhow_ct (H := H) _ _ k s) rfl rfl rfl fun a S => ?_
          refine q_y S (y_eq S rfl rfl rfl) rfl rfl rfl fun a S => ?_
          have S := S.retell (v' := .bool true) 59 rfl (by simp)
          refine q_y S (y_pickT S rfl rfl rfl) rfl rfl rfl fun a S => ?_
          refine q_y S (y_move S rfl rfl) rfl rfl rfl fun a S => ?_
          refine q_y S (y_loadAgg [_, _] 0 S rfl rfl (fun w => ⟨Try.isAgg24 w, Try.sizeOf24 w⟩) rfl rfl ⟨rfl, rfl, trivial⟩) rfl rfl rfl fun a S => ?_
          refine q_y S (y_move S rfl rfl) rfl rfl rfl fun a S => ?_
          refine q_y S (y_move S rfl rfl) rfl rfl rfl fun a S => ?_
          refine q_y S (y_move S rfl rfl) rfl rfl rfl fun a S => ?_
          refine q_call (args := #[.agg #[.int .i64 k, .int .u32 ((s : Nat) : Int)], .int .u64 ((x : Nat) : Int), .int .i64 o, .int .u32 ((ew : Nat) : Int)]) S rfl rfl Try.call21 (fun w H => message_ct (H := H) _ _ k s x o ew (by omega) (by omega) (by omega)) rfl rfl rfl fun a S => ?_
          refine q_y S (y_loadAgg [_, _] 0 S rfl rfl (fun w => ⟨Try.isAgg24 w, Try.sizeOf24 w⟩) rfl rfl ⟨rfl, rfl, trivial⟩) rfl rfl rfl fun a S => ?_
          refine q_y S (y_move S rfl rfl) rfl rfl rfl fun a S => ?_
          refine q_y S (y_move S rfl rfl) rfl rfl rfl fun a S => ?_
          refine q_y S (y_move S rfl rfl) rfl rfl rfl fun a S => ?_
          refine q_call (args := #[.agg #[.int .i64 k, .int .u32 ((s : Nat) : Int)], .int .u64 ((x : Nat) : Int), .int .i64 o, .int .u32 ((ew : Nat) : Int)]) S rfl rfl Try.call22 (fun w H => rmessage_ct (H := H) _ _ k s x o ew (by omega) (by omega) (by omega)) rfl rfl rfl fun a S => ?_
          refine q_y S (y_eq S rfl rfl rfl) rfl rfl rfl fun a S => ?_
          have S := S.retell (v' := .bool true) 72 rfl (by simp)
          refine q_y S (y_pickT S rfl rfl rfl) rfl rfl rfl fun a S => ?_
          refine q_y S (y_move S rfl rfl) rfl rfl rfl fun a S => ?_
          refine q_y S (y_move S rfl rfl) rfl rfl rfl fun a S => ?_
          refine q_y S (y_move S rfl rfl) rfl rfl rfl fun a S => ?_
          refine q_y S (y_eq S rfl rfl rfl) rfl rfl rfl fun a S => ?_
          have S := S.retell (v' := .bool true) 77 rfl (by simp)
          refine q_y S (y_pickT S rfl rfl rfl) rfl rfl rfl fun a S => ?_
          refine q_y S (y_move S rfl rfl) rfl rfl rfl fun a S => ?_
          refine q_y S (y_move S rfl rfl) rfl rfl rfl fun a S => ?_
          refine q_y S (y_move S rfl rfl) rfl rfl rfl fun a S => ?_
          refine q_y S (y_eqB S rfl rfl rfl Try.underlying4) rfl rfl rfl fun a S => ?_
          have S := S.retell (v' := .bool true) 82 rfl (by simp)
          refine q_y S (y_pickT S rfl rfl rfl) rfl rfl rfl fun a S => ?_
          refine q_y S (y_assign S rfl rfl) rfl rfl rfl fun a S => ?_
          exact q_nil (S.sub ⟨rfl, rfl, rfl, rfl, rfl, rfl, rfl, rfl, (show lk _ _ = some (.bool true) from rfl).trans (by simp), rfl, rfl, rfl, rfl, rfl, rfl, rfl, rfl, rfl, rfl, rfl, rfl, rfl, rfl, rfl, rfl, rfl, rfl, rfl, rfl, rfl, rfl, rfl, rfl, trivial⟩)
        · skip
          refine x_then ?_
          refine wp_ret ?_
          refine r_ret1 S H Try.results3 (ro_tmp S rfl) ?_
          refine ⟨congrArg Value.bool ?_, H.drop⟩
          simp

end Go.Proofs.Ytfmpgdhmfjllnaa
