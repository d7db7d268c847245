/- Walks of functions of the program, over slots and resources. No condition. -/
import Derived.Test.YtfmpgdhmfjllnaaW13g
import Derived.Test.YtfmpgdhmfjllnaaTz
namespace Go.Proofs.Ytfmpgdhmfjllnaa
open Go.RowKit Go.Cg
set_option linter.unusedVariables false
set_option linter.unusedSimpArgs false
open Go.Cg.Tr (E top right graph quiet msg comb nxt summed)
set_option maxHeartbeats 400000 in
set_option maxRecDepth 4000 in
theorem rstart_ct (w : World) (fr : List Res) (k : Int) (s : Nat) (hs : s < 4294967296) (m : Nat) (hm : m ≤ 1048576) (A : Option Addr) (c : Nat) (es : List E) (ok : SlOk fr 3 A es.length c (ecells es)) (H : Sat w (fr)) :
    Rt Try.prog 30 #[.agg #[.int .i64 k, .int .u32 ((s : Nat) : Int)], .agg #[.int .i64 ((m : Nat) : Int), .slice A es.length c]] w fun v w' => (∃ A1 c1 A2 c2, v = .agg #[.slice A1 (Tr.start k s m).1.length c1, .slice A2 (Tr.start k s m).2.length c2] ∧ Sat w' (row 25 1 (.slice A1 (Tr.start k s m).1.length c1) (Tr.start k s m).1.length (u64s (Tr.start k s m).1) :: row 4 1 (.slice A2 (Tr.start k s m).2.length c2) (Tr.start k s m).2.length (bools (Tr.start k s m).2) :: fr)) := by
  refine rt_enter Try.func30 rfl (n := 47) Try.ntmps30 rfl fun a S => ?_
  refine r_seq ?_
  refine r_region ?_
  refine r_box (c := #[.int .i64 k, .int .u32 ((s : Nat) : Int)]) S H rfl rfl rfl rfl rfl rfl fun a w b1 S H => ?_
  refine r_box (c := #[.int .i64 ((m : Nat) : Int), .slice A es.length c]) S H rfl rfl rfl rfl rfl rfl fun a w b2 S H => ?_
  refine r_alloc S H rfl Try.zeroValue40 rfl rfl rfl rfl fun a w b3 S H => ?_
  refine r_nil ?_
  refine x_then ?_
  refine r_seq ?_
  refine r_region ?_
  refine r_y S H (y_build (vs := #[]) (v := .agg #[.slice none 0 0, .slice none 0 0]) S rfl rfl (fun w => by kernel_rfl)) rfl rfl rfl fun a S => ?_
  refine r_alloc S H rfl Try.zeroValue40 rfl rfl rfl rfl fun a w b4 S H => ?_
  refine r_store (vs := [.slice none 0 0, .slice none 0 0]) 0 S H rfl rfl rfl rfl Try.sizeOf40 rfl rfl (by simp [Value.oneCell']) rfl rfl rfl rfl rfl fun w H => ?_
  refine r_nil ?_
  refine x_then ?_
  refine r_seq ?_
  refine r_seq ?_
  refine r_region ?_
  refine r_y S H (y_assign S rfl rfl) rfl rfl rfl fun a S => ?_
  refine r_nil ?_
  refine x_then ?_
  refine r_block ?_
  refine r_loop (ι := Nat × Option Addr × Nat × Option Addr × Nat) (fun ⟨i, A1, c1, A2, c2⟩ a w => Slots a 47 [(0, .agg #[.int .i64 k, .int .u32 ((s : Nat) : Int)]), (1, .agg #[.int .i64 ((m : Nat) : Int), .slice A es.length c]), (2, .pointer (some ⟨b1, 0, none⟩)), (3, .pointer (some ⟨b2, 0, none⟩)), (4, .pointer (some ⟨b3, 0, none⟩)), (5, .pointer (some ⟨b4, 0, none⟩)), (6, .int .i64 ((i : Nat) : Int)), (9, .agg #[.slice none 0 0, .slice none 0 0])] ∧ Sat w (row 25 1 (.slice A1 i c1) i (u64s ((List.range i).map (Tr.st1 k s))) :: row 4 1 (.slice A2 i c2) i (bools ((List.range i).map (Tr.st2 k s))) :: blk b4 (.cells #[.slice A1 i c1, .slice A2 i c2] 40) :: blk b3 (.cells #[.slice none 0 0, .slice none 0 0] 40) :: blk b2 (.cells #[.int .i64 ((m : Nat) : Int), .slice A es.length c] 35) :: blk b1 (.cells #[.int .i64 k, .int .u32 ((s : Nat) : Int)] 24) :: fr) ∧ (i ≤ m)) (fun ⟨i, A1, c1, A2, c2⟩ => m - i) (0, none, 0, none, 0) ⟨S.sub ⟨rfl, rfl, rfl, rfl, rfl, rfl, rfl, rfl, trivial⟩, ((H.nilRow 4 1).nilRow 25 1), Nat.zero_le _⟩ (fun ⟨i, A1, c1, A2, c2⟩ a w hI => ?_)
  obtain ⟨S, H, hI⟩ := hI
  refine r_seq ?_
  refine r_seq ?_
  refine r_region ?_
  refine r_y S H (y_move S rfl rfl) rfl rfl rfl fun a S => ?_
  refine r_y S H (y_fieldAddr S rfl rfl fa35_0) rfl rfl rfl fun a S => ?_
  refine r_y S H (y_load 4 S rfl rfl Try.isAgg3 rfl rfl) rfl rfl rfl fun a S => ?_
  refine r_y S H (y_lt S rfl rfl rfl) rfl rfl rfl fun a S => ?_
  refine r_nil ?_
  refine x_then ?_
  refine r_test S rfl (fun h13 => ?_) (fun h13 => ?_)
  · skip
    refine wp_skip ?_
    refine x_then ?_
    refine r_seq ?_
    refine r_block ?_
    refine r_seq ?_
    refine r_region ?_
    refine r_y S H (y_assign S rfl rfl) rfl rfl rfl fun a S => ?_
    refine r_nil ?_
    refine x_then ?_
    refine r_seq ?_
    refine r_region ?_
    refine r_y S H (y_assign S rfl rfl) rfl rfl rfl fun a S => ?_
    refine r_nil ?_
    refine x_then ?_
    refine r_seq ?_
    refine r_seq ?_
    refine r_region ?_
    refine r_y S H (y_fieldAddr S rfl rfl fa24_0) rfl rfl rfl fun a S => ?_
    refine r_y S H (y_load 5 S rfl rfl Try.isAgg3 rfl rfl) rfl rfl rfl fun a S => ?_
    refine r_nil ?_
    refine x_then ?_
    refine r_block ?_
    refine r_seq ?_
    refine r_seq ?_
    refine r_region ?_
    refine r_y S H (y_eq S rfl rfl rfl) rfl rfl rfl fun a S => ?_
    refine r_y S H (y_assign S rfl rfl) rfl rfl rfl fun a S => ?_
    refine r_nil ?_
    refine x_then ?_
    refine r_test S rfl (fun h18 => ?_) (fun h18 => ?_)
    · skip
      have S := S.retell (v' := .bool true) 18 rfl (by simp [h18])
      refine wp_skip ?_
      refine x_then ?_
      refine r_condT S rfl ?_
      refine r_seq ?_
      refine r_region ?_
      refine r_y S H (y_move S rfl rfl) rfl rfl rfl fun a S => ?_
      refine r_y S H (y_conv S rfl rfl Try.underlying3 Try.underlying22 (wu32 (by omega) (by omega))) rfl rfl rfl fun a S => ?_
      refine r_y S H (y_fieldAddr S rfl rfl fa24_1) rfl rfl rfl fun a S => ?_
      refine r_y S H (y_load 5 S rfl rfl Try.isAgg22 rfl rfl) rfl rfl rfl fun a S => ?_
      refine r_y S H (y_eq S rfl rfl rfl) rfl rfl rfl fun a S => ?_
      have S := S.retell (v' := .bool (decide (i = s))) 25 rfl (congrArg Value.bool (decide_eq_decide.2 Int.ofNat_inj))
      refine r_y S H (y_assign S rfl rfl) rfl rfl rfl fun a S => ?_
      refine r_nil ?_
      refine x_then ?_
      refine r_seq ?_
      refine r_region ?_
      refine r_y S H (y_move S rfl rfl) rfl rfl rfl fun a S => ?_
      refine r_y S H (y_not S rfl rfl) rfl rfl rfl fun a S => ?_
      refine r_nil ?_
      refine x_then ?_
      refine r_cond S rfl (fun h27 => ?_) (fun h27 => ?_)
      · skip
        simp only [Bool.not_eq_true', decide_eq_false_iff_not] at h27
        refine r_region ?_
        refine r_y S H (y_assign S rfl rfl) rfl rfl rfl fun a S => ?_
        refine r_nil ?_
        refine x_blockEnd ?_
        refine x_then ?_
        refine r_seq ?_
        refine r_region ?_
        refine r_y S H (y_fieldAddr S rfl rfl fa40_0) rfl rfl rfl fun a S => ?_
        refine r_y S H (y_load 2 S rfl rfl Try.isAgg37 rfl rfl) rfl rfl rfl fun a S => ?_
        refine r_y S H (y_move S rfl rfl) rfl rfl rfl fun a S => ?_
        refine r_lit (vs := #[(0, .int .u64 18446744073709551615)]) (cs := u64s [18446744073709551615]) S H rfl rfl el37 (by kernel_rfl) (by decide) (by rfl) rfl rfl rfl fun a w b5 S H => ?_
        refine r_appendS (L' := fun A6 c7 => row 25 1 (.slice (some ⟨b5, 0, none⟩) 1 1) 1 (u64s [18446744073709551615]) :: row 25 1 (.slice A6 (i + 1) c7) (i + 1) (u64s (((List.range i).map (Tr.st1 k s)) ++ ([18446744073709551615]))) :: row 4 1 (.slice A2 i c2) i (bools ((List.range i).map (Tr.st2 k s))) :: blk b4 (.cells #[.slice A1 i c1, .slice A2 i c2] 40) :: blk b3 (.cells #[.slice none 0 0, .slice none 0 0] 40) :: blk b2 (.cells #[.int .i64 ((m : Nat) : Int), .slice A es.length c] 35) :: blk b1 (.cells #[.int .i64 k, .int .u32 ((s : Nat) : Int)] 24) :: fr) (xs' := u64s (((List.range i).map (Tr.st1 k s)) ++ ([18446744073709551615]))) 1 S H rfl rfl rfl rfl el37 (SlOk.ofRow (i := 0) H rfl) (one_u64s _) (by simp only [maxLen]; first | omega | (simp <;> omega)) (by first | omega | (simp <;> omega)) (u64s_app ((List.range i).map (Tr.st1 k s)) ([18446744073709551615])) (by first | omega | (simp <;> omega)) (fun _ _ => rfl) rfl rfl rfl fun a w A6 c7 hA6 S H => ?_
        refine r_y S H (y_fieldAddr S rfl rfl fa40_0) rfl rfl rfl fun a S => ?_
        refine r_store (vs := [.slice A6 (i + 1) c7]) 3 S H rfl rfl rfl rfl Try.sizeOf37 rfl rfl (by simp [Value.oneCell']) rfl rfl rfl rfl rfl fun w H => ?_
        refine r_nil ?_
        refine x_then ?_
        refine r_region ?_
        refine r_y S H (y_fieldAddr S rfl rfl fa40_1) rfl rfl rfl fun a S => ?_
        refine r_y S H (y_load 3 S rfl rfl Try.isAgg38 rfl rfl) rfl rfl rfl fun a S => ?_
        refine r_y S H (y_move S rfl rfl) rfl rfl rfl fun a S => ?_
        refine r_lit (vs := #[(0, .bool (decide (i = s)))]) (cs := bools [decide (i = s)]) S H rfl rfl el38 (by kernel_rfl) (by decide) (by rfl) rfl rfl rfl fun a w b8 S H => ?_
        refine r_appendS (L' := fun A9 c10 => row 4 1 (.slice (some ⟨b8, 0, none⟩) 1 1) 1 (bools [decide (i = s)]) :: row 25 1 (.slice (some ⟨b5, 0, none⟩) 1 1) 1 (u64s [18446744073709551615]) :: row 25 1 (.slice A6 (i + 1) c7) (i + 1) (u64s (((List.range i).map (Tr.st1 k s)) ++ ([18446744073709551615]))) :: row 4 1 (.slice A9 (i + 1) c10) (i + 1) (bools (((List.range i).map (Tr.st2 k s)) ++ ([decide (i = s)]))) :: blk b4 (.cells #[.slice A6 (i + 1) c7, .slice A2 i c2] 40) :: blk b3 (.cells #[.slice none 0 0, .slice none 0 0] 40) :: blk b2 (.cells #[.int .i64 ((m : Nat) : Int), .slice A es.length c] 35) :: blk b1 (.cells #[.int .i64 k, .int .u32 ((s : Nat) : Int)] 24) :: fr) (xs' := bools (((List.range i).map (Tr.st2 k s)) ++ ([decide (i = s)]))) 3 S H rfl rfl rfl rfl el38 (SlOk.ofRow (i := 0) H rfl) (one_bools _) (by simp only [maxLen]; first | omega | (simp <;> omega)) (by first | omega | (simp <;> omega)) (bools_app ((List.range i).map (Tr.st2 k s)) ([decide (i = s)])) (by first | omega | (simp <;> omega)) (fun _ _ => rfl) rfl rfl rfl fun a w A9 c10 hA9 S H => ?_
        refine r_y S H (y_fieldAddr S rfl rfl fa40_1) rfl rfl rfl fun a S => ?_
        refine r_store (vs := [.slice A9 (i + 1) c10]) 4 S H rfl rfl rfl rfl Try.sizeOf38 rfl rfl (by simp [Value.oneCell']) rfl rfl rfl rfl rfl fun w H => ?_
        refine r_nil ?_
        refine x_blockEnd ?_
        refine x_then ?_
        refine r_region ?_
        refine r_y S H (y_move S rfl rfl) rfl rfl rfl fun a S => ?_
        refine r_y S H (y_add S rfl rfl rfl (wi64 (by omega) (by omega))) rfl rfl rfl fun a S => ?_
        refine r_y S H (y_assign S rfl rfl) rfl rfl rfl fun a S => ?_
        refine r_nil ?_
        refine x_then ?_
        rw [Tr.range_snoc (f := Tr.st1 k s) (i := i) (x := 18446744073709551615) (by simp [Tr.st1, top, *]), Tr.range_snoc (f := Tr.st2 k s) (i := i) (x := decide (i = s)) (by simp [Tr.st2, *])] at H
        exact ⟨(i + 1, A6, c7, A9, c10), ⟨S.sub ⟨rfl, rfl, rfl, rfl, rfl, rfl, rfl, rfl, trivial⟩, (H.pick [2, 3, 4, 5, 6, 7] 8 rfl), by omega⟩, by show m - (i + 1) < m - i; omega⟩
      · skip
        simp only [Bool.not_eq_false', decide_eq_true_eq] at h27
        refine wp_skip ?_
        refine x_blockEnd ?_
        refine x_then ?_
        refine r_seq ?_
        refine r_region ?_
        refine r_y S H (y_fieldAddr S rfl rfl fa40_0) rfl rfl rfl fun a S => ?_
        refine r_y S H (y_load 2 S rfl rfl Try.isAgg37 rfl rfl) rfl rfl rfl fun a S => ?_
        refine r_y S H (y_move S rfl rfl) rfl rfl rfl fun a S => ?_
        refine r_lit (vs := #[(0, .int .u64 0)]) (cs := u64s [0]) S H rfl rfl el37 (by kernel_rfl) (by decide) (by rfl) rfl rfl rfl fun a w b11 S H => ?_
        refine r_appendS (L' := fun A12 c13 => row 25 1 (.slice (some ⟨b11, 0, none⟩) 1 1) 1 (u64s [0]) :: row 25 1 (.slice A12 (i + 1) c13) (i + 1) (u64s (((List.range i).map (Tr.st1 k s)) ++ ([0]))) :: row 4 1 (.slice A2 i c2) i (bools ((List.range i).map (Tr.st2 k s))) :: blk b4 (.cells #[.slice A1 i c1, .slice A2 i c2] 40) :: blk b3 (.cells #[.slice none 0 0, .slice none 0 0] 40) :: blk b2 (.cells #[.int .i64 ((m : Nat) : Int), .slice A es.length c] 35) :: blk b1 (.cells #[.int .i64 k, .int .u32 ((s : Nat) : Int)] 24) :: fr) (xs' := u64s (((List.range i).map (Tr.st1 k s)) ++ ([0]))) 1 S H rfl rfl rfl rfl el37 (SlOk.ofRow (i := 0) H rfl) (one_u64s _) (by simp only [maxLen]; first | omega | (simp <;> omega)) (by first | omega | (simp <;> omega)) (u64s_app ((List.range i).map (Tr.st1 k s)) ([0])) (by first | omega | (simp <;> omega)) (fun _ _ => rfl) rfl rfl rfl fun a w A12 c13 hA12 S H => ?_
        refine r_y S H (y_fieldAddr S rfl rfl fa40_0) rfl rfl rfl fun a S => ?_
        refine r_store (vs := [.slice A12 (i + 1) c13]) 3 S H rfl rfl rfl rfl Try.sizeOf37 rfl rfl (by simp [Value.oneCell']) rfl rfl rfl rfl rfl fun w H => ?_
        refine r_nil ?_
        refine x_then ?_
        refine r_region ?_
        refine r_y S H (y_fieldAddr S rfl rfl fa40_1) rfl rfl rfl fun a S => ?_
        refine r_y S H (y_load 3 S rfl rfl Try.isAgg38 rfl rfl) rfl rfl rfl fun a S => ?_
        refine r_y S H (y_move S rfl rfl) rfl rfl rfl fun a S => ?_
        refine r_lit (vs := #[(0, .bool (decide (i = s)))]) (cs := bools [decide (i = s)]) S H rfl rfl el38 (by kernel_rfl) (by decide) (by rfl) rfl rfl rfl fun a w b14 S H => ?_
        refine r_appendS (L' := fun A15 c16 => row 4 1 (.slice (some ⟨b14, 0, none⟩) 1 1) 1 (bools [decide (i = s)]) :: row 25 1 (.slice (some ⟨b11, 0, none⟩) 1 1) 1 (u64s [0]) :: row 25 1 (.slice A12 (i + 1) c13) (i + 1) (u64s (((List.range i).map (Tr.st1 k s)) ++ ([0]))) :: row 4 1 (.slice A15 (i + 1) c16) (i + 1) (bools (((List.range i).map (Tr.st2 k s)) ++ ([decide (i = s)]))) :: blk b4 (.cells #[.slice A12 (i + 1) c13, .slice A2 i c2] 40) :: blk b3 (.cells #[.slice none 0 0, .slice none 0 0] 40) :: blk b2 (.cells #[.int .i64 ((m : Nat) : Int), .slice A es.length c] 35) :: blk b1 (.cells #[.int .i64 k, .int .u32 ((s : Nat) : Int)] 24) :: fr) (xs' := bools (((List.range i).map (Tr.st2 k s)) ++ ([decide (i = s)]))) 3 S H rfl rfl rfl rfl el38 (SlOk.ofRow (i := 0) H rfl) (one_bools _) (by simp only [maxLen]; first | omega | (simp <;> omega)) (by first | omega | (simp <;> omega)) (bools_app ((List.range i).map (Tr.st2 k s)) ([decide (i = s)])) (by first | omega | (simp <;> omega)) (fun _ _ => rfl) rfl rfl rfl fun a w A15 c16 hA15 S H => ?_
        refine r_y S H (y_fieldAddr S rfl rfl fa40_1) rfl rfl rfl fun a S => ?_
        refine r_store (vs := [.slice A15 (i + 1) c16]) 4 S H rfl rfl rfl rfl Try.sizeOf38 rfl rfl (by simp [Value.oneCell']) rfl rfl rfl rfl rfl fun w H => ?_
        refine r_nil ?_
        refine x_blockEnd ?_
        refine x_then ?_
        refine r_region ?_
        refine r_y S H (y_move S rfl rfl) rfl rfl rfl fun a S => ?_
        refine r_y S H (y_add S rfl rfl rfl (wi64 (by omega) (by omega))) rfl rfl rfl fun a S => ?_
        refine r_y S H (y_assign S rfl rfl) rfl rfl rfl fun a S => ?_
        refine r_nil ?_
        refine x_then ?_
        rw [Tr.range_snoc (f := Tr.st1 k s) (i := i) (x := 0) (by simp [Tr.st1, top, *]), Tr.range_snoc (f := Tr.st2 k s) (i := i) (x := decide (i = s)) (by simp [Tr.st2, *])] at H
        exact ⟨(i + 1, A12, c13, A15, c16), ⟨S.sub ⟨rfl, rfl, rfl, rfl, rfl, rfl, rfl, rfl, trivial⟩, (H.pick [2, 3, 4, 5, 6, 7] 8 rfl), by omega⟩, by show m - (i + 1) < m - i; omega⟩
    · skip
      have S := S.retell (v' := .bool false) 18 rfl (by simp [h18])
      refine r_region ?_
      refine r_y S H (y_eq S rfl rfl rfl) rfl rfl rfl fun a S => ?_
      refine r_y S H (y_assign S rfl rfl) rfl rfl rfl fun a S => ?_
      refine r_nil ?_
      refine x_then ?_
      refine r_test S rfl (fun h18 => ?_) (fun h18 => ?_)
      · skip
        have S := S.retell (v' := .bool true) 18 rfl (by simp [h18])
        refine r_seq ?_
        refine r_region ?_
        refine r_y S H (y_move S rfl rfl) rfl rfl rfl fun a S => ?_
        refine r_y S H (y_conv S rfl rfl Try.underlying3 Try.underlying22 (wu32 (by omega) (by omega))) rfl rfl rfl fun a S => ?_
        refine r_y S H (y_fieldAddr S rfl rfl fa24_1) rfl rfl rfl fun a S => ?_
        refine r_y S H (y_load 5 S rfl rfl Try.isAgg22 rfl rfl) rfl rfl rfl fun a S => ?_
        refine r_y S H (y_eq S rfl rfl rfl) rfl rfl rfl fun a S => ?_
        have S := S.retell (v' := .bool (decide (i = s))) 25 rfl (congrArg Value.bool (decide_eq_decide.2 Int.ofNat_inj))
        refine r_y S H (y_assign S rfl rfl) rfl rfl rfl fun a S => ?_
        refine r_nil ?_
        refine x_then ?_
        refine r_seq ?_
        refine r_region ?_
        refine r_y S H (y_move S rfl rfl) rfl rfl rfl fun a S => ?_
        refine r_y S H (y_not S rfl rfl) rfl rfl rfl fun a S => ?_
        refine r_nil ?_
        refine x_then ?_
        refine r_cond S rfl (fun h27 => ?_) (fun h27 => ?_)
        · skip
          simp only [Bool.not_eq_true', decide_eq_false_iff_not] at h27
          refine r_region ?_
          refine r_y S H (y_assign S rfl rfl) rfl rfl rfl fun a S => ?_
          refine r_nil ?_
          refine x_blockEnd ?_
          refine x_then ?_
          refine r_seq ?_
          refine r_region ?_
          refine r_y S H (y_fieldAddr S rfl rfl fa40_0) rfl rfl rfl fun a S => ?_
          refine r_y S H (y_load 2 S rfl rfl Try.isAgg37 rfl rfl) rfl rfl rfl fun a S => ?_
          refine r_y S H (y_move S rfl rfl) rfl rfl rfl fun a S => ?_
          refine r_lit (vs := #[(0, .int .u64 18446744073709551615)]) (cs := u64s [18446744073709551615]) S H rfl rfl el37 (by kernel_rfl) (by decide) (by rfl) rfl rfl rfl fun a w b17 S H => ?_
          refine r_appendS (L' := fun A18 c19 => row 25 1 (.slice (some ⟨b17, 0, none⟩) 1 1) 1 (u64s [18446744073709551615]) :: row 25 1 (.slice A18 (i + 1) c19) (i + 1) (u64s (((List.range i).map (Tr.st1 k s)) ++ ([18446744073709551615]))) :: row 4 1 (.slice A2 i c2) i (bools ((List.range i).map (Tr.st2 k s))) :: blk b4 (.cells #[.slice A1 i c1, .slice A2 i c2] 40) :: blk b3 (.cells #[.slice none 0 0, .slice none 0 0] 40) :: blk b2 (.cells #[.int .i64 ((m : Nat) : Int), .slice A es.length c] 35) :: blk b1 (.cells #[.int .i64 k, .int .u32 ((s : Nat) : Int)] 24) :: fr) (xs' := u64s (((List.range i).map (Tr.st1 k s)) ++ ([18446744073709551615]))) 1 S H rfl rfl rfl rfl el37 (SlOk.ofRow (i := 0) H rfl) (one_u64s _) (by simp only [maxLen]; first | omega | (simp <;> omega)) (by first | omega | (simp <;> omega)) (u64s_app ((List.range i).map (Tr.st1 k s)) ([18446744073709551615])) (by first | omega | (simp <;> omega)) (fun _ _ => rfl) rfl rfl rfl fun a w A18 c19 hA18 S H => ?_
          refine r_y S H (y_fieldAddr S rfl rfl fa40_0) rfl rfl rfl fun a S => ?_
          refine r_store (vs := [.slice A18 (i + 1) c19]) 3 S H rfl rfl rfl rfl Try.sizeOf37 rfl rfl (by simp [Value.oneCell']) rfl rfl rfl rfl rfl fun w H => ?_
          refine r_nil ?_
          refine x_then ?_
          refine r_region ?_
          refine r_y S H (y_fieldAddr S rfl rfl fa40_1) rfl rfl rfl fun a S => ?_
          refine r_y S H (y_load 3 S rfl rfl Try.isAgg38 rfl rfl) rfl rfl rfl fun a S => ?_
          refine r_y S H (y_move S rfl rfl) rfl rfl rfl fun a S => ?_
          refine r_lit (vs := #[(0, .bool (decide (i = s)))]) (cs := bools [decide (i = s)]) S H rfl rfl el38 (by kernel_rfl) (by decide) (by rfl) rfl rfl rfl fun a w b20 S H => ?_
          refine r_appendS (L' := fun A21 c22 => row 4 1 (.slice (some ⟨b20, 0, none⟩) 1 1) 1 (bools [decide (i = s)]) :: row 25 1 (.slice (some ⟨b17, 0, none⟩) 1 1) 1 (u64s [18446744073709551615]) :: row 25 1 (.slice A18 (i + 1) c19) (i + 1) (u64s (((List.range i).map (Tr.st1 k s)) ++ ([18446744073709551615]))) :: row 4 1 (.slice A21 (i + 1) c22) (i + 1) (bools (((List.range i).map (Tr.st2 k s)) ++ ([decide (i = s)]))) :: blk b4 (.cells #[.slice A18 (i + 1) c19, .slice A2 i c2] 40) :: blk b3 (.cells #[.slice none 0 0, .slice none 0 0] 40) :: blk b2 (.cells #[.int .i64 ((m : Nat) : Int), .slice A es.length c] 35) :: blk b1 (.cells #[.int .i64 k, .int .u32 ((s : Nat) : Int)] 24) :: fr) (xs' := bools (((List.range i).map (Tr.st2 k s)) ++ ([decide (i = s)]))) 3 S H rfl rfl rfl rfl el38 (SlOk.ofRow (i := 0) H rfl) (one_bools _) (by simp only [maxLen]; first | omega | (simp <;> omega)) (by first | omega | (simp <;> omega)) (bools_app ((List.range i).map (Tr.st2 k s)) ([decide (i = s)])) (by first | omega | (simp <;> omega)) (fun _ _ => rfl) rfl rfl rfl fun a w A21 c22 hA21 S H => ?_
          refine r_y S H (y_fieldAddr S rfl rfl fa40_1) rfl rfl rfl fun a S => ?_
          refine r_store (vs := [.slice A21 (i + 1) c22]) 4 S H rfl rfl rfl rfl Try.sizeOf38 rfl rfl (by simp [Value.oneCell']) rfl rfl rfl rfl rfl fun w H => ?_
          refine r_nil ?_
          refine x_blockEnd ?_
          refine x_then ?_
          refine r_region ?_
          refine r_y S H (y_move S rfl rfl) rfl rfl rfl fun a S => ?_
          refine r_y S H (y_add S rfl rfl rfl (wi64 (by omega) (by omega))) rfl rfl rfl fun a S => ?_
          refine r_y S H (y_assign S rfl rfl) rfl rfl rfl fun a S => ?_
          refine r_nil ?_
          refine x_then ?_
          rw [Tr.range_snoc (f := Tr.st1 k s) (i := i) (x := 18446744073709551615) (by simp [Tr.st1, top, *]), Tr.range_snoc (f := Tr.st2 k s) (i := i) (x := decide (i = s)) (by simp [Tr.st2, *])] at H
          exact ⟨(i + 1, A18, c19, A21, c22), ⟨S.sub ⟨rfl, rfl, rfl, rfl, rfl, rfl, rfl, rfl, trivial⟩, (H.pick [2, 3, 4, 5, 6, 7] 8 rfl), by omega⟩, by show m - (i + 1) < m - i; omega⟩
        · skip
          simp only [Bool.not_eq_false', decide_eq_true_eq] at h27
          refine wp_skip ?_
          refine x_blockEnd ?_
          refine x_then ?_
          refine r_seq ?_
          refine r_region ?_
          refine r_y S H (y_fieldAddr S rfl rfl fa40_0) rfl rfl rfl fun a S => ?_
          refine r_y S H (y_load 2 S rfl rfl Try.isAgg37 rfl rfl) rfl rfl rfl fun a S => ?_
          refine r_y S H (y_move S rfl rfl) rfl rfl rfl fun a S => ?_
          refine r_lit (vs := #[(0, .int .u64 0)]) (cs := u64s [0]) S H rfl rfl el37 (by kernel_rfl) (by decide) (by rfl) rfl rfl rfl fun a w b23 S H => ?_
          refine r_appendS (L' := fun A24 c25 => row 25 1 (.slice (some ⟨b23, 0, none⟩) 1 1) 1 (u64s [0]) :: row 25 1 (.slice A24 (i + 1) c25) (i + 1) (u64s (((List.range i).map (Tr.st1 k s)) ++ ([0]))) :: row 4 1 (.slice A2 i c2) i (bools ((List.range i).map (Tr.st2 k s))) :: blk b4 (.cells #[.slice A1 i c1, .slice A2 i c2] 40) :: blk b3 (.cells #[.slice none 0 0, .slice none 0 0] 40) :: blk b2 (.cells #[.int .i64 ((m : Nat) : Int), .slice A es.length c] 35) :: blk b1 (.cells #[.int .i64 k, .int .u32 ((s : Nat) : Int)] 24) :: fr) (xs' := u64s (((List.range i).map (Tr.st1 k s)) ++ ([0]))) 1 S H rfl rfl rfl rfl el37 (SlOk.ofRow (i := 0) H rfl) (one_u64s _) (by simp only [maxLen]; first | omega | (simp <;> omega)) (by first | omega | (simp <;> omega)) (u64s_app ((List.range i).map (Tr.st1 k s)) ([0])) (by first | omega | (simp <;> omega)) (fun _ _ => rfl) rfl rfl rfl fun a w A24 c25 hA24 S H => ?_
          refine r_y S H (y_fieldAddr S rfl rfl fa40_0) rfl rfl rfl fun a S => ?_
          refine r_store (vs := [.slice A24 (i + 1) c25]) 3 S H rfl rfl rfl rfl Try.sizeOf37 rfl rfl (by simp [Value.oneCell']) rfl rfl rfl rfl rfl fun w H => ?_
          refine r_nil ?_
          refine x_then ?_
          refine r_region ?_
          refine r_y S H (y_fieldAddr S rfl rfl fa40_1) rfl rfl rfl fun a S => ?_
          refine r_y S H (y_load 3 S rfl rfl Try.isAgg38 rfl rfl) rfl rfl rfl fun a S => ?_
          refine r_y S H (y_move S rfl rfl) rfl rfl rfl fun a S => ?_
          refine r_lit (vs := #[(0, .bool (decide (i = s)))]) (cs := bools [decide (i = s)]) S H rfl rfl el38 (by kernel_rfl) (by decide) (by rfl) rfl rfl rfl fun a w b26 S H => ?_
          refine r_appendS (L' := fun A27 c28 => row 4 1 (.slice (some ⟨b26, 0, none⟩) 1 1) 1 (bools [decide (i = s)]) :: row 25 1 (.slice (some ⟨b23, 0, none⟩) 1 1) 1 (u64s [0]) :: row 25 1 (.slice A24 (i + 1) c25) (i + 1) (u64s (((List.range i).map (Tr.st1 k s)) ++ ([0]))) :: row 4 1 (.slice A27 (i + 1) c28) (i + 1) (bools (((List.range i).map (Tr.st2 k s)) ++ ([decide (i = s)]))) :: blk b4 (.cells #[.slice A24 (i + 1) c25, .slice A2 i c2] 40) :: blk b3 (.cells #[.slice none 0 0, .slice none 0 0] 40) :: blk b2 (.cells #[.int .i64 ((m : Nat) : Int), .slice A es.length c] 35) :: blk b1 (.cells #[.int .i64 k, .int .u32 ((s : Nat) : Int)] 24) :: fr) (xs' := bools (((List.range i).map (Tr.st2 k s)) ++ ([decide (i = s)]))) 3 S H rfl rfl rfl rfl el38 (SlOk.ofRow (i := 0) H rfl) (one_bools _) (by simp only [maxLen]; first | omega | (simp <;> omega)) (by first | omega | (simp <;> omega)) (bools_app ((List.range i).map (Tr.st2 k s)) ([decide (i = s)])) (by first | omega | (simp <;> omega)) (fun _ _ => rfl) rfl rfl rfl fun a w A27 c28 hA27 S H => ?_
          refine r_y S H (y_fieldAddr S rfl rfl fa40_1) rfl rfl rfl fun a S => ?_
          refine r_store (vs := [.slice A27 (i + 1) c28]) 4 S H rfl rfl rfl rfl Try.sizeOf38 rfl rfl (by simp [Value.oneCell']) rfl rfl rfl rfl rfl fun w H => ?_
          refine r_nil ?_
          refine x_blockEnd ?_
          refine x_then ?_
          refine r_region ?_
          refine r_y S H (y_move S rfl rfl) rfl rfl rfl fun a S => ?_
          refine r_y S H (y_add S rfl rfl rfl (wi64 (by omega) (by omega))) rfl rfl rfl fun a S => ?_
          refine r_y S H (y_assign S rfl rfl) rfl rfl rfl fun a S => ?_
          refine r_nil ?_
          refine x_then ?_
          rw [Tr.range_snoc (f := Tr.st1 k s) (i := i) (x := 0) (by simp [Tr.st1, top, *]), Tr.range_snoc (f := Tr.st2 k s) (i := i) (x := decide (i = s)) (by simp [Tr.st2, *])] at H
          exact ⟨(i + 1, A24, c25, A27, c28), ⟨S.sub ⟨rfl, rfl, rfl, rfl, rfl, rfl, rfl, rfl, trivial⟩, (H.pick [2, 3, 4, 5, 6, 7] 8 rfl), by omega⟩, by show m - (i + 1) < m - i; omega⟩
      · skip
        have S := S.retell (v' := .bool false) 18 rfl (by simp [h18])
        refine r_seq ?_
        refine r_region ?_
        refine r_y S H (y_eq S rfl rfl rfl) rfl rfl rfl fun a S => ?_
        refine r_y S H (y_assign S rfl rfl) rfl rfl rfl fun a S => ?_
        refine r_nil ?_
        refine x_then ?_
        refine r_test S rfl (fun h28 => ?_) (fun h28 => ?_)
        · skip
          refine r_region ?_
          refine r_y S H (y_move S rfl rfl) rfl rfl rfl fun a S => ?_
          refine r_y S H (y_conv S rfl rfl Try.underlying3 Try.underlying25 (wu64 (by omega) (by omega))) rfl rfl rfl fun a S => ?_
          refine r_y S H (y_assign S rfl rfl) rfl rfl rfl fun a S => ?_
          refine r_nil ?_
          refine x_blockEnd ?_
          refine x_then ?_
          refine r_seq ?_
          refine r_region ?_
          refine r_y S H (y_fieldAddr S rfl rfl fa40_0) rfl rfl rfl fun a S => ?_
          refine r_y S H (y_load 2 S rfl rfl Try.isAgg37 rfl rfl) rfl rfl rfl fun a S => ?_
          refine r_y S H (y_move S rfl rfl) rfl rfl rfl fun a S => ?_
          refine r_lit (vs := #[(0, .int .u64 ((i : Nat) : Int))]) (cs := u64s [i]) S H rfl rfl el37 (by kernel_rfl) (by decide) (by rfl) rfl rfl rfl fun a w b29 S H => ?_
          refine r_appendS (L' := fun A30 c31 => row 25 1 (.slice (some ⟨b29, 0, none⟩) 1 1) 1 (u64s [i]) :: row 25 1 (.slice A30 (i + 1) c31) (i + 1) (u64s (((List.range i).map (Tr.st1 k s)) ++ ([i]))) :: row 4 1 (.slice A2 i c2) i (bools ((List.range i).map (Tr.st2 k s))) :: blk b4 (.cells #[.slice A1 i c1, .slice A2 i c2] 40) :: blk b3 (.cells #[.slice none 0 0, .slice none 0 0] 40) :: blk b2 (.cells #[.int .i64 ((m : Nat) : Int), .slice A es.length c] 35) :: blk b1 (.cells #[.int .i64 k, .int .u32 ((s : Nat) : Int)] 24) :: fr) (xs' := u64s (((List.range i).map (Tr.st1 k s)) ++ ([i]))) 1 S H rfl rfl rfl rfl el37 (SlOk.ofRow (i := 0) H rfl) (one_u64s _) (by simp only [maxLen]; first | omega | (simp <;> omega)) (by first | omega | (simp <;> omega)) (u64s_app ((List.range i).map (Tr.st1 k s)) ([i])) (by first | omega | (simp <;> omega)) (fun _ _ => rfl) rfl rfl rfl fun a w A30 c31 hA30 S H => ?_
          refine r_y S H (y_fieldAddr S rfl rfl fa40_0) rfl rfl rfl fun a S => ?_
          refine r_store (vs := [.slice A30 (i + 1) c31]) 3 S H rfl rfl rfl rfl Try.sizeOf37 rfl rfl (by simp [Value.oneCell']) rfl rfl rfl rfl rfl fun w H => ?_
          refine r_nil ?_
          refine x_then ?_
          refine r_region ?_
          refine r_y S H (y_fieldAddr S rfl rfl fa40_1) rfl rfl rfl fun a S => ?_
          refine r_y S H (y_load 3 S rfl rfl Try.isAgg38 rfl rfl) rfl rfl rfl fun a S => ?_
          refine r_y S H (y_move S rfl rfl) rfl rfl rfl fun a S => ?_
          refine r_lit (vs := #[(0, .bool true)]) (cs := bools [true]) S H rfl rfl el38 (by kernel_rfl) (by decide) (by rfl) rfl rfl rfl fun a w b32 S H => ?_
          refine r_appendS (L' := fun A33 c34 => row 4 1 (.slice (some ⟨b32, 0, none⟩) 1 1) 1 (bools [true]) :: row 25 1 (.slice (some ⟨b29, 0, none⟩) 1 1) 1 (u64s [i]) :: row 25 1 (.slice A30 (i + 1) c31) (i + 1) (u64s (((List.range i).map (Tr.st1 k s)) ++ ([i]))) :: row 4 1 (.slice A33 (i + 1) c34) (i + 1) (bools (((List.range i).map (Tr.st2 k s)) ++ ([true]))) :: blk b4 (.cells #[.slice A30 (i + 1) c31, .slice A2 i c2] 40) :: blk b3 (.cells #[.slice none 0 0, .slice none 0 0] 40) :: blk b2 (.cells #[.int .i64 ((m : Nat) : Int), .slice A es.length c] 35) :: blk b1 (.cells #[.int .i64 k, .int .u32 ((s : Nat) : Int)] 24) :: fr) (xs' := bools (((List.range i).map (Tr.st2 k s)) ++ ([true]))) 3 S H rfl rfl rfl rfl el38 (SlOk.ofRow (i := 0) H rfl) (one_bools _) (by simp only [maxLen]; first | omega | (simp <;> omega)) (by first | omega | (simp <;> omega)) (bools_app ((List.range i).map (Tr.st2 k s)) ([true])) (by first | omega | (simp <;> omega)) (fun _ _ => rfl) rfl rfl rfl fun a w A33 c34 hA33 S H => ?_
          refine r_y S H (y_fieldAddr S rfl rfl fa40_1) rfl rfl rfl fun a S => ?_
          refine r_store (vs := [.slice A33 (i + 1) c34]) 4 S H rfl rfl rfl rfl Try.sizeOf38 rfl rfl (by simp [Value.oneCell']) rfl rfl rfl rfl rfl fun w H => ?_
          refine r_nil ?_
          refine x_blockEnd ?_
          refine x_then ?_
          refine r_region ?_
          refine r_y S H (y_move S rfl rfl) rfl rfl rfl fun a S => ?_
          refine r_y S H (y_add S rfl rfl rfl (wi64 (by omega) (by omega))) rfl rfl rfl fun a S => ?_
          refine r_y S H (y_assign S rfl rfl) rfl rfl rfl fun a S => ?_
          refine r_nil ?_
          refine x_then ?_
          rw [Tr.range_snoc (f := Tr.st1 k s) (i := i) (x := i) (by simp [Tr.st1, top, *]), Tr.range_snoc (f := Tr.st2 k s) (i := i) (x := true) (by simp [Tr.st2, *])] at H
          exact ⟨(i + 1, A30, c31, A33, c34), ⟨S.sub ⟨rfl, rfl, rfl, rfl, rfl, rfl, rfl, rfl, trivial⟩, (H.pick [2, 3, 4, 5, 6, 7] 8 rfl), by omega⟩, by show m - (i + 1) < m - i; omega⟩
        · skip
          refine r_seq ?_
          refine r_region ?_
          refine r_y S H (y_eq S rfl rfl rfl) rfl rfl rfl fun a S => ?_
          refine r_y S H (y_assign S rfl rfl) rfl rfl rfl fun a S => ?_
          refine r_nil ?_
          refine x_then ?_
          refine r_test S rfl (fun h32 => ?_) (fun h32 => ?_)
          · skip
            refine r_region ?_
            refine r_y S H (y_assign S rfl rfl) rfl rfl rfl fun a S => ?_
            refine r_nil ?_
            refine x_blockEnd ?_
            refine x_then ?_
            refine r_seq ?_
            refine r_region ?_
            refine r_y S H (y_fieldAddr S rfl rfl fa40_0) rfl rfl rfl fun a S => ?_
            refine r_y S H (y_load 2 S rfl rfl Try.isAgg37 rfl rfl) rfl rfl rfl fun a S => ?_
            refine r_y S H (y_move S rfl rfl) rfl rfl rfl fun a S => ?_
            refine r_lit (vs := #[(0, .int .u64 1048576)]) (cs := u64s [1048576]) S H rfl rfl el37 (by kernel_rfl) (by decide) (by rfl) rfl rfl rfl fun a w b35 S H => ?_
            refine r_appendS (L' := fun A36 c37 => row 25 1 (.slice (some ⟨b35, 0, none⟩) 1 1) 1 (u64s [1048576]) :: row 25 1 (.slice A36 (i + 1) c37) (i + 1) (u64s (((List.range i).map (Tr.st1 k s)) ++ ([1048576]))) :: row 4 1 (.slice A2 i c2) i (bools ((List.range i).map (Tr.st2 k s))) :: blk b4 (.cells #[.slice A1 i c1, .slice A2 i c2] 40) :: blk b3 (.cells #[.slice none 0 0, .slice none 0 0] 40) :: blk b2 (.cells #[.int .i64 ((m : Nat) : Int), .slice A es.length c] 35) :: blk b1 (.cells #[.int .i64 k, .int .u32 ((s : Nat) : Int)] 24) :: fr) (xs' := u64s (((List.range i).map (Tr.st1 k s)) ++ ([1048576]))) 1 S H rfl rfl rfl rfl el37 (SlOk.ofRow (i := 0) H rfl) (one_u64s _) (by simp only [maxLen]; first | omega | (simp <;> omega)) (by first | omega | (simp <;> omega)) (u64s_app ((List.range i).map (Tr.st1 k s)) ([1048576])) (by first | omega | (simp <;> omega)) (fun _ _ => rfl) rfl rfl rfl fun a w A36 c37 hA36 S H => ?_
            refine r_y S H (y_fieldAddr S rfl rfl fa40_0) rfl rfl rfl fun a S => ?_
            refine r_store (vs := [.slice A36 (i + 1) c37]) 3 S H rfl rfl rfl rfl Try.sizeOf37 rfl rfl (by simp [Value.oneCell']) rfl rfl rfl rfl rfl fun w H => ?_
            refine r_nil ?_
            refine x_then ?_
            refine r_region ?_
            refine r_y S H (y_fieldAddr S rfl rfl fa40_1) rfl rfl rfl fun a S => ?_
            refine r_y S H (y_load 3 S rfl rfl Try.isAgg38 rfl rfl) rfl rfl rfl fun a S => ?_
            refine r_y S H (y_move S rfl rfl) rfl rfl rfl fun a S => ?_
            refine r_lit (vs := #[(0, .bool true)]) (cs := bools [true]) S H rfl rfl el38 (by kernel_rfl) (by decide) (by rfl) rfl rfl rfl fun a w b38 S H => ?_
            refine r_appendS (L' := fun A39 c40 => row 4 1 (.slice (some ⟨b38, 0, none⟩) 1 1) 1 (bools [true]) :: row 25 1 (.slice (some ⟨b35, 0, none⟩) 1 1) 1 (u64s [1048576]) :: row 25 1 (.slice A36 (i + 1) c37) (i + 1) (u64s (((List.range i).map (Tr.st1 k s)) ++ ([1048576]))) :: row 4 1 (.slice A39 (i + 1) c40) (i + 1) (bools (((List.range i).map (Tr.st2 k s)) ++ ([true]))) :: blk b4 (.cells #[.slice A36 (i + 1) c37, .slice A2 i c2] 40) :: blk b3 (.cells #[.slice none 0 0, .slice none 0 0] 40) :: blk b2 (.cells #[.int .i64 ((m : Nat) : Int), .slice A es.length c] 35) :: blk b1 (.cells #[.int .i64 k, .int .u32 ((s : Nat) : Int)] 24) :: fr) (xs' := bools (((List.range i).map (Tr.st2 k s)) ++ ([true]))) 3 S H rfl rfl rfl rfl el38 (SlOk.ofRow (i := 0) H rfl) (one_bools _) (by simp only [maxLen]; first | omega | (simp <;> omega)) (by first | omega | (simp <;> omega)) (bools_app ((List.range i).map (Tr.st2 k s)) ([true])) (by first | omega | (simp <;> omega)) (fun _ _ => rfl) rfl rfl rfl fun a w A39 c40 hA39 S H => ?_
            refine r_y S H (y_fieldAddr S rfl rfl fa40_1) rfl rfl rfl fun a S => ?_
            refine r_store (vs := [.slice A39 (i + 1) c40]) 4 S H rfl rfl rfl rfl Try.sizeOf38 rfl rfl (by simp [Value.oneCell']) rfl rfl rfl rfl rfl fun w H => ?_
            refine r_nil ?_
            refine x_blockEnd ?_
            refine x_then ?_
            refine r_region ?_
            refine r_y S H (y_move S rfl rfl) rfl rfl rfl fun a S => ?_
            refine r_y S H (y_add S rfl rfl rfl (wi64 (by omega) (by omega))) rfl rfl rfl fun a S => ?_
            refine r_y S H (y_assign S rfl rfl) rfl rfl rfl fun a S => ?_
            refine r_nil ?_
            refine x_then ?_
            rw [Tr.range_snoc (f := Tr.st1 k s) (i := i) (x := 1048576) (by simp [Tr.st1, top, *]), Tr.range_snoc (f := Tr.st2 k s) (i := i) (x := true) (by simp [Tr.st2, *])] at H
            exact ⟨(i + 1, A36, c37, A39, c40), ⟨S.sub ⟨rfl, rfl, rfl, rfl, rfl, rfl, rfl, rfl, trivial⟩, (H.pick [2, 3, 4, 5, 6, 7] 8 rfl), by omega⟩, by show m - (i + 1) < m - i; omega⟩
          · skip
            refine wp_skip ?_
            refine x_blockEnd ?_
            refine x_then ?_
            refine r_seq ?_
            refine r_region ?_
            refine r_y S H (y_fieldAddr S rfl rfl fa40_0) rfl rfl rfl fun a S => ?_
            refine r_y S H (y_load 2 S rfl rfl Try.isAgg37 rfl rfl) rfl rfl rfl fun a S => ?_
            refine r_y S H (y_move S rfl rfl) rfl rfl rfl fun a S => ?_
            refine r_lit (vs := #[(0, .int .u64 0)]) (cs := u64s [0]) S H rfl rfl el37 (by kernel_rfl) (by decide) (by rfl) rfl rfl rfl fun a w b41 S H => ?_
            refine r_appendS (L' := fun A42 c43 => row 25 1 (.slice (some ⟨b41, 0, none⟩) 1 1) 1 (u64s [0]) :: row 25 1 (.slice A42 (i + 1) c43) (i + 1) (u64s (((List.range i).map (Tr.st1 k s)) ++ ([0]))) :: row 4 1 (.slice A2 i c2) i (bools ((List.range i).map (Tr.st2 k s))) :: blk b4 (.cells #[.slice A1 i c1, .slice A2 i c2] 40) :: blk b3 (.cells #[.slice none 0 0, .slice none 0 0] 40) :: blk b2 (.cells #[.int .i64 ((m : Nat) : Int), .slice A es.length c] 35) :: blk b1 (.cells #[.int .i64 k, .int .u32 ((s : Nat) : Int)] 24) :: fr) (xs' := u64s (((List.range i).map (Tr.st1 k s)) ++ ([0]))) 1 S H rfl rfl rfl rfl el37 (SlOk.ofRow (i := 0) H rfl) (one_u64s _) (by simp only [maxLen]; first | omega | (simp <;> omega)) (by first | omega | (simp <;> omega)) (u64s_app ((List.range i).map (Tr.st1 k s)) ([0])) (by first | omega | (simp <;> omega)) (fun _ _ => rfl) rfl rfl rfl fun a w A42 c43 hA42 S H => ?_
            refine r_y S H (y_fieldAddr S rfl rfl fa40_0) rfl rfl rfl fun a S => ?_
            refine r_store (vs := [.slice A42 (i + 1) c43]) 3 S H rfl rfl rfl rfl Try.sizeOf37 rfl rfl (by simp [Value.oneCell']) rfl rfl rfl rfl rfl fun w H => ?_
            refine r_nil ?_
            refine x_then ?_
            refine r_region ?_
            refine r_y S H (y_fieldAddr S rfl rfl fa40_1) rfl rfl rfl fun a S => ?_
            refine r_y S H (y_load 3 S rfl rfl Try.isAgg38 rfl rfl) rfl rfl rfl fun a S => ?_
            refine r_y S H (y_move S rfl rfl) rfl rfl rfl fun a S => ?_
            refine r_lit (vs := #[(0, .bool true)]) (cs := bools [true]) S H rfl rfl el38 (by kernel_rfl) (by decide) (by rfl) rfl rfl rfl fun a w b44 S H => ?_
            refine r_appendS (L' := fun A45 c46 => row 4 1 (.slice (some ⟨b44, 0, none⟩) 1 1) 1 (bools [true]) :: row 25 1 (.slice (some ⟨b41, 0, none⟩) 1 1) 1 (u64s [0]) :: row 25 1 (.slice A42 (i + 1) c43) (i + 1) (u64s (((List.range i).map (Tr.st1 k s)) ++ ([0]))) :: row 4 1 (.slice A45 (i + 1) c46) (i + 1) (bools (((List.range i).map (Tr.st2 k s)) ++ ([true]))) :: blk b4 (.cells #[.slice A42 (i + 1) c43, .slice A2 i c2] 40) :: blk b3 (.cells #[.slice none 0 0, .slice none 0 0] 40) :: blk b2 (.cells #[.int .i64 ((m : Nat) : Int), .slice A es.length c] 35) :: blk b1 (.cells #[.int .i64 k, .int .u32 ((s : Nat) : Int)] 24) :: fr) (xs' := bools (((List.range i).map (Tr.st2 k s)) ++ ([true]))) 3 S H rfl rfl rfl rfl el38 (SlOk.ofRow (i := 0) H rfl) (one_bools _) (by simp only [maxLen]; first | omega | (simp <;> omega)) (by first | omega | (simp <;> omega)) (bools_app ((List.range i).map (Tr.st2 k s)) ([true])) (by first | omega | (simp <;> omega)) (fun _ _ => rfl) rfl rfl rfl fun a w A45 c46 hA45 S H => ?_
            refine r_y S H (y_fieldAddr S rfl rfl fa40_1) rfl rfl rfl fun a S => ?_
            refine r_store (vs := [.slice A45 (i + 1) c46]) 4 S H rfl rfl rfl rfl Try.sizeOf38 rfl rfl (by simp [Value.oneCell']) rfl rfl rfl rfl rfl fun w H => ?_
            refine r_nil ?_
            refine x_blockEnd ?_
            refine x_then ?_
            refine r_region ?_
            refine r_y S H (y_move S rfl rfl) rfl rfl rfl fun a S => ?_
            refine r_y S H (y_add S rfl rfl rfl (wi64 (by omega) (by omega))) rfl rfl rfl fun a S => ?_
            refine r_y S H (y_assign S rfl rfl) rfl rfl rfl fun a S => ?_
            refine r_nil ?_
            refine x_then ?_
            rw [Tr.range_snoc (f := Tr.st1 k s) (i := i) (x := 0) (by simp [Tr.st1, top, *]), Tr.range_snoc (f := Tr.st2 k s) (i := i) (x := true) (by simp [Tr.st2, *])] at H
            exact ⟨(i + 1, A42, c43, A45, c46), ⟨S.sub ⟨rfl, rfl, rfl, rfl, rfl, rfl, rfl, rfl, trivial⟩, (H.pick [2, 3, 4, 5, 6, 7] 8 rfl), by omega⟩, by show m - (i + 1) < m - i; omega⟩
  · skip
    refine wp_exit ?_
    refine x_thenExit ?_
    refine x_thenExit ?_
    refine x_blockHere ?_
    refine x_then ?_
    refine r_seq ?_
    refine r_region ?_
    refine r_y S H (y_loadAgg [_, _] 2 S rfl rfl (fun w => ⟨Try.isAgg40 w, Try.sizeOf40 w⟩) rfl rfl ⟨rfl, rfl, trivial⟩) rfl rfl rfl fun a S => ?_
    refine r_store (vs := [.slice A1 i c1, .slice A2 i c2]) 3 S H rfl rfl rfl rfl Try.sizeOf40 rfl rfl (by simp [Value.oneCell']) rfl rfl rfl rfl rfl fun w H => ?_
    refine r_nil ?_
    refine x_then ?_
    refine wp_ret ?_
    refine r_ret1 S H Try.results30 (ro_agg [_, _] (i := 3) S rfl (fun w => ⟨Try.isAgg40 w, Try.sizeOf40 w⟩) rfl rfl ⟨rfl, rfl, trivial⟩) ?_
    have him : i = m := by omega
    subst him
    have l1 := (Tr.len_start k s i).1
    have l2 := (Tr.len_start k s i).2
    rw [l1, l2]
    exact ⟨_, _, _, _, rfl, (H.pick [0, 1] 6 rfl)⟩

end Go.Proofs.Ytfmpgdhmfjllnaa
