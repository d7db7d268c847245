/- Walks of functions of the program, over slots and resources. No condition. -/
import Derived.Test.YtfmpgdhmfjllnaaW13g
import Derived.Test.YtfmpgdhmfjllnaaTx
namespace Go.Proofs.Ytfmpgdhmfjllnaa
open Go.RowKit Go.Cg
set_option linter.unusedVariables false
set_option linter.unusedSimpArgs false
open Go.Cg.Tr (E top right graph quiet msg comb nxt summed)
set_option maxRecDepth 4000 in
theorem law_least (w : World) (fr : List Res) (n : Int) (A : Option Addr) (c : Nat) (es : List E) (ok : SlOk fr 3 A es.length c (ecells es)) (hes : ∀ e ∈ es, e.f < 4294967296 ∧ e.t < 4294967296) (hew : ∀ e ∈ es, e.w < 4294967296) (H : Sat w (fr)) :
    Rt Try.prog 5 #[.agg #[.int .i64 n, .slice A es.length c]] w fun v w' => v = .bool true ∧ Sat w' fr := by
  refine rt_enter Try.func5 rfl (n := 127) Try.ntmps5 rfl fun a S => ?_
  refine r_seq ?_
  refine r_region ?_
  refine r_box (c := #[.int .i64 n, .slice A es.length c]) S H rfl rfl rfl rfl rfl rfl fun a w b1 S H => ?_
  refine r_y S H (y_assign S rfl rfl) rfl rfl rfl fun a S => ?_
  refine r_nil ?_
  refine x_then ?_
  refine r_seq ?_
  refine r_region ?_
  refine r_call (args := #[]) S rfl rfl Try.call14 (shown_ct (H := H) _ _) rfl rfl rfl fun v a w hR S => ?_
  obtain ⟨rfl, H⟩ := hR
  refine r_y S H (y_assign S rfl rfl) rfl rfl rfl fun a S => ?_
  refine r_nil ?_
  refine x_then ?_
  refine r_seq ?_
  refine r_region ?_
  refine r_y S H (y_loadAgg [_, _] 0 S rfl rfl (fun w => ⟨Try.isAgg35 w, Try.sizeOf35 w⟩) rfl rfl ⟨rfl, rfl, trivial⟩) rfl rfl rfl fun a S => ?_
  refine r_call (args := #[.agg #[.int .i64 n, .slice A es.length c]]) S rfl rfl Try.call23 (few_ct2 (H := H) _ _ n _ _ es (ok.more _) hes) rfl rfl rfl fun v a w hR S => ?_
  obtain ⟨m, gl, A2, c3, hfew, rfl, H⟩ := hR
  have hm60 := hfew.hm
  have hgl := hfew.hl
  have hgs : ∀ e ∈ gl, e.f < 4294967296 ∧ e.t < 4294967296 := fun e he => hes e (hfew.sub e he)
  have hgw : ∀ e ∈ gl, e.w < 4294967296 := fun e he => hew e (hfew.sub e he)
  have hge := hfew.edges
  obtain ⟨hmay, hlen, hq, hlead⟩ := Tr.least_law hfew
  refine r_store (vs := [.int .i64 ((m : Nat) : Int), .slice A2 gl.length c3]) 1 S H rfl rfl rfl rfl Try.sizeOf35 rfl rfl (by simp [Value.oneCell']) rfl rfl rfl rfl rfl fun w H => ?_
  refine r_nil ?_
  refine x_then ?_
  refine r_seq ?_
  refine r_region ?_
  refine r_y S H (y_build (vs := #[(0, .int .i64 2)]) (v := .agg #[.int .i64 2, .int .u32 0]) S rfl rfl (fun w => by kernel_rfl)) rfl rfl rfl fun a S => ?_
  refine r_y S H (y_loadAgg [_, _] 1 S rfl rfl (fun w => ⟨Try.isAgg35 w, Try.sizeOf35 w⟩) rfl rfl ⟨rfl, rfl, trivial⟩) rfl rfl rfl fun a S => ?_
  refine r_y S H (y_fieldAddr S rfl rfl fa35_0) rfl rfl rfl fun a S => ?_
  refine r_y S H (y_load 1 S rfl rfl Try.isAgg3 rfl rfl) rfl rfl rfl fun a S => ?_
  refine r_y S H (y_add S rfl rfl rfl (wi64 (by omega) (by omega))) rfl rfl rfl fun a S => ?_
  have S := S.retell (v' := .int .i64 ((m + 1 : Nat) : Int)) 19 rfl (int_eq (by omega))
  refine r_call (args := #[.agg #[.int .i64 2, .int .u32 0], .agg #[.int .i64 ((m : Nat) : Int), .slice A2 gl.length c3], .int .i64 ((m + 1 : Nat) : Int)]) S rfl rfl Try.call24 (trace_ct (H := H) _ _ 2 0 (by omega) ((m : Nat) : Int) _ _ gl (SlOk.ofRow (i := 0) H rfl) hgs hgw ((m + 1 : Nat) : Int) (by omega)) rfl rfl rfl fun v a w hR S => ?_
  obtain ⟨A4, c5, A6, c7, rfl, H⟩ := hR
  generalize hgC : Tr.traceR 2 0 ((m : Nat) : Int) gl ((m + 1 : Nat) : Int) = C at *
  refine r_y S H (y_move S rfl rfl) rfl rfl rfl fun a S => ?_
  refine r_y S H (y_extract (v := .agg #[.slice A4 ((C).1.length) c5, .slice A6 ((C).2.length) c7]) S rfl rfl rfl) rfl rfl rfl fun a S => ?_
  refine r_y S H (y_extract (v := .int .i64 (Tr.err (Tr.may 2 0 ((m : Nat) : Int) gl && decide (0 ≤ ((m + 1 : Nat) : Int))))) S rfl rfl rfl) rfl rfl rfl fun a S => ?_
  refine r_alloc S H rfl Try.zeroValue40 rfl rfl rfl rfl fun a w b8 S H => ?_
  refine r_store (vs := [.slice A4 ((C).1.length) c5, .slice A6 ((C).2.length) c7]) 0 S H rfl rfl rfl rfl Try.sizeOf40 rfl rfl (by simp [Value.oneCell']) rfl rfl rfl rfl rfl fun w H => ?_
  refine r_y S H (y_assign S rfl rfl) rfl rfl rfl fun a S => ?_
  refine r_nil ?_
  refine x_then ?_
  refine r_seq ?_
  refine r_seq ?_
  refine wp_via (J := fun a w => Slots a 127 [(0, .agg #[.int .i64 n, .slice A es.length c]), (1, .pointer (some ⟨b1, 0, none⟩)), (2, .bool false), (3, .bool true), (4, .pointer (some ⟨b8, 0, none⟩)), (5, .int .i64 (Tr.err (Tr.may 2 0 ((m : Nat) : Int) gl && decide (0 ≤ ((m + 1 : Nat) : Int))))), (11, .bool true), (12, .agg #[.int .i64 n, .slice A es.length c]), (13, .agg #[.int .i64 ((m : Nat) : Int), .slice A2 gl.length c3]), (14, .tuple #[.agg #[.slice A4 ((C).1.length) c5, .slice A6 ((C).2.length) c7], .int .i64 (Tr.err (Tr.may 2 0 ((m : Nat) : Int) gl && decide (0 ≤ ((m + 1 : Nat) : Int))))]), (15, .agg #[.int .i64 2, .int .u32 0]), (16, .agg #[.int .i64 ((m : Nat) : Int), .slice A2 gl.length c3]), (17, .pointer (some ⟨b1, 0, none⟩)), (18, .int .i64 ((m : Nat) : Int)), (19, .int .i64 ((m + 1 : Nat) : Int)), (20, .tuple #[.agg #[.slice A4 ((C).1.length) c5, .slice A6 ((C).2.length) c7], .int .i64 (Tr.err (Tr.may 2 0 ((m : Nat) : Int) gl && decide (0 ≤ ((m + 1 : Nat) : Int))))]), (21, .agg #[.slice A4 ((C).1.length) c5, .slice A6 ((C).2.length) c7]), (22, .int .i64 (Tr.err (Tr.may 2 0 ((m : Nat) : Int) gl && decide (0 ≤ ((m + 1 : Nat) : Int))))), (37, .bool false)] ∧ Sat w (blk b8 (.cells #[.slice A4 ((C).1.length) c5, .slice A6 ((C).2.length) c7] 40) :: row 25 1 (.slice A4 ((C).1.length) c5) ((C).1.length) (u64s (C).1) :: row 4 1 (.slice A6 ((C).2.length) c7) ((C).2.length) (bools (C).2) :: row 47 3 (.slice A2 gl.length c3) gl.length (ecells gl) :: blk b1 (.cells #[.int .i64 ((m : Nat) : Int), .slice A2 gl.length c3] 35) :: fr)) ?_ (fun a w hm => ?_)
  · skip
    refine r_region ?_
    refine r_y S H (y_move S rfl rfl) rfl rfl rfl fun a S => ?_
    refine r_y S H (y_ne S rfl rfl rfl) rfl rfl rfl fun a S => ?_
    have S := S.retell (v' := .bool false) 24 rfl (by rw [hmay, decide_eq_true (Int.natCast_nonneg _)]; rfl)
    refine r_y S H (y_move S rfl rfl) rfl rfl rfl fun a S => ?_
    refine r_y S H (y_fieldAddr S rfl rfl fa40_0) rfl rfl rfl fun a S => ?_
    refine r_y S H (y_load 0 S rfl rfl Try.isAgg37 rfl rfl) rfl rfl rfl fun a S => ?_
    refine r_y S H (y_len S rfl rfl Try.underlying37) rfl rfl rfl fun a S => ?_
    refine r_y S H (y_fieldAddr S rfl rfl fa35_0) rfl rfl rfl fun a S => ?_
    refine r_y S H (y_load 4 S rfl rfl Try.isAgg3 rfl rfl) rfl rfl rfl fun a S => ?_
    refine r_y S H (y_ne S rfl rfl rfl) rfl rfl rfl fun a S => ?_
    have S := S.retell (v' := .bool false) 31 rfl (by rw [hlen]; simp)
    refine r_y S H (y_pickF S rfl rfl rfl) rfl rfl rfl fun a S => ?_
    refine r_y S H (y_move S rfl rfl) rfl rfl rfl fun a S => ?_
    refine r_y S H (y_loadAgg [_, _] 0 S rfl rfl (fun w => ⟨Try.isAgg40 w, Try.sizeOf40 w⟩) rfl rfl ⟨rfl, rfl, trivial⟩) rfl rfl rfl fun a S => ?_
    refine r_call (args := #[.agg #[.slice A4 ((C).1.length) c5, .slice A6 ((C).2.length) c7]]) S rfl rfl Try.call25 (quiet_ct (H := H) _ _ _ _ ((C).1) (SlOk.ofRow (i := 1) H rfl) _ _ ((C).2) (SlOk.ofRow (i := 2) H rfl)) rfl rfl rfl fun v a w hR S => ?_
    obtain ⟨rfl, H⟩ := hR
    refine r_y S H (y_not S rfl rfl) rfl rfl rfl fun a S => ?_
    have S := S.retell (v' := .bool false) 36 rfl (by rw [hq]; rfl)
    refine r_y S H (y_pickF S rfl rfl rfl) rfl rfl rfl fun a S => ?_
    refine r_nil ?_
    refine x_then ?_
    exact ⟨S.sub ⟨rfl, rfl, rfl, rfl, rfl, rfl, rfl, rfl, rfl, rfl, rfl, rfl, rfl, rfl, rfl, rfl, rfl, rfl, rfl, trivial⟩, H⟩
  obtain ⟨S, H⟩ := hm
  refine x_then ?_
  refine r_condF S rfl ?_
  refine wp_skip ?_
  refine x_then ?_
  refine r_seq ?_
  refine r_seq ?_
  refine r_region ?_
  refine r_y S H (y_assign S rfl rfl) rfl rfl rfl fun a S => ?_
  refine r_nil ?_
  refine x_then ?_
  refine r_block ?_
  refine r_loop (ι := Nat) (fun q a w => Slots a 127 [(0, .agg #[.int .i64 n, .slice A es.length c]), (1, .pointer (some ⟨b1, 0, none⟩)), (3, .bool true), (4, .pointer (some ⟨b8, 0, none⟩)), (5, .int .i64 (Tr.err (Tr.may 2 0 ((m : Nat) : Int) gl && decide (0 ≤ ((m + 1 : Nat) : Int))))), (6, .int .i64 ((q : Nat) : Int)), (11, .bool true), (12, .agg #[.int .i64 n, .slice A es.length c]), (13, .agg #[.int .i64 ((m : Nat) : Int), .slice A2 gl.length c3]), (14, .tuple #[.agg #[.slice A4 ((C).1.length) c5, .slice A6 ((C).2.length) c7], .int .i64 (Tr.err (Tr.may 2 0 ((m : Nat) : Int) gl && decide (0 ≤ ((m + 1 : Nat) : Int))))]), (15, .agg #[.int .i64 2, .int .u32 0]), (16, .agg #[.int .i64 ((m : Nat) : Int), .slice A2 gl.length c3]), (17, .pointer (some ⟨b1, 0, none⟩)), (18, .int .i64 ((m : Nat) : Int)), (19, .int .i64 ((m + 1 : Nat) : Int)), (20, .tuple #[.agg #[.slice A4 ((C).1.length) c5, .slice A6 ((C).2.length) c7], .int .i64 (Tr.err (Tr.may 2 0 ((m : Nat) : Int) gl && decide (0 ≤ ((m + 1 : Nat) : Int))))]), (21, .agg #[.slice A4 ((C).1.length) c5, .slice A6 ((C).2.length) c7]), (22, .int .i64 (Tr.err (Tr.may 2 0 ((m : Nat) : Int) gl && decide (0 ≤ ((m + 1 : Nat) : Int))))), (37, .bool false)] ∧ Sat w (blk b8 (.cells #[.slice A4 ((C).1.length) c5, .slice A6 ((C).2.length) c7] 40) :: row 25 1 (.slice A4 ((C).1.length) c5) ((C).1.length) (u64s (C).1) :: row 4 1 (.slice A6 ((C).2.length) c7) ((C).2.length) (bools (C).2) :: row 47 3 (.slice A2 gl.length c3) gl.length (ecells gl) :: blk b1 (.cells #[.int .i64 ((m : Nat) : Int), .slice A2 gl.length c3] 35) :: fr) ∧ (q ≤ m)) (fun q => m - q) 0 ⟨S.sub ⟨rfl, rfl, rfl, rfl, rfl, rfl, rfl, rfl, rfl, rfl, rfl, rfl, rfl, rfl, rfl, rfl, rfl, rfl, rfl, trivial⟩, H, Nat.zero_le _⟩ (fun q a w hI => ?_)
  obtain ⟨S, H, hI⟩ := hI
  have hq1 := hI
  refine r_seq ?_
  refine r_seq ?_
  refine r_region ?_
  refine r_y S H (y_move S rfl rfl) rfl rfl rfl fun a S => ?_
  refine r_y S H (y_fieldAddr S rfl rfl fa35_0) rfl rfl rfl fun a S => ?_
  refine r_y S H (y_load 4 S rfl rfl Try.isAgg3 rfl rfl) rfl rfl rfl fun a S => ?_
  refine r_y S H (y_lt S rfl rfl rfl) rfl rfl rfl fun a S => ?_
  refine r_nil ?_
  refine x_then ?_
  refine r_test S rfl (fun h41 => ?_) (fun h41 => ?_)
  · skip
    refine wp_skip ?_
    refine x_then ?_
    refine r_seq ?_
    refine r_block ?_
    refine r_seq ?_
    refine r_region ?_
    refine r_y S H (y_fieldAddr S rfl rfl fa35_0) rfl rfl rfl fun a S => ?_
    refine r_y S H (y_load 4 S rfl rfl Try.isAgg3 rfl rfl) rfl rfl rfl fun a S => ?_
    refine r_make (len := m) S H rfl rfl rfl el38 (by simp only [maxLen]; omega) (by omega) rfl rfl rfl fun a w b9 S H => ?_
    rw [made_bools] at H
    refine r_y S H (y_assign S rfl rfl) rfl rfl rfl fun a S => ?_
    refine r_nil ?_
    refine x_then ?_
    refine r_seq ?_
    refine r_region ?_
    refine r_y S H (y_move S rfl rfl) rfl rfl rfl fun a S => ?_
    refine r_y S H (y_move S rfl rfl) rfl rfl rfl fun a S => ?_
    refine r_y S H (y_index S rfl rfl rfl Try.underlying38 Try.sizeOf4 (by omega) (by omega)) rfl rfl rfl fun a S => ?_
    refine r_setRowV (L' := row 4 1 (.slice (some ⟨b9, 0, none⟩) m m) m (bools ((List.replicate m false).set q true)) :: blk b8 (.cells #[.slice A4 ((C).1.length) c5, .slice A6 ((C).2.length) c7] 40) :: row 25 1 (.slice A4 ((C).1.length) c5) ((C).1.length) (u64s (C).1) :: row 4 1 (.slice A6 ((C).2.length) c7) ((C).2.length) (bools (C).2) :: row 47 3 (.slice A2 gl.length c3) gl.length (ecells gl) :: blk b1 (.cells #[.int .i64 ((m : Nat) : Int), .slice A2 gl.length c3] 35) :: fr) 0 S H rfl rfl rfl rfl Try.sizeOf4 rfl rfl (by first | omega | (simp <;> omega)) (xs' := bools ((List.replicate m false).set q true)) (bools_put (by omega) rfl) rfl rfl rfl fun w H => ?_
    refine r_nil ?_
    refine x_then ?_
    refine r_seq ?_
    refine r_seq ?_
    refine r_region ?_
    refine r_y S H (y_assign S rfl rfl) rfl rfl rfl fun a S => ?_
    refine r_nil ?_
    refine x_then ?_
    refine r_block ?_
    refine r_loop (ι := Nat) (fun r a w => Slots a 127 [(0, .agg #[.int .i64 n, .slice A es.length c]), (1, .pointer (some ⟨b1, 0, none⟩)), (3, .bool true), (4, .pointer (some ⟨b8, 0, none⟩)), (5, .int .i64 (Tr.err (Tr.may 2 0 ((m : Nat) : Int) gl && decide (0 ≤ ((m + 1 : Nat) : Int))))), (6, .int .i64 ((q : Nat) : Int)), (7, .slice (some ⟨b9, 0, none⟩) m m), (8, .int .i64 ((r : Nat) : Int)), (11, .bool true), (12, .agg #[.int .i64 n, .slice A es.length c]), (13, .agg #[.int .i64 ((m : Nat) : Int), .slice A2 gl.length c3]), (14, .tuple #[.agg #[.slice A4 ((C).1.length) c5, .slice A6 ((C).2.length) c7], .int .i64 (Tr.err (Tr.may 2 0 ((m : Nat) : Int) gl && decide (0 ≤ ((m + 1 : Nat) : Int))))]), (15, .agg #[.int .i64 2, .int .u32 0]), (16, .agg #[.int .i64 ((m : Nat) : Int), .slice A2 gl.length c3]), (17, .pointer (some ⟨b1, 0, none⟩)), (18, .int .i64 ((m : Nat) : Int)), (19, .int .i64 ((m + 1 : Nat) : Int)), (20, .tuple #[.agg #[.slice A4 ((C).1.length) c5, .slice A6 ((C).2.length) c7], .int .i64 (Tr.err (Tr.may 2 0 ((m : Nat) : Int) gl && decide (0 ≤ ((m + 1 : Nat) : Int))))]), (21, .agg #[.slice A4 ((C).1.length) c5, .slice A6 ((C).2.length) c7]), (22, .int .i64 (Tr.err (Tr.may 2 0 ((m : Nat) : Int) gl && decide (0 ≤ ((m + 1 : Nat) : Int))))), (37, .bool false), (38, .int .i64 ((q : Nat) : Int)), (39, .pointer (some ⟨b1, 0, none⟩)), (40, .int .i64 ((m : Nat) : Int)), (41, .bool (decide (((q : Nat) : Int) < ((m : Nat) : Int)))), (44, .pointer (some ⟨b1, 0, none⟩)), (45, .int .i64 ((m : Nat) : Int)), (46, .slice (some ⟨b9, 0, none⟩) m m), (47, .slice (some ⟨b9, 0, none⟩) m m), (48, .int .i64 ((q : Nat) : Int)), (49, .pointer (some ⟨b9, 0 + q * 1, none⟩))] ∧ Sat w (row 4 1 (.slice (some ⟨b9, 0, none⟩) m m) m (bools (Tr.lead gl q m r)) :: blk b8 (.cells #[.slice A4 ((C).1.length) c5, .slice A6 ((C).2.length) c7] 40) :: row 25 1 (.slice A4 ((C).1.length) c5) ((C).1.length) (u64s (C).1) :: row 4 1 (.slice A6 ((C).2.length) c7) ((C).2.length) (bools (C).2) :: row 47 3 (.slice A2 gl.length c3) gl.length (ecells gl) :: blk b1 (.cells #[.int .i64 ((m : Nat) : Int), .slice A2 gl.length c3] 35) :: fr) ∧ (r ≤ m)) (fun r => m - r) 0 ⟨S.sub ⟨rfl, rfl, rfl, rfl, rfl, rfl, rfl, rfl, rfl, rfl, rfl, rfl, rfl, rfl, rfl, rfl, rfl, rfl, rfl, rfl, rfl, rfl, rfl, rfl, rfl, rfl, rfl, rfl, rfl, rfl, rfl, trivial⟩, H, Nat.zero_le _⟩ (fun r a w hI => ?_)
    obtain ⟨S, H, hI⟩ := hI
    have hr1 := hI
    have hl2 := Tr.len_lead gl q m r
    refine r_seq ?_
    refine r_seq ?_
    refine r_region ?_
    refine r_y S H (y_move S rfl rfl) rfl rfl rfl fun a S => ?_
    refine r_y S H (y_fieldAddr S rfl rfl fa35_0) rfl rfl rfl fun a S => ?_
    refine r_y S H (y_load 5 S rfl rfl Try.isAgg3 rfl rfl) rfl rfl rfl fun a S => ?_
    refine r_y S H (y_lt S rfl rfl rfl) rfl rfl rfl fun a S => ?_
    refine r_nil ?_
    refine x_then ?_
    refine r_test S rfl (fun h53 => ?_) (fun h53 => ?_)
    · skip
      refine wp_skip ?_
      refine x_then ?_
      refine r_seq ?_
      refine r_block ?_
      refine r_seq ?_
      refine r_region ?_
      refine r_y S H (y_assign S rfl rfl) rfl rfl rfl fun a S => ?_
      refine r_nil ?_
      refine x_then ?_
      refine r_block ?_
      refine r_loop (ι := Nat) (fun i a w => Slots a 127 [(0, .agg #[.int .i64 n, .slice A es.length c]), (1, .pointer (some ⟨b1, 0, none⟩)), (3, .bool true), (4, .pointer (some ⟨b8, 0, none⟩)), (5, .int .i64 (Tr.err (Tr.may 2 0 ((m : Nat) : Int) gl && decide (0 ≤ ((m + 1 : Nat) : Int))))), (6, .int .i64 ((q : Nat) : Int)), (7, .slice (some ⟨b9, 0, none⟩) m m), (8, .int .i64 ((r : Nat) : Int)), (9, .int .i64 ((i : Nat) : Int)), (11, .bool true), (12, .agg #[.int .i64 n, .slice A es.length c]), (13, .agg #[.int .i64 ((m : Nat) : Int), .slice A2 gl.length c3]), (14, .tuple #[.agg #[.slice A4 ((C).1.length) c5, .slice A6 ((C).2.length) c7], .int .i64 (Tr.err (Tr.may 2 0 ((m : Nat) : Int) gl && decide (0 ≤ ((m + 1 : Nat) : Int))))]), (15, .agg #[.int .i64 2, .int .u32 0]), (16, .agg #[.int .i64 ((m : Nat) : Int), .slice A2 gl.length c3]), (17, .pointer (some ⟨b1, 0, none⟩)), (18, .int .i64 ((m : Nat) : Int)), (19, .int .i64 ((m + 1 : Nat) : Int)), (20, .tuple #[.agg #[.slice A4 ((C).1.length) c5, .slice A6 ((C).2.length) c7], .int .i64 (Tr.err (Tr.may 2 0 ((m : Nat) : Int) gl && decide (0 ≤ ((m + 1 : Nat) : Int))))]), (21, .agg #[.slice A4 ((C).1.length) c5, .slice A6 ((C).2.length) c7]), (22, .int .i64 (Tr.err (Tr.may 2 0 ((m : Nat) : Int) gl && decide (0 ≤ ((m + 1 : Nat) : Int))))), (37, .bool false), (38, .int .i64 ((q : Nat) : Int)), (39, .pointer (some ⟨b1, 0, none⟩)), (40, .int .i64 ((m : Nat) : Int)), (41, .bool (decide (((q : Nat) : Int) < ((m : Nat) : Int)))), (44, .pointer (some ⟨b1, 0, none⟩)), (45, .int .i64 ((m : Nat) : Int)), (46, .slice (some ⟨b9, 0, none⟩) m m), (47, .slice (some ⟨b9, 0, none⟩) m m), (48, .int .i64 ((q : Nat) : Int)), (49, .pointer (some ⟨b9, 0 + q * 1, none⟩)), (50, .int .i64 ((r : Nat) : Int)), (51, .pointer (some ⟨b1, 0, none⟩)), (52, .int .i64 ((m : Nat) : Int)), (53, .bool (decide (((r : Nat) : Int) < ((m : Nat) : Int))))] ∧ Sat w (row 4 1 (.slice (some ⟨b9, 0, none⟩) m m) m (bools (Tr.leadRound (gl.take i) (Tr.lead gl q m r))) :: blk b8 (.cells #[.slice A4 ((C).1.length) c5, .slice A6 ((C).2.length) c7] 40) :: row 25 1 (.slice A4 ((C).1.length) c5) ((C).1.length) (u64s (C).1) :: row 4 1 (.slice A6 ((C).2.length) c7) ((C).2.length) (bools (C).2) :: row 47 3 (.slice A2 gl.length c3) gl.length (ecells gl) :: blk b1 (.cells #[.int .i64 ((m : Nat) : Int), .slice A2 gl.length c3] 35) :: fr) ∧ (i ≤ gl.length)) (fun i => gl.length - i) 0 ⟨S.sub ⟨rfl, rfl, rfl, rfl, rfl, rfl, rfl, rfl, rfl, rfl, rfl, rfl, rfl, rfl, rfl, rfl, rfl, rfl, rfl, rfl, rfl, rfl, rfl, rfl, rfl, rfl, rfl, rfl, rfl, rfl, rfl, rfl, rfl, rfl, rfl, rfl, trivial⟩, H, Nat.zero_le _⟩ (fun i a w hI => ?_)
      obtain ⟨S, H, hI⟩ := hI
      have hl3 : (Tr.leadRound (gl.take i) (Tr.lead gl q m r)).length = m := by rw [Tr.len_leadRound, Tr.len_lead]
      refine r_seq ?_
      refine r_seq ?_
      refine r_region ?_
      refine r_y S H (y_move S rfl rfl) rfl rfl rfl fun a S => ?_
      refine r_y S H (y_fieldAddr S rfl rfl fa35_1) rfl rfl rfl fun a S => ?_
      refine r_y S H (y_load 5 S rfl rfl Try.isAgg33 rfl rfl) rfl rfl rfl fun a S => ?_
      refine r_y S H (y_len S rfl rfl Try.underlying33) rfl rfl rfl fun a S => ?_
      refine r_y S H (y_lt S rfl rfl rfl) rfl rfl rfl fun a S => ?_
      refine r_nil ?_
      refine x_then ?_
      refine r_test S rfl (fun h60 => ?_) (fun h60 => ?_)
      · skip
        have hb := hge _ (getD_mem (by omega : i < gl.length))
        refine wp_skip ?_
        refine x_then ?_
        refine r_seq ?_
        refine r_block ?_
        by_cases hx : ((Tr.leadRound (gl.take i) (Tr.lead gl q m r)).getD (gl.getD i e0).t false) = true
        · skip
          refine h_start (blk b8 (.cells #[.slice A4 ((C).1.length) c5, .slice A6 ((C).2.length) c7] 40) :: row 25 1 (.slice A4 ((C).1.length) c5) ((C).1.length) (u64s (C).1) :: row 4 1 (.slice A6 ((C).2.length) c7) ((C).2.length) (bools (C).2) :: row 47 3 (.slice A2 gl.length c3) gl.length (ecells gl) :: blk b1 (.cells #[.int .i64 ((m : Nat) : Int), .slice A2 gl.length c3] 35) :: fr) (ls := [false, false, false, false, false, false, false, false, false, false, false, false, false, false, false, false, false, false, false, false, false, false, false, false, false, false, false, false, false]) H rfl rfl fun w H => ?_
          have HS : Sat _ (blk b8 (.cells #[.slice A4 ((C).1.length) c5, .slice A6 ((C).2.length) c7] 40) :: row 25 1 (.slice A4 ((C).1.length) c5) ((C).1.length) (u64s (C).1) :: row 4 1 (.slice A6 ((C).2.length) c7) ((C).2.length) (bools (C).2) :: row 47 3 (.slice A2 gl.length c3) gl.length (ecells gl) :: blk b1 (.cells #[.int .i64 ((m : Nat) : Int), .slice A2 gl.length c3] 35) :: fr) := ((((((H.fetch (i := 5) rfl).fetch (i := 5) rfl).fetch (i := 5) rfl).fetch (i := 5) rfl).fetch (i := 5) rfl).sub (.cons_cons _ (.cons_cons _ (.cons_cons _ (.cons_cons _ (.cons_cons _ (.cons _ (List.Sublist.refl _))))))))
          refine h_y 0 S HS rfl (y_move S rfl rfl) rfl rfl rfl (by kernel_rfl) (by kernel_rfl) (by kernel_rfl) (ls' := [true, false, false, false, false, false, false, false, false, false, false, false, false, false, false, false, false, false, false, false, false, false, false, false, false, false, false, false, false]) rfl (fun _ _ _ h => h) fun a S => ?_
          refine h_y 1 S HS rfl (y_fieldAddr S rfl rfl fa35_1) rfl rfl rfl (by kernel_rfl) (by kernel_rfl) (by kernel_rfl) (ls' := [true, true, false, false, false, false, false, false, false, false, false, false, false, false, false, false, false, false, false, false, false, false, false, false, false, false, false, false, false]) rfl (fun _ _ _ h => h) fun a S => ?_
          refine h_y 2 S HS rfl (y_load 4 S rfl rfl Try.isAgg33 rfl rfl) rfl rfl rfl (by kernel_rfl) (by kernel_rfl) (by kernel_rfl) (ls' := [true, true, true, false, false, false, false, false, false, false, false, false, false, false, false, false, false, false, false, false, false, false, false, false, false, false, false, false, false]) rfl (fun _ _ _ h => h) fun a S => ?_
          refine h_y 3 S HS rfl (y_move S rfl rfl) rfl rfl rfl (by kernel_rfl) (by kernel_rfl) (by kernel_rfl) (ls' := [true, true, true, true, false, false, false, false, false, false, false, false, false, false, false, false, false, false, false, false, false, false, false, false, false, false, false, false, false]) rfl (fun _ _ _ h => h) fun a S => ?_
          obtain ⟨b10, rfl⟩ := HS.rowAt (i := 3) rfl (by first | omega | (simp <;> omega))
          refine h_y 4 S HS rfl (y_index S rfl rfl rfl Try.underlying33 Try.sizeOf47 (by omega) (by omega)) rfl rfl rfl (by kernel_rfl) (by kernel_rfl) (by kernel_rfl) (ls' := [true, true, true, true, true, false, false, false, false, false, false, false, false, false, false, false, false, false, false, false, false, false, false, false, false, false, false, false, false]) rfl (fun _ _ _ h => h) fun a S => ?_
          refine h_y 5 S HS rfl (y_fieldAddr S rfl rfl fa47_1) rfl rfl rfl (by kernel_rfl) (by kernel_rfl) (by kernel_rfl) (ls' := [true, true, true, true, true, true, false, false, false, false, false, false, false, false, false, false, false, false, false, false, false, false, false, false, false, false, false, false, false]) rfl (fun _ _ _ h => h) fun a S => ?_
          refine h_y 6 S HS rfl (y_loadAt S rfl rfl Try.isAgg22 (fun w H => (SlOk.ofRow (i := 3) HS rfl).cell w H (ecells_t (i := i) (by omega)))) rfl rfl rfl (by kernel_rfl) (by kernel_rfl) (by kernel_rfl) (ls' := [true, true, true, true, true, true, true, false, false, false, false, false, false, false, false, false, false, false, false, false, false, false, false, false, false, false, false, false, false]) rfl (fun _ _ _ h => h) fun a S => ?_
          refine h_y 7 S HS rfl (y_move S rfl rfl) rfl rfl rfl (by kernel_rfl) (by kernel_rfl) (by kernel_rfl) (ls' := [true, true, true, true, true, true, true, true, false, false, false, false, false, false, false, false, false, false, false, false, false, false, false, false, false, false, false, false, false]) rfl (fun _ _ _ h => h) fun a S => ?_
          refine h_y 8 S HS rfl (y_fieldAddr S rfl rfl fa35_1) rfl rfl rfl (by kernel_rfl) (by kernel_rfl) (by kernel_rfl) (ls' := [true, true, true, true, true, true, true, true, true, false, false, false, false, false, false, false, false, false, false, false, false, false, false, false, false, false, false, false, false]) rfl (fun _ _ _ h => h) fun a S => ?_
          refine h_y 9 S HS rfl (y_load 4 S rfl rfl Try.isAgg33 rfl rfl) rfl rfl rfl (by kernel_rfl) (by kernel_rfl) (by kernel_rfl) (ls' := [true, true, true, true, true, true, true, true, true, true, false, false, false, false, false, false, false, false, false, false, false, false, false, false, false, false, false, false, false]) rfl (fun _ _ _ h => h) fun a S => ?_
          refine h_y 10 S HS rfl (y_move S rfl rfl) rfl rfl rfl (by kernel_rfl) (by kernel_rfl) (by kernel_rfl) (ls' := [true, true, true, true, true, true, true, true, true, true, true, false, false, false, false, false, false, false, false, false, false, false, false, false, false, false, false, false, false]) rfl (fun _ _ _ h => h) fun a S => ?_
          refine h_y 11 S HS rfl (y_index S rfl rfl rfl Try.underlying33 Try.sizeOf47 (by omega) (by omega)) rfl rfl rfl (by kernel_rfl) (by kernel_rfl) (by kernel_rfl) (ls' := [true, true, true, true, true, true, true, true, true, true, true, true, false, false, false, false, false, false, false, false, false, false, false, false, false, false, false, false, false]) rfl (fun _ _ _ h => h) fun a S => ?_
          refine h_y 12 S HS rfl (y_fieldAddr S rfl rfl fa47_1) rfl rfl rfl (by kernel_rfl) (by kernel_rfl) (by kernel_rfl) (ls' := [true, true, true, true, true, true, true, true, true, true, true, true, true, false, false, false, false, false, false, false, false, false, false, false, false, false, false, false, false]) rfl (fun _ _ _ h => h) fun a S => ?_
          refine h_y 13 S HS rfl (y_loadAt S rfl rfl Try.isAgg22 (fun w H => (SlOk.ofRow (i := 3) HS rfl).cell w H (ecells_t (i := i) (by omega)))) rfl rfl rfl (by kernel_rfl) (by kernel_rfl) (by kernel_rfl) (ls' := [true, true, true, true, true, true, true, true, true, true, true, true, true, true, false, false, false, false, false, false, false, false, false, false, false, false, false, false, false]) rfl (fun _ _ _ h => h) fun a S => ?_
          refine h_y 14 S HS rfl (y_index S rfl rfl rfl Try.underlying38 Try.sizeOf4 (by omega) (by omega)) rfl rfl rfl (by kernel_rfl) (by kernel_rfl) (by kernel_rfl) (ls' := [true, true, true, true, true, true, true, true, true, true, true, true, true, true, true, false, false, false, false, false, false, false, false, false, false, false, false, false, false]) rfl (fun _ _ _ h => h) fun a S => ?_
          refine h_all (r := 15) (rs := []) (by kernel_rfl) ⟨h_op (ls' := [true, true, true, true, true, true, true, true, true, true, true, true, true, true, true, true, false, false, false, false, false, false, false, false, false, false, false, false, false]) rfl rfl ?_, trivial⟩
          refine r_y S H (y_loadAt S rfl rfl Try.isAgg4 (fun w H => (SlOk.ofRow (i := 0) H rfl).cell w H (bools_at (i := ((gl.getD i e0).t)) (by first | omega | (simp <;> omega))))) rfl rfl rfl fun a S => ?_
          have S := S.retell (v' := .bool true) 78 rfl (by rw [hx])
          refine r_nil ?_
          refine x_then ?_
          have HS : Sat _ (blk b8 (.cells #[.slice A4 ((C).1.length) c5, .slice A6 ((C).2.length) c7] 40) :: row 25 1 (.slice A4 ((C).1.length) c5) ((C).1.length) (u64s (C).1) :: row 4 1 (.slice A6 ((C).2.length) c7) ((C).2.length) (bools (C).2) :: row 47 3 (.slice (some ⟨b10, 0, none⟩) gl.length c3) gl.length (ecells gl) :: blk b1 (.cells #[.int .i64 ((m : Nat) : Int), .slice (some ⟨b10, 0, none⟩) gl.length c3] 35) :: fr) := ((((((H.fetch (i := 5) rfl).fetch (i := 5) rfl).fetch (i := 5) rfl).fetch (i := 5) rfl).fetch (i := 5) rfl).sub (.cons_cons _ (.cons_cons _ (.cons_cons _ (.cons_cons _ (.cons_cons _ (.cons _ (List.Sublist.refl _))))))))
          refine ⟨HS, ?_⟩
          refine h_y 16 S HS rfl (y_move S rfl rfl) rfl rfl rfl (by kernel_rfl) (by kernel_rfl) (by kernel_rfl) (ls' := [true, true, true, true, true, true, true, true, true, true, true, true, true, true, true, true, true, false, false, false, false, false, false, false, false, false, false, false, false]) rfl (fun _ _ _ h => h) fun a S => ?_
          refine h_skip 17 S HS rfl rfl rfl rfl (by kernel_rfl) (by kernel_rfl) (by kernel_rfl) (ls' := [true, true, true, true, true, true, true, true, true, true, true, true, true, true, true, true, true, true, false, false, false, false, false, false, false, false, false, false, false]) rfl (fun _ _ _ h => h) fun a S => ?_
          refine h_skip 18 S HS rfl rfl rfl rfl (by kernel_rfl) (by kernel_rfl) (by kernel_rfl) (ls' := [true, true, true, true, true, true, true, true, true, true, true, true, true, true, true, true, true, true, true, false, false, false, false, false, false, false, false, false, false]) rfl (fun _ _ _ h => h) fun a S => ?_
          refine h_skip 19 S HS rfl rfl rfl rfl (by kernel_rfl) (by kernel_rfl) (by kernel_rfl) (ls' := [true, true, true, true, true, true, true, true, true, true, true, true, true, true, true, true, true, true, true, true, false, false, false, false, false, false, false, false, false]) rfl (fun _ _ _ h => h) fun a S => ?_
          refine h_skip 20 S HS rfl rfl rfl rfl (by kernel_rfl) (by kernel_rfl) (by kernel_rfl) (ls' := [true, true, true, true, true, true, true, true, true, true, true, true, true, true, true, true, true, true, true, true, true, false, false, false, false, false, false, false, false]) rfl (fun _ _ _ h => h) fun a S => ?_
          refine h_skip 21 S HS rfl rfl rfl rfl (by kernel_rfl) (by kernel_rfl) (by kernel_rfl) (ls' := [true, true, true, true, true, true, true, true, true, true, true, true, true, true, true, true, true, true, true, true, true, true, false, false, false, false, false, false, false]) rfl (fun _ _ _ h => h) fun a S => ?_
          refine h_skip 22 S HS rfl rfl rfl rfl (by kernel_rfl) (by kernel_rfl) (by kernel_rfl) (ls' := [true, true, true, true, true, true, true, true, true, true, true, true, true, true, true, true, true, true, true, true, true, true, true, false, false, false, false, false, false]) rfl (fun _ _ _ h => h) fun a S => ?_
          refine h_skip 23 S HS rfl rfl rfl rfl (by kernel_rfl) (by kernel_rfl) (by kernel_rfl) (ls' := [true, true, true, true, true, true, true, true, true, true, true, true, true, true, true, true, true, true, true, true, true, true, true, true, false, false, false, false, false]) rfl (fun _ _ _ h => h) fun a S => ?_
          refine h_skip 24 S HS rfl rfl rfl rfl (by kernel_rfl) (by kernel_rfl) (by kernel_rfl) (ls' := [true, true, true, true, true, true, true, true, true, true, true, true, true, true, true, true, true, true, true, true, true, true, true, true, true, false, false, false, false]) rfl (fun _ _ _ h => h) fun a S => ?_
          refine h_skip 25 S HS rfl rfl rfl rfl (by kernel_rfl) (by kernel_rfl) (by kernel_rfl) (ls' := [true, true, true, true, true, true, true, true, true, true, true, true, true, true, true, true, true, true, true, true, true, true, true, true, true, true, false, false, false]) rfl (fun _ _ _ h => h) fun a S => ?_
          refine h_y 26 S HS rfl (y_pickT S rfl rfl rfl) rfl rfl rfl (by kernel_rfl) (by kernel_rfl) (by kernel_rfl) (ls' := [true, true, true, true, true, true, true, true, true, true, true, true, true, true, true, true, true, true, true, true, true, true, true, true, true, true, true, false, false]) rfl (fun _ _ _ h => h) fun a S => ?_
          refine h_y 27 S HS rfl (y_index S rfl rfl rfl Try.underlying38 Try.sizeOf4 (by omega) (by omega)) rfl rfl rfl (by kernel_rfl) (by kernel_rfl) (by kernel_rfl) (ls' := [true, true, true, true, true, true, true, true, true, true, true, true, true, true, true, true, true, true, true, true, true, true, true, true, true, true, true, true, false]) rfl (fun _ _ _ h => h) fun a S => ?_
          refine h_all (r := 28) (rs := []) (by kernel_rfl) ⟨h_op (ls' := [true, true, true, true, true, true, true, true, true, true, true, true, true, true, true, true, true, true, true, true, true, true, true, true, true, true, true, true, true]) rfl rfl ?_, trivial⟩
          refine r_setRowV (L' := row 4 1 (.slice (some ⟨b9, 0, none⟩) m m) m (bools ((Tr.leadRound (gl.take i) (Tr.lead gl q m r)).set ((gl.getD i e0).t) true)) :: blk b8 (.cells #[.slice A4 ((C).1.length) c5, .slice A6 ((C).2.length) c7] 40) :: row 25 1 (.slice A4 ((C).1.length) c5) ((C).1.length) (u64s (C).1) :: row 4 1 (.slice A6 ((C).2.length) c7) ((C).2.length) (bools (C).2) :: row 47 3 (.slice (some ⟨b10, 0, none⟩) gl.length c3) gl.length (ecells gl) :: blk b1 (.cells #[.int .i64 ((m : Nat) : Int), .slice (some ⟨b10, 0, none⟩) gl.length c3] 35) :: fr) 0 S H rfl rfl rfl rfl Try.sizeOf4 rfl rfl (by first | omega | (simp <;> omega)) (xs' := bools ((Tr.leadRound (gl.take i) (Tr.lead gl q m r)).set ((gl.getD i e0).t) true)) (bools_put (by omega) rfl) rfl rfl rfl fun w H => ?_
          refine r_nil ?_
          refine x_then ?_
          have HS : Sat _ (blk b8 (.cells #[.slice A4 ((C).1.length) c5, .slice A6 ((C).2.length) c7] 40) :: row 25 1 (.slice A4 ((C).1.length) c5) ((C).1.length) (u64s (C).1) :: row 4 1 (.slice A6 ((C).2.length) c7) ((C).2.length) (bools (C).2) :: row 47 3 (.slice (some ⟨b10, 0, none⟩) gl.length c3) gl.length (ecells gl) :: blk b1 (.cells #[.int .i64 ((m : Nat) : Int), .slice (some ⟨b10, 0, none⟩) gl.length c3] 35) :: fr) := ((((((H.fetch (i := 5) rfl).fetch (i := 5) rfl).fetch (i := 5) rfl).fetch (i := 5) rfl).fetch (i := 5) rfl).sub (.cons_cons _ (.cons_cons _ (.cons_cons _ (.cons_cons _ (.cons_cons _ (.cons _ (List.Sublist.refl _))))))))
          refine ⟨HS, ?_⟩
          refine h_done (by kernel_rfl) ?_
          refine x_blockEnd ?_
          refine x_then ?_
          refine r_region ?_
          refine r_y S H (y_move S rfl rfl) rfl rfl rfl fun a S => ?_
          refine r_y S H (y_add S rfl rfl rfl (wi64 (by omega) (by omega))) rfl rfl rfl fun a S => ?_
          refine r_y S H (y_assign S rfl rfl) rfl rfl rfl fun a S => ?_
          refine r_nil ?_
          refine x_then ?_
          rw [show (Tr.leadRound (gl.take i) (Tr.lead gl q m r)).set (gl.getD i e0).t true = Tr.leadRound (gl.take (i + 1)) (Tr.lead gl q m r) from by rw [Tr.leadRound_snoc (by omega), hx]; rfl] at H
          exact ⟨i + 1, ⟨S.sub ⟨rfl, rfl, rfl, rfl, rfl, rfl, rfl, rfl, rfl, rfl, rfl, rfl, rfl, rfl, rfl, rfl, rfl, rfl, rfl, rfl, rfl, rfl, rfl, rfl, rfl, rfl, rfl, rfl, rfl, rfl, rfl, rfl, rfl, rfl, rfl, rfl, trivial⟩, ((((((H.fetch (i := 5) rfl).fetch (i := 5) rfl).fetch (i := 5) rfl).fetch (i := 5) rfl).fetch (i := 5) rfl).fetch (i := 5) rfl), by omega⟩, by omega⟩
        · skip
          refine h_start (blk b8 (.cells #[.slice A4 ((C).1.length) c5, .slice A6 ((C).2.length) c7] 40) :: row 25 1 (.slice A4 ((C).1.length) c5) ((C).1.length) (u64s (C).1) :: row 4 1 (.slice A6 ((C).2.length) c7) ((C).2.length) (bools (C).2) :: row 47 3 (.slice A2 gl.length c3) gl.length (ecells gl) :: blk b1 (.cells #[.int .i64 ((m : Nat) : Int), .slice A2 gl.length c3] 35) :: fr) (ls := [false, false, false, false, false, false, false, false, false, false, false, false, false, false, false, false, false, false, false, false, false, false, false, false, false, false, false, false, false]) H rfl rfl fun w H => ?_
          have HS : Sat _ (blk b8 (.cells #[.slice A4 ((C).1.length) c5, .slice A6 ((C).2.length) c7] 40) :: row 25 1 (.slice A4 ((C).1.length) c5) ((C).1.length) (u64s (C).1) :: row 4 1 (.slice A6 ((C).2.length) c7) ((C).2.length) (bools (C).2) :: row 47 3 (.slice A2 gl.length c3) gl.length (ecells gl) :: blk b1 (.cells #[.int .i64 ((m : Nat) : Int), .slice A2 gl.length c3] 35) :: fr) := ((((((H.fetch (i := 5) rfl).fetch (i := 5) rfl).fetch (i := 5) rfl).fetch (i := 5) rfl).fetch (i := 5) rfl).sub (.cons_cons _ (.cons_cons _ (.cons_cons _ (.cons_cons _ (.cons_cons _ (.cons _ (List.Sublist.refl _))))))))
          refine h_y 0 S HS rfl (y_move S rfl rfl) rfl rfl rfl (by kernel_rfl) (by kernel_rfl) (by kernel_rfl) (ls' := [true, false, false, false, false, false, false, false, false, false, false, false, false, false, false, false, false, false, false, false, false, false, false, false, false, false, false, false, false]) rfl (fun _ _ _ h => h) fun a S => ?_
          refine h_y 1 S HS rfl (y_fieldAddr S rfl rfl fa35_1) rfl rfl rfl (by kernel_rfl) (by kernel_rfl) (by kernel_rfl) (ls' := [true, true, false, false, false, false, false, false, false, false, false, false, false, false, false, false, false, false, false, false, false, false, false, false, false, false, false, false, false]) rfl (fun _ _ _ h => h) fun a S => ?_
          refine h_y 2 S HS rfl (y_load 4 S rfl rfl Try.isAgg33 rfl rfl) rfl rfl rfl (by kernel_rfl) (by kernel_rfl) (by kernel_rfl) (ls' := [true, true, true, false, false, false, false, false, false, false, false, false, false, false, false, false, false, false, false, false, false, false, false, false, false, false, false, false, false]) rfl (fun _ _ _ h => h) fun a S => ?_
          refine h_y 3 S HS rfl (y_move S rfl rfl) rfl rfl rfl (by kernel_rfl) (by kernel_rfl) (by kernel_rfl) (ls' := [true, true, true, true, false, false, false, false, false, false, false, false, false, false, false, false, false, false, false, false, false, false, false, false, false, false, false, false, false]) rfl (fun _ _ _ h => h) fun a S => ?_
          obtain ⟨b12, rfl⟩ := HS.rowAt (i := 3) rfl (by first | omega | (simp <;> omega))
          refine h_y 4 S HS rfl (y_index S rfl rfl rfl Try.underlying33 Try.sizeOf47 (by omega) (by omega)) rfl rfl rfl (by kernel_rfl) (by kernel_rfl) (by kernel_rfl) (ls' := [true, true, true, true, true, false, false, false, false, false, false, false, false, false, false, false, false, false, false, false, false, false, false, false, false, false, false, false, false]) rfl (fun _ _ _ h => h) fun a S => ?_
          refine h_y 5 S HS rfl (y_fieldAddr S rfl rfl fa47_1) rfl rfl rfl (by kernel_rfl) (by kernel_rfl) (by kernel_rfl) (ls' := [true, true, true, true, true, true, false, false, false, false, false, false, false, false, false, false, false, false, false, false, false, false, false, false, false, false, false, false, false]) rfl (fun _ _ _ h => h) fun a S => ?_
          refine h_y 6 S HS rfl (y_loadAt S rfl rfl Try.isAgg22 (fun w H => (SlOk.ofRow (i := 3) HS rfl).cell w H (ecells_t (i := i) (by omega)))) rfl rfl rfl (by kernel_rfl) (by kernel_rfl) (by kernel_rfl) (ls' := [true, true, true, true, true, true, true, false, false, false, false, false, false, false, false, false, false, false, false, false, false, false, false, false, false, false, false, false, false]) rfl (fun _ _ _ h => h) fun a S => ?_
          refine h_y 7 S HS rfl (y_move S rfl rfl) rfl rfl rfl (by kernel_rfl) (by kernel_rfl) (by kernel_rfl) (ls' := [true, true, true, true, true, true, true, true, false, false, false, false, false, false, false, false, false, false, false, false, false, false, false, false, false, false, false, false, false]) rfl (fun _ _ _ h => h) fun a S => ?_
          refine h_y 8 S HS rfl (y_fieldAddr S rfl rfl fa35_1) rfl rfl rfl (by kernel_rfl) (by kernel_rfl) (by kernel_rfl) (ls' := [true, true, true, true, true, true, true, true, true, false, false, false, false, false, false, false, false, false, false, false, false, false, false, false, false, false, false, false, false]) rfl (fun _ _ _ h => h) fun a S => ?_
          refine h_y 9 S HS rfl (y_load 4 S rfl rfl Try.isAgg33 rfl rfl) rfl rfl rfl (by kernel_rfl) (by kernel_rfl) (by kernel_rfl) (ls' := [true, true, true, true, true, true, true, true, true, true, false, false, false, false, false, false, false, false, false, false, false, false, false, false, false, false, false, false, false]) rfl (fun _ _ _ h => h) fun a S => ?_
          refine h_y 10 S HS rfl (y_move S rfl rfl) rfl rfl rfl (by kernel_rfl) (by kernel_rfl) (by kernel_rfl) (ls' := [true, true, true, true, true, true, true, true, true, true, true, false, false, false, false, false, false, false, false, false, false, false, false, false, false, false, false, false, false]) rfl (fun _ _ _ h => h) fun a S => ?_
          refine h_y 11 S HS rfl (y_index S rfl rfl rfl Try.underlying33 Try.sizeOf47 (by omega) (by omega)) rfl rfl rfl (by kernel_rfl) (by kernel_rfl) (by kernel_rfl) (ls' := [true, true, true, true, true, true, true, true, true, true, true, true, false, false, false, false, false, false, false, false, false, false, false, false, false, false, false, false, false]) rfl (fun _ _ _ h => h) fun a S => ?_
          refine h_y 12 S HS rfl (y_fieldAddr S rfl rfl fa47_1) rfl rfl rfl (by kernel_rfl) (by kernel_rfl) (by kernel_rfl) (ls' := [true, true, true, true, true, true, true, true, true, true, true, true, true, false, false, false, false, false, false, false, false, false, false, false, false, false, false, false, false]) rfl (fun _ _ _ h => h) fun a S => ?_
          refine h_y 13 S HS rfl (y_loadAt S rfl rfl Try.isAgg22 (fun w H => (SlOk.ofRow (i := 3) HS rfl).cell w H (ecells_t (i := i) (by omega)))) rfl rfl rfl (by kernel_rfl) (by kernel_rfl) (by kernel_rfl) (ls' := [true, true, true, true, true, true, true, true, true, true, true, true, true, true, false, false, false, false, false, false, false, false, false, false, false, false, false, false, false]) rfl (fun _ _ _ h => h) fun a S => ?_
          refine h_y 14 S HS rfl (y_index S rfl rfl rfl Try.underlying38 Try.sizeOf4 (by omega) (by omega)) rfl rfl rfl (by kernel_rfl) (by kernel_rfl) (by kernel_rfl) (ls' := [true, true, true, true, true, true, true, true, true, true, true, true, true, true, true, false, false, false, false, false, false, false, false, false, false, false, false, false, false]) rfl (fun _ _ _ h => h) fun a S => ?_
          refine h_all (r := 15) (rs := []) (by kernel_rfl) ⟨h_op (ls' := [true, true, true, true, true, true, true, true, true, true, true, true, true, true, true, true, false, false, false, false, false, false, false, false, false, false, false, false, false]) rfl rfl ?_, trivial⟩
          refine r_y S H (y_loadAt S rfl rfl Try.isAgg4 (fun w H => (SlOk.ofRow (i := 0) H rfl).cell w H (bools_at (i := ((gl.getD i e0).t)) (by first | omega | (simp <;> omega))))) rfl rfl rfl fun a S => ?_
          have S := S.retell (v' := .bool false) 78 rfl (by rw [Bool.not_eq_true] at hx; rw [hx])
          refine r_nil ?_
          refine x_then ?_
          have HS : Sat _ (blk b8 (.cells #[.slice A4 ((C).1.length) c5, .slice A6 ((C).2.length) c7] 40) :: row 25 1 (.slice A4 ((C).1.length) c5) ((C).1.length) (u64s (C).1) :: row 4 1 (.slice A6 ((C).2.length) c7) ((C).2.length) (bools (C).2) :: row 47 3 (.slice (some ⟨b12, 0, none⟩) gl.length c3) gl.length (ecells gl) :: blk b1 (.cells #[.int .i64 ((m : Nat) : Int), .slice (some ⟨b12, 0, none⟩) gl.length c3] 35) :: fr) := ((((((H.fetch (i := 5) rfl).fetch (i := 5) rfl).fetch (i := 5) rfl).fetch (i := 5) rfl).fetch (i := 5) rfl).sub (.cons_cons _ (.cons_cons _ (.cons_cons _ (.cons_cons _ (.cons_cons _ (.cons _ (List.Sublist.refl _))))))))
          refine ⟨HS, ?_⟩
          refine h_y 16 S HS rfl (y_move S rfl rfl) rfl rfl rfl (by kernel_rfl) (by kernel_rfl) (by kernel_rfl) (ls' := [true, true, true, true, true, true, true, true, true, true, true, true, true, true, true, true, true, false, false, false, false, false, false, false, false, false, false, false, false]) rfl (fun _ _ _ h => h) fun a S => ?_
          refine h_y 17 S HS rfl (y_move S rfl rfl) rfl rfl rfl (by kernel_rfl) (by kernel_rfl) (by kernel_rfl) (ls' := [true, true, true, true, true, true, true, true, true, true, true, true, true, true, true, true, true, true, false, false, false, false, false, false, false, false, false, false, false]) rfl (fun _ _ _ h => h) fun a S => ?_
          refine h_y 18 S HS rfl (y_fieldAddr S rfl rfl fa35_1) rfl rfl rfl (by kernel_rfl) (by kernel_rfl) (by kernel_rfl) (ls' := [true, true, true, true, true, true, true, true, true, true, true, true, true, true, true, true, true, true, true, false, false, false, false, false, false, false, false, false, false]) rfl (fun _ _ _ h => h) fun a S => ?_
          refine h_y 19 S HS rfl (y_load 4 S rfl rfl Try.isAgg33 rfl rfl) rfl rfl rfl (by kernel_rfl) (by kernel_rfl) (by kernel_rfl) (ls' := [true, true, true, true, true, true, true, true, true, true, true, true, true, true, true, true, true, true, true, true, false, false, false, false, false, false, false, false, false]) rfl (fun _ _ _ h => h) fun a S => ?_
          refine h_y 20 S HS rfl (y_move S rfl rfl) rfl rfl rfl (by kernel_rfl) (by kernel_rfl) (by kernel_rfl) (ls' := [true, true, true, true, true, true, true, true, true, true, true, true, true, true, true, true, true, true, true, true, true, false, false, false, false, false, false, false, false]) rfl (fun _ _ _ h => h) fun a S => ?_
          refine h_y 21 S HS rfl (y_index S rfl rfl rfl Try.underlying33 Try.sizeOf47 (by omega) (by omega)) rfl rfl rfl (by kernel_rfl) (by kernel_rfl) (by kernel_rfl) (ls' := [true, true, true, true, true, true, true, true, true, true, true, true, true, true, true, true, true, true, true, true, true, true, false, false, false, false, false, false, false]) rfl (fun _ _ _ h => h) fun a S => ?_
          refine h_y 22 S HS rfl (y_fieldAddr S rfl rfl fa47_0) rfl rfl rfl (by kernel_rfl) (by kernel_rfl) (by kernel_rfl) (ls' := [true, true, true, true, true, true, true, true, true, true, true, true, true, true, true, true, true, true, true, true, true, true, true, false, false, false, false, false, false]) rfl (fun _ _ _ h => h) fun a S => ?_
          refine h_y 23 S HS rfl (y_loadAt S rfl rfl Try.isAgg22 (fun w H => (SlOk.ofRow (i := 3) HS rfl).cell w H (ecells_f (i := i) (by omega)))) rfl rfl rfl (by kernel_rfl) (by kernel_rfl) (by kernel_rfl) (ls' := [true, true, true, true, true, true, true, true, true, true, true, true, true, true, true, true, true, true, true, true, true, true, true, true, false, false, false, false, false]) rfl (fun _ _ _ h => h) fun a S => ?_
          refine h_y 24 S HS rfl (y_index S rfl rfl rfl Try.underlying38 Try.sizeOf4 (by omega) (by omega)) rfl rfl rfl (by kernel_rfl) (by kernel_rfl) (by kernel_rfl) (ls' := [true, true, true, true, true, true, true, true, true, true, true, true, true, true, true, true, true, true, true, true, true, true, true, true, true, false, false, false, false]) rfl (fun _ _ _ h => h) fun a S => ?_
          refine h_all (r := 25) (rs := []) (by kernel_rfl) ⟨h_op (ls' := [true, true, true, true, true, true, true, true, true, true, true, true, true, true, true, true, true, true, true, true, true, true, true, true, true, true, false, false, false]) rfl rfl ?_, trivial⟩
          refine r_y S H (y_loadAt S rfl rfl Try.isAgg4 (fun w H => (SlOk.ofRow (i := 0) H rfl).cell w H (bools_at (i := ((gl.getD i e0).f)) (by first | omega | (simp <;> omega))))) rfl rfl rfl fun a S => ?_
          refine r_nil ?_
          refine x_then ?_
          have HS : Sat _ (blk b8 (.cells #[.slice A4 ((C).1.length) c5, .slice A6 ((C).2.length) c7] 40) :: row 25 1 (.slice A4 ((C).1.length) c5) ((C).1.length) (u64s (C).1) :: row 4 1 (.slice A6 ((C).2.length) c7) ((C).2.length) (bools (C).2) :: row 47 3 (.slice (some ⟨b12, 0, none⟩) gl.length c3) gl.length (ecells gl) :: blk b1 (.cells #[.int .i64 ((m : Nat) : Int), .slice (some ⟨b12, 0, none⟩) gl.length c3] 35) :: fr) := ((((((H.fetch (i := 5) rfl).fetch (i := 5) rfl).fetch (i := 5) rfl).fetch (i := 5) rfl).fetch (i := 5) rfl).sub (.cons_cons _ (.cons_cons _ (.cons_cons _ (.cons_cons _ (.cons_cons _ (.cons _ (List.Sublist.refl _))))))))
          refine ⟨HS, ?_⟩
          refine h_y 26 S HS rfl (y_pickF S rfl rfl rfl) rfl rfl rfl (by kernel_rfl) (by kernel_rfl) (by kernel_rfl) (ls' := [true, true, true, true, true, true, true, true, true, true, true, true, true, true, true, true, true, true, true, true, true, true, true, true, true, true, true, false, false]) rfl (fun _ _ _ h => h) fun a S => ?_
          refine h_y 27 S HS rfl (y_index S rfl rfl rfl Try.underlying38 Try.sizeOf4 (by omega) (by omega)) rfl rfl rfl (by kernel_rfl) (by kernel_rfl) (by kernel_rfl) (ls' := [true, true, true, true, true, true, true, true, true, true, true, true, true, true, true, true, true, true, true, true, true, true, true, true, true, true, true, true, false]) rfl (fun _ _ _ h => h) fun a S => ?_
          refine h_all (r := 28) (rs := []) (by kernel_rfl) ⟨h_op (ls' := [true, true, true, true, true, true, true, true, true, true, true, true, true, true, true, true, true, true, true, true, true, true, true, true, true, true, true, true, true]) rfl rfl ?_, trivial⟩
          refine r_setRowV (L' := row 4 1 (.slice (some ⟨b9, 0, none⟩) m m) m (bools ((Tr.leadRound (gl.take i) (Tr.lead gl q m r)).set ((gl.getD i e0).t) ((Tr.leadRound (gl.take i) (Tr.lead gl q m r)).getD ((gl.getD i e0).f) false))) :: blk b8 (.cells #[.slice A4 ((C).1.length) c5, .slice A6 ((C).2.length) c7] 40) :: row 25 1 (.slice A4 ((C).1.length) c5) ((C).1.length) (u64s (C).1) :: row 4 1 (.slice A6 ((C).2.length) c7) ((C).2.length) (bools (C).2) :: row 47 3 (.slice (some ⟨b12, 0, none⟩) gl.length c3) gl.length (ecells gl) :: blk b1 (.cells #[.int .i64 ((m : Nat) : Int), .slice (some ⟨b12, 0, none⟩) gl.length c3] 35) :: fr) 0 S H rfl rfl rfl rfl Try.sizeOf4 rfl rfl (by first | omega | (simp <;> omega)) (xs' := bools ((Tr.leadRound (gl.take i) (Tr.lead gl q m r)).set ((gl.getD i e0).t) ((Tr.leadRound (gl.take i) (Tr.lead gl q m r)).getD ((gl.getD i e0).f) false))) (bools_put (by omega) rfl) rfl rfl rfl fun w H => ?_
          refine r_nil ?_
          refine x_then ?_
          have HS : Sat _ (blk b8 (.cells #[.slice A4 ((C).1.length) c5, .slice A6 ((C).2.length) c7] 40) :: row 25 1 (.slice A4 ((C).1.length) c5) ((C).1.length) (u64s (C).1) :: row 4 1 (.slice A6 ((C).2.length) c7) ((C).2.length) (bools (C).2) :: row 47 3 (.slice (some ⟨b12, 0, none⟩) gl.length c3) gl.length (ecells gl) :: blk b1 (.cells #[.int .i64 ((m : Nat) : Int), .slice (some ⟨b12, 0, none⟩) gl.length c3] 35) :: fr) := ((((((H.fetch (i := 5) rfl).fetch (i := 5) rfl).fetch (i := 5) rfl).fetch (i := 5) rfl).fetch (i := 5) rfl).sub (.cons_cons _ (.cons_cons _ (.cons_cons _ (.cons_cons _ (.cons_cons _ (.cons _ (List.Sublist.refl _))))))))
          refine ⟨HS, ?_⟩
          refine h_done (by kernel_rfl) ?_
          refine x_blockEnd ?_
          refine x_then ?_
          refine r_region ?_
          refine r_y S H (y_move S rfl rfl) rfl rfl rfl fun a S => ?_
          refine r_y S H (y_add S rfl rfl rfl (wi64 (by omega) (by omega))) rfl rfl rfl fun a S => ?_
          refine r_y S H (y_assign S rfl rfl) rfl rfl rfl fun a S => ?_
          refine r_nil ?_
          refine x_then ?_
          rw [show (Tr.leadRound (gl.take i) (Tr.lead gl q m r)).set (gl.getD i e0).t ((Tr.leadRound (gl.take i) (Tr.lead gl q m r)).getD (gl.getD i e0).f false) = Tr.leadRound (gl.take (i + 1)) (Tr.lead gl q m r) from by rw [Tr.leadRound_snoc (by omega), (Bool.not_eq_true _).mp hx]; rfl] at H
          exact ⟨i + 1, ⟨S.sub ⟨rfl, rfl, rfl, rfl, rfl, rfl, rfl, rfl, rfl, rfl, rfl, rfl, rfl, rfl, rfl, rfl, rfl, rfl, rfl, rfl, rfl, rfl, rfl, rfl, rfl, rfl, rfl, rfl, rfl, rfl, rfl, rfl, rfl, rfl, rfl, rfl, trivial⟩, ((((((H.fetch (i := 5) rfl).fetch (i := 5) rfl).fetch (i := 5) rfl).fetch (i := 5) rfl).fetch (i := 5) rfl).fetch (i := 5) rfl), by omega⟩, by omega⟩
      · skip
        refine wp_exit ?_
        refine x_thenExit ?_
        refine x_thenExit ?_
        refine x_blockHere ?_
        refine x_blockEnd ?_
        refine x_then ?_
        refine r_region ?_
        refine r_y S H (y_move S rfl rfl) rfl rfl rfl fun a S => ?_
        refine r_y S H (y_add S rfl rfl rfl (wi64 (by omega) (by omega))) rfl rfl rfl fun a S => ?_
        refine r_y S H (y_assign S rfl rfl) rfl rfl rfl fun a S => ?_
        refine r_nil ?_
        refine x_then ?_
        rw [List.take_of_length_le (by omega)] at H
        exact ⟨r + 1, ⟨S.sub ⟨rfl, rfl, rfl, rfl, rfl, rfl, rfl, rfl, rfl, rfl, rfl, rfl, rfl, rfl, rfl, rfl, rfl, rfl, rfl, rfl, rfl, rfl, rfl, rfl, rfl, rfl, rfl, rfl, rfl, rfl, rfl, trivial⟩, ((((((H.fetch (i := 5) rfl).fetch (i := 5) rfl).fetch (i := 5) rfl).fetch (i := 5) rfl).fetch (i := 5) rfl).fetch (i := 5) rfl), by omega⟩, by omega⟩
    · skip
      refine wp_exit ?_
      refine x_thenExit ?_
      refine x_thenExit ?_
      refine x_blockHere ?_
      refine x_then ?_
      refine r_seq ?_
      refine r_region ?_
      refine r_y S H (y_assign S rfl rfl) rfl rfl rfl fun a S => ?_
      refine r_nil ?_
      refine x_then ?_
      refine r_block ?_
      have hrm : r = m := by omega
      rw [hrm] at H
      refine r_loop (ι := Nat) (fun x a w => Slots a 127 [(0, .agg #[.int .i64 n, .slice A es.length c]), (1, .pointer (some ⟨b1, 0, none⟩)), (3, .bool true), (4, .pointer (some ⟨b8, 0, none⟩)), (5, .int .i64 (Tr.err (Tr.may 2 0 ((m : Nat) : Int) gl && decide (0 ≤ ((m + 1 : Nat) : Int))))), (6, .int .i64 ((q : Nat) : Int)), (7, .slice (some ⟨b9, 0, none⟩) m m), (8, .int .i64 ((r : Nat) : Int)), (10, .int .i64 ((x : Nat) : Int)), (11, .bool true), (12, .agg #[.int .i64 n, .slice A es.length c]), (13, .agg #[.int .i64 ((m : Nat) : Int), .slice A2 gl.length c3]), (14, .tuple #[.agg #[.slice A4 ((C).1.length) c5, .slice A6 ((C).2.length) c7], .int .i64 (Tr.err (Tr.may 2 0 ((m : Nat) : Int) gl && decide (0 ≤ ((m + 1 : Nat) : Int))))]), (15, .agg #[.int .i64 2, .int .u32 0]), (16, .agg #[.int .i64 ((m : Nat) : Int), .slice A2 gl.length c3]), (17, .pointer (some ⟨b1, 0, none⟩)), (18, .int .i64 ((m : Nat) : Int)), (19, .int .i64 ((m + 1 : Nat) : Int)), (20, .tuple #[.agg #[.slice A4 ((C).1.length) c5, .slice A6 ((C).2.length) c7], .int .i64 (Tr.err (Tr.may 2 0 ((m : Nat) : Int) gl && decide (0 ≤ ((m + 1 : Nat) : Int))))]), (21, .agg #[.slice A4 ((C).1.length) c5, .slice A6 ((C).2.length) c7]), (22, .int .i64 (Tr.err (Tr.may 2 0 ((m : Nat) : Int) gl && decide (0 ≤ ((m + 1 : Nat) : Int))))), (37, .bool false), (38, .int .i64 ((q : Nat) : Int)), (39, .pointer (some ⟨b1, 0, none⟩)), (40, .int .i64 ((m : Nat) : Int)), (41, .bool (decide (((q : Nat) : Int) < ((m : Nat) : Int)))), (44, .pointer (some ⟨b1, 0, none⟩)), (45, .int .i64 ((m : Nat) : Int)), (46, .slice (some ⟨b9, 0, none⟩) m m), (47, .slice (some ⟨b9, 0, none⟩) m m), (48, .int .i64 ((q : Nat) : Int)), (49, .pointer (some ⟨b9, 0 + q * 1, none⟩)), (50, .int .i64 ((r : Nat) : Int)), (51, .pointer (some ⟨b1, 0, none⟩)), (52, .int .i64 ((m : Nat) : Int)), (53, .bool (decide (((r : Nat) : Int) < ((m : Nat) : Int))))] ∧ Sat w (row 4 1 (.slice (some ⟨b9, 0, none⟩) m m) m (bools (Tr.lead gl q m m)) :: blk b8 (.cells #[.slice A4 ((C).1.length) c5, .slice A6 ((C).2.length) c7] 40) :: row 25 1 (.slice A4 ((C).1.length) c5) ((C).1.length) (u64s (C).1) :: row 4 1 (.slice A6 ((C).2.length) c7) ((C).2.length) (bools (C).2) :: row 47 3 (.slice A2 gl.length c3) gl.length (ecells gl) :: blk b1 (.cells #[.int .i64 ((m : Nat) : Int), .slice A2 gl.length c3] 35) :: fr) ∧ (x ≤ m)) (fun x => m - x) 0 ⟨S.sub ⟨rfl, rfl, rfl, rfl, rfl, rfl, rfl, rfl, rfl, rfl, rfl, rfl, rfl, rfl, rfl, rfl, rfl, rfl, rfl, rfl, rfl, rfl, rfl, rfl, rfl, rfl, rfl, rfl, rfl, rfl, rfl, rfl, rfl, rfl, rfl, rfl, trivial⟩, H, Nat.zero_le _⟩ (fun x a w hI => ?_)
      obtain ⟨S, H, hI⟩ := hI
      have hl4 := Tr.len_lead gl q m m
      refine r_seq ?_
      refine r_seq ?_
      refine r_region ?_
      refine r_y S H (y_move S rfl rfl) rfl rfl rfl fun a S => ?_
      refine r_y S H (y_fieldAddr S rfl rfl fa35_0) rfl rfl rfl fun a S => ?_
      refine r_y S H (y_load 5 S rfl rfl Try.isAgg3 rfl rfl) rfl rfl rfl fun a S => ?_
      refine r_y S H (y_lt S rfl rfl rfl) rfl rfl rfl fun a S => ?_
      refine r_nil ?_
      refine x_then ?_
      refine r_test S rfl (fun h94 => ?_) (fun h94 => ?_)
      · skip
        refine wp_skip ?_
        refine x_then ?_
        refine r_seq ?_
        refine r_block ?_
        refine r_seq ?_
        refine r_seq ?_
        refine wp_via (J := fun a w => Slots a 127 [(0, .agg #[.int .i64 n, .slice A es.length c]), (1, .pointer (some ⟨b1, 0, none⟩)), (3, .bool true), (4, .pointer (some ⟨b8, 0, none⟩)), (5, .int .i64 (Tr.err (Tr.may 2 0 ((m : Nat) : Int) gl && decide (0 ≤ ((m + 1 : Nat) : Int))))), (6, .int .i64 ((q : Nat) : Int)), (7, .slice (some ⟨b9, 0, none⟩) m m), (8, .int .i64 ((r : Nat) : Int)), (10, .int .i64 ((x : Nat) : Int)), (11, .bool true), (12, .agg #[.int .i64 n, .slice A es.length c]), (13, .agg #[.int .i64 ((m : Nat) : Int), .slice A2 gl.length c3]), (14, .tuple #[.agg #[.slice A4 ((C).1.length) c5, .slice A6 ((C).2.length) c7], .int .i64 (Tr.err (Tr.may 2 0 ((m : Nat) : Int) gl && decide (0 ≤ ((m + 1 : Nat) : Int))))]), (15, .agg #[.int .i64 2, .int .u32 0]), (16, .agg #[.int .i64 ((m : Nat) : Int), .slice A2 gl.length c3]), (17, .pointer (some ⟨b1, 0, none⟩)), (18, .int .i64 ((m : Nat) : Int)), (19, .int .i64 ((m + 1 : Nat) : Int)), (20, .tuple #[.agg #[.slice A4 ((C).1.length) c5, .slice A6 ((C).2.length) c7], .int .i64 (Tr.err (Tr.may 2 0 ((m : Nat) : Int) gl && decide (0 ≤ ((m + 1 : Nat) : Int))))]), (21, .agg #[.slice A4 ((C).1.length) c5, .slice A6 ((C).2.length) c7]), (22, .int .i64 (Tr.err (Tr.may 2 0 ((m : Nat) : Int) gl && decide (0 ≤ ((m + 1 : Nat) : Int))))), (37, .bool false), (38, .int .i64 ((q : Nat) : Int)), (39, .pointer (some ⟨b1, 0, none⟩)), (40, .int .i64 ((m : Nat) : Int)), (41, .bool (decide (((q : Nat) : Int) < ((m : Nat) : Int)))), (44, .pointer (some ⟨b1, 0, none⟩)), (45, .int .i64 ((m : Nat) : Int)), (46, .slice (some ⟨b9, 0, none⟩) m m), (47, .slice (some ⟨b9, 0, none⟩) m m), (48, .int .i64 ((q : Nat) : Int)), (49, .pointer (some ⟨b9, 0 + q * 1, none⟩)), (50, .int .i64 ((r : Nat) : Int)), (51, .pointer (some ⟨b1, 0, none⟩)), (52, .int .i64 ((m : Nat) : Int)), (53, .bool (decide (((r : Nat) : Int) < ((m : Nat) : Int)))), (91, .int .i64 ((x : Nat) : Int)), (92, .pointer (some ⟨b1, 0, none⟩)), (93, .int .i64 ((m : Nat) : Int)), (94, .bool (decide (((x : Nat) : Int) < ((m : Nat) : Int)))), (110, .bool (((Tr.lead gl q m m).getD x false) && (decide (((q : Nat) : Int) < ((((C).1).getD x 0 : Nat) : Int)))))] ∧ Sat w (row 4 1 (.slice (some ⟨b9, 0, none⟩) m m) m (bools (Tr.lead gl q m m)) :: blk b8 (.cells #[.slice A4 ((C).1.length) c5, .slice A6 ((C).2.length) c7] 40) :: row 25 1 (.slice A4 ((C).1.length) c5) ((C).1.length) (u64s (C).1) :: row 4 1 (.slice A6 ((C).2.length) c7) ((C).2.length) (bools (C).2) :: row 47 3 (.slice A2 gl.length c3) gl.length (ecells gl) :: blk b1 (.cells #[.int .i64 ((m : Nat) : Int), .slice A2 gl.length c3] 35) :: fr)) ?_ (fun a w hm => ?_)
        · skip
          refine r_region ?_
          refine r_y S H (y_move S rfl rfl) rfl rfl rfl fun a S => ?_
          refine r_y S H (y_move S rfl rfl) rfl rfl rfl fun a S => ?_
          refine r_y S H (y_index S rfl rfl rfl Try.underlying38 Try.sizeOf4 (by omega) (by omega)) rfl rfl rfl fun a S => ?_
          refine r_y S H (y_loadAt S rfl rfl Try.isAgg4 (fun w H => (SlOk.ofRow (i := 0) H rfl).cell w H (bools_at (i := x) (by first | omega | (simp <;> omega))))) rfl rfl rfl fun a S => ?_
          refine r_y S H (y_move S rfl rfl) rfl rfl rfl fun a S => ?_
          refine splitB S (d := 101) rfl (fun g101 S => ?_) (fun g101 S => ?_)
          · skip
            refine r_y S H (y_fieldAddr S rfl rfl fa40_0) rfl rfl rfl fun a S => ?_
            refine r_y S H (y_load 1 S rfl rfl Try.isAgg37 rfl rfl) rfl rfl rfl fun a S => ?_
            refine r_y S H (y_move S rfl rfl) rfl rfl rfl fun a S => ?_
            obtain ⟨b16, rfl⟩ := H.rowAt (i := 2) rfl (by first | omega | (simp <;> omega))
            refine r_y S H (y_index S rfl rfl rfl Try.underlying37 Try.sizeOf25 (by omega) (by omega)) rfl rfl rfl fun a S => ?_
            refine r_y S H (y_loadAt S rfl rfl Try.isAgg25 (fun w H => (SlOk.ofRow (i := 2) H rfl).cell w H (u64s_at (i := x) (by first | omega | (simp <;> omega))))) rfl rfl rfl fun a S => ?_
            refine r_y S H (y_move S rfl rfl) rfl rfl rfl fun a S => ?_
            refine r_y S H (y_conv S rfl rfl Try.underlying3 Try.underlying25 (wu64 (by omega) (by omega))) rfl rfl rfl fun a S => ?_
            refine r_y S H (y_gt S rfl rfl rfl) rfl rfl rfl fun a S => ?_
            refine r_y S H (y_pickT S rfl rfl rfl) rfl rfl rfl fun a S => ?_
            refine r_nil ?_
            refine x_then ?_
            exact ⟨S.sub ⟨rfl, rfl, rfl, rfl, rfl, rfl, rfl, rfl, rfl, rfl, rfl, rfl, rfl, rfl, rfl, rfl, rfl, rfl, rfl, rfl, rfl, rfl, rfl, rfl, rfl, rfl, rfl, rfl, rfl, rfl, rfl, rfl, rfl, rfl, rfl, rfl, rfl, rfl, rfl, rfl, (show lk _ _ = some (.bool (decide (((q : Nat) : Int) < ((((C).1).getD x 0 : Nat) : Int)))) from rfl).trans (by first | (simp only [g101, decide_true, decide_false, Bool.true_and, Bool.false_and, Bool.true_or, Bool.false_or]; done) | (simp [-List.getD_eq_getElem?_getD, g101]; done) | (simp [-List.getD_eq_getElem?_getD, g101]; omega)), trivial⟩, H⟩
          · skip
            refine r_skip S rfl rfl rfl fun a S => ?_
            refine r_skip S rfl rfl rfl fun a S => ?_
            refine r_skip S rfl rfl rfl fun a S => ?_
            refine r_skip S rfl rfl rfl fun a S => ?_
            refine r_skip S rfl rfl rfl fun a S => ?_
            refine r_skip S rfl rfl rfl fun a S => ?_
            refine r_skip S rfl rfl rfl fun a S => ?_
            refine r_skip S rfl rfl rfl fun a S => ?_
            refine r_y S H (y_pickF S rfl rfl rfl) rfl rfl rfl fun a S => ?_
            refine r_nil ?_
            refine x_then ?_
            exact ⟨S.sub ⟨rfl, rfl, rfl, rfl, rfl, rfl, rfl, rfl, rfl, rfl, rfl, rfl, rfl, rfl, rfl, rfl, rfl, rfl, rfl, rfl, rfl, rfl, rfl, rfl, rfl, rfl, rfl, rfl, rfl, rfl, rfl, rfl, rfl, rfl, rfl, rfl, rfl, rfl, rfl, rfl, (show lk _ _ = some (.bool false) from rfl).trans (by first | (simp only [g101, decide_true, decide_false, Bool.true_and, Bool.false_and, Bool.true_or, Bool.false_or]; done) | (simp [-List.getD_eq_getElem?_getD, g101]; done) | (simp [-List.getD_eq_getElem?_getD, g101]; omega)), trivial⟩, H⟩
        obtain ⟨S, H⟩ := hm
        refine x_then ?_
        refine r_cond S rfl (fun h110 => ?_) (fun h110 => ?_)
        · skip
          exfalso; obtain ⟨hl1, hl2⟩ := hlead q (by omega) x (by omega); simp only [Bool.and_eq_true, decide_eq_true_eq] at h110; have := hl1 h110.1; omega
        · skip
          refine wp_skip ?_
          refine x_then ?_
          refine r_seq ?_
          refine wp_via (J := fun a w => Slots a 127 [(0, .agg #[.int .i64 n, .slice A es.length c]), (1, .pointer (some ⟨b1, 0, none⟩)), (3, .bool true), (4, .pointer (some ⟨b8, 0, none⟩)), (5, .int .i64 (Tr.err (Tr.may 2 0 ((m : Nat) : Int) gl && decide (0 ≤ ((m + 1 : Nat) : Int))))), (6, .int .i64 ((q : Nat) : Int)), (7, .slice (some ⟨b9, 0, none⟩) m m), (8, .int .i64 ((r : Nat) : Int)), (10, .int .i64 ((x : Nat) : Int)), (11, .bool true), (12, .agg #[.int .i64 n, .slice A es.length c]), (13, .agg #[.int .i64 ((m : Nat) : Int), .slice A2 gl.length c3]), (14, .tuple #[.agg #[.slice A4 ((C).1.length) c5, .slice A6 ((C).2.length) c7], .int .i64 (Tr.err (Tr.may 2 0 ((m : Nat) : Int) gl && decide (0 ≤ ((m + 1 : Nat) : Int))))]), (15, .agg #[.int .i64 2, .int .u32 0]), (16, .agg #[.int .i64 ((m : Nat) : Int), .slice A2 gl.length c3]), (17, .pointer (some ⟨b1, 0, none⟩)), (18, .int .i64 ((m : Nat) : Int)), (19, .int .i64 ((m + 1 : Nat) : Int)), (20, .tuple #[.agg #[.slice A4 ((C).1.length) c5, .slice A6 ((C).2.length) c7], .int .i64 (Tr.err (Tr.may 2 0 ((m : Nat) : Int) gl && decide (0 ≤ ((m + 1 : Nat) : Int))))]), (21, .agg #[.slice A4 ((C).1.length) c5, .slice A6 ((C).2.length) c7]), (22, .int .i64 (Tr.err (Tr.may 2 0 ((m : Nat) : Int) gl && decide (0 ≤ ((m + 1 : Nat) : Int))))), (37, .bool false), (38, .int .i64 ((q : Nat) : Int)), (39, .pointer (some ⟨b1, 0, none⟩)), (40, .int .i64 ((m : Nat) : Int)), (41, .bool (decide (((q : Nat) : Int) < ((m : Nat) : Int)))), (44, .pointer (some ⟨b1, 0, none⟩)), (45, .int .i64 ((m : Nat) : Int)), (46, .slice (some ⟨b9, 0, none⟩) m m), (47, .slice (some ⟨b9, 0, none⟩) m m), (48, .int .i64 ((q : Nat) : Int)), (49, .pointer (some ⟨b9, 0 + q * 1, none⟩)), (50, .int .i64 ((r : Nat) : Int)), (51, .pointer (some ⟨b1, 0, none⟩)), (52, .int .i64 ((m : Nat) : Int)), (53, .bool (decide (((r : Nat) : Int) < ((m : Nat) : Int)))), (91, .int .i64 ((x : Nat) : Int)), (92, .pointer (some ⟨b1, 0, none⟩)), (93, .int .i64 ((m : Nat) : Int)), (94, .bool (decide (((x : Nat) : Int) < ((m : Nat) : Int)))), (110, .bool (((Tr.lead gl q m m).getD x false) && (decide (((q : Nat) : Int) < ((((C).1).getD x 0 : Nat) : Int))))), (125, .bool ((!((Tr.lead gl q m m).getD x false)) && (decide (((((C).1).getD x 0 : Nat) : Int) = ((q : Nat) : Int)))))] ∧ Sat w (row 4 1 (.slice (some ⟨b9, 0, none⟩) m m) m (bools (Tr.lead gl q m m)) :: blk b8 (.cells #[.slice A4 ((C).1.length) c5, .slice A6 ((C).2.length) c7] 40) :: row 25 1 (.slice A4 ((C).1.length) c5) ((C).1.length) (u64s (C).1) :: row 4 1 (.slice A6 ((C).2.length) c7) ((C).2.length) (bools (C).2) :: row 47 3 (.slice A2 gl.length c3) gl.length (ecells gl) :: blk b1 (.cells #[.int .i64 ((m : Nat) : Int), .slice A2 gl.length c3] 35) :: fr)) ?_ (fun a w hm => ?_)
          · skip
            refine r_region ?_
            refine r_y S H (y_move S rfl rfl) rfl rfl rfl fun a S => ?_
            refine r_y S H (y_move S rfl rfl) rfl rfl rfl fun a S => ?_
            refine r_y S H (y_index S rfl rfl rfl Try.underlying38 Try.sizeOf4 (by omega) (by omega)) rfl rfl rfl fun a S => ?_
            refine r_y S H (y_loadAt S rfl rfl Try.isAgg4 (fun w H => (SlOk.ofRow (i := 0) H rfl).cell w H (bools_at (i := x) (by first | omega | (simp <;> omega))))) rfl rfl rfl fun a S => ?_
            refine r_y S H (y_not S rfl rfl) rfl rfl rfl fun a S => ?_
            refine r_y S H (y_move S rfl rfl) rfl rfl rfl fun a S => ?_
            refine splitB S (d := 116) rfl (fun g116 S => ?_) (fun g116 S => ?_)
            · skip
              refine r_y S H (y_fieldAddr S rfl rfl fa40_0) rfl rfl rfl fun a S => ?_
              refine r_y S H (y_load 1 S rfl rfl Try.isAgg37 rfl rfl) rfl rfl rfl fun a S => ?_
              refine r_y S H (y_move S rfl rfl) rfl rfl rfl fun a S => ?_
              obtain ⟨b20, rfl⟩ := H.rowAt (i := 2) rfl (by first | omega | (simp <;> omega))
              refine r_y S H (y_index S rfl rfl rfl Try.underlying37 Try.sizeOf25 (by omega) (by omega)) rfl rfl rfl fun a S => ?_
              refine r_y S H (y_loadAt S rfl rfl Try.isAgg25 (fun w H => (SlOk.ofRow (i := 2) H rfl).cell w H (u64s_at (i := x) (by first | omega | (simp <;> omega))))) rfl rfl rfl fun a S => ?_
              refine r_y S H (y_move S rfl rfl) rfl rfl rfl fun a S => ?_
              refine r_y S H (y_conv S rfl rfl Try.underlying3 Try.underlying25 (wu64 (by omega) (by omega))) rfl rfl rfl fun a S => ?_
              refine r_y S H (y_eq S rfl rfl rfl) rfl rfl rfl fun a S => ?_
              refine r_y S H (y_pickT S rfl rfl rfl) rfl rfl rfl fun a S => ?_
              refine r_nil ?_
              refine x_then ?_
              exact ⟨S.sub ⟨rfl, rfl, rfl, rfl, rfl, rfl, rfl, rfl, rfl, rfl, rfl, rfl, rfl, rfl, rfl, rfl, rfl, rfl, rfl, rfl, rfl, rfl, rfl, rfl, rfl, rfl, rfl, rfl, rfl, rfl, rfl, rfl, rfl, rfl, rfl, rfl, rfl, rfl, rfl, rfl, rfl, (show lk _ _ = some (.bool (decide (((((C).1).getD x 0 : Nat) : Int) = ((q : Nat) : Int)))) from rfl).trans (by first | (simp only [g116, decide_true, decide_false, Bool.true_and, Bool.false_and, Bool.true_or, Bool.false_or]; done) | (simp [-List.getD_eq_getElem?_getD, g116]; done) | (simp [-List.getD_eq_getElem?_getD, g116]; omega)), trivial⟩, H⟩
            · skip
              refine r_skip S rfl rfl rfl fun a S => ?_
              refine r_skip S rfl rfl rfl fun a S => ?_
              refine r_skip S rfl rfl rfl fun a S => ?_
              refine r_skip S rfl rfl rfl fun a S => ?_
              refine r_skip S rfl rfl rfl fun a S => ?_
              refine r_skip S rfl rfl rfl fun a S => ?_
              refine r_skip S rfl rfl rfl fun a S => ?_
              refine r_skip S rfl rfl rfl fun a S => ?_
              refine r_y S H (y_pickF S rfl rfl rfl) rfl rfl rfl fun a S => ?_
              refine r_nil ?_
              refine x_then ?_
              exact ⟨S.sub ⟨rfl, rfl, rfl, rfl, rfl, rfl, rfl, rfl, rfl, rfl, rfl, rfl, rfl, rfl, rfl, rfl, rfl, rfl, rfl, rfl, rfl, rfl, rfl, rfl, rfl, rfl, rfl, rfl, rfl, rfl, rfl, rfl, rfl, rfl, rfl, rfl, rfl, rfl, rfl, rfl, rfl, (show lk _ _ = some (.bool false) from rfl).trans (by first | (simp only [g116, decide_true, decide_false, Bool.true_and, Bool.false_and, Bool.true_or, Bool.false_or]; done) | (simp [-List.getD_eq_getElem?_getD, g116]; done) | (simp [-List.getD_eq_getElem?_getD, g116]; omega)), trivial⟩, H⟩
          obtain ⟨S, H⟩ := hm
          refine x_then ?_
          refine r_cond S rfl (fun h125 => ?_) (fun h125 => ?_)
          · skip
            exfalso; obtain ⟨hl1, hl2⟩ := hlead q (by omega) x (by omega); simp only [Bool.and_eq_true, decide_eq_true_eq, Bool.not_eq_true'] at h125; have := hl2 h125.1; omega
          · skip
            refine wp_skip ?_
            refine x_blockEnd ?_
            refine x_then ?_
            refine r_region ?_
            refine r_y S H (y_move S rfl rfl) rfl rfl rfl fun a S => ?_
            refine r_y S H (y_add S rfl rfl rfl (wi64 (by omega) (by omega))) rfl rfl rfl fun a S => ?_
            refine r_y S H (y_assign S rfl rfl) rfl rfl rfl fun a S => ?_
            refine r_nil ?_
            refine x_then ?_
            exact ⟨x + 1, ⟨S.sub ⟨rfl, rfl, rfl, rfl, rfl, rfl, rfl, rfl, rfl, rfl, rfl, rfl, rfl, rfl, rfl, rfl, rfl, rfl, rfl, rfl, rfl, rfl, rfl, rfl, rfl, rfl, rfl, rfl, rfl, rfl, rfl, rfl, rfl, rfl, rfl, rfl, trivial⟩, H, by omega⟩, by omega⟩
      · skip
        refine wp_exit ?_
        refine x_thenExit ?_
        refine x_thenExit ?_
        refine x_blockHere ?_
        refine x_blockEnd ?_
        refine x_then ?_
        refine r_region ?_
        refine r_y S H (y_move S rfl rfl) rfl rfl rfl fun a S => ?_
        refine r_y S H (y_add S rfl rfl rfl (wi64 (by omega) (by omega))) rfl rfl rfl fun a S => ?_
        refine r_y S H (y_assign S rfl rfl) rfl rfl rfl fun a S => ?_
        refine r_nil ?_
        refine x_then ?_
        exact ⟨q + 1, ⟨S.sub ⟨rfl, rfl, rfl, rfl, rfl, rfl, rfl, rfl, rfl, rfl, rfl, rfl, rfl, rfl, rfl, rfl, rfl, rfl, rfl, trivial⟩, H.drop, by omega⟩, by omega⟩
  · skip
    refine wp_exit ?_
    refine x_thenExit ?_
    refine x_thenExit ?_
    refine x_blockHere ?_
    refine x_then ?_
    refine r_seq ?_
    refine r_region ?_
    refine r_y S H (y_move S rfl rfl) rfl rfl rfl fun a S => ?_
    refine r_y S H (y_assign S rfl rfl) rfl rfl rfl fun a S => ?_
    refine r_nil ?_
    refine x_then ?_
    refine wp_ret ?_
    refine r_ret1 S H Try.results5 (ro_tmp S rfl) ?_
    exact ⟨rfl, H.drop.drop.drop.drop.drop⟩

set_option maxRecDepth 4000 in
theorem law_paths (w : World) (fr : List Res) (n : Int) (A : Option Addr) (c : Nat) (es : List E) (ok : SlOk fr 3 A es.length c (ecells es)) (hes : ∀ e ∈ es, e.f < 4294967296 ∧ e.t < 4294967296) (hew : ∀ e ∈ es, e.w < 4294967296) (s0 : Nat) (hs0 : s0 < 4294967296) (H : Sat w (fr)) :
    Rt Try.prog 6 #[.agg #[.int .i64 n, .slice A es.length c], .int .u32 ((s0 : Nat) : Int)] w fun v w' => v = .bool true ∧ Sat w' fr := by
  refine rt_enter Try.func6 rfl (n := 132) Try.ntmps6 rfl fun a S => ?_
  refine r_seq ?_
  refine r_region ?_
  refine r_box (c := #[.int .i64 n, .slice A es.length c]) S H rfl rfl rfl rfl rfl rfl fun a w b1 S H => ?_
  refine r_y S H (y_assign S rfl rfl) rfl rfl rfl fun a S => ?_
  refine r_nil ?_
  refine x_then ?_
  refine r_seq ?_
  refine r_region ?_
  refine r_call (args := #[]) S rfl rfl Try.call14 (shown_ct (H := H) _ _) rfl rfl rfl fun v a w hR S => ?_
  obtain ⟨rfl, H⟩ := hR
  refine r_y S H (y_assign S rfl rfl) rfl rfl rfl fun a S => ?_
  refine r_nil ?_
  refine x_then ?_
  refine r_seq ?_
  refine r_region ?_
  refine r_y S H (y_loadAgg [_, _] 0 S rfl rfl (fun w => ⟨Try.isAgg35 w, Try.sizeOf35 w⟩) rfl rfl ⟨rfl, rfl, trivial⟩) rfl rfl rfl fun a S => ?_
  refine r_call (args := #[.agg #[.int .i64 n, .slice A es.length c]]) S rfl rfl Try.call23 (few_ct2 (H := H) _ _ n _ _ es (ok.more _) hes) rfl rfl rfl fun v a w hR S => ?_
  obtain ⟨m, gl, A2, c3, hfew, rfl, H⟩ := hR
  have hm60 := hfew.hm
  have hgl := hfew.hl
  have hgs : ∀ e ∈ gl, e.f < 4294967296 ∧ e.t < 4294967296 := fun e he => hes e (hfew.sub e he)
  have hgw : ∀ e ∈ gl, e.w < 4294967296 := fun e he => hew e (hfew.sub e he)
  have hge := hfew.edges
  refine r_store (vs := [.int .i64 ((m : Nat) : Int), .slice A2 gl.length c3]) 1 S H rfl rfl rfl rfl Try.sizeOf35 rfl rfl (by simp [Value.oneCell']) rfl rfl rfl rfl rfl fun w H => ?_
  refine r_nil ?_
  refine x_then ?_
  refine r_seq ?_
  refine r_seq ?_
  refine r_region ?_
  refine r_y S H (y_fieldAddr S rfl rfl fa35_0) rfl rfl rfl fun a S => ?_
  refine r_y S H (y_load 1 S rfl rfl Try.isAgg3 rfl rfl) rfl rfl rfl fun a S => ?_
  refine r_y S H (y_eq S rfl rfl rfl) rfl rfl rfl fun a S => ?_
  refine r_nil ?_
  refine x_then ?_
  refine r_test S rfl (fun h18 => ?_) (fun h18 => ?_)
  · skip
    refine r_seq ?_
    refine r_region ?_
    refine r_y S H (y_move S rfl rfl) rfl rfl rfl fun a S => ?_
    refine r_y S H (y_assign S rfl rfl) rfl rfl rfl fun a S => ?_
    refine r_nil ?_
    refine x_then ?_
    refine wp_ret ?_
    refine x_thenRet ?_
    refine r_ret1 S H Try.results6 (ro_tmp S rfl) ?_
    exact ⟨rfl, H.drop.drop⟩
  · skip
    have hsm : s0 % m < m := Nat.mod_lt _ (by omega)
    obtain ⟨hmay, hlen, hq, hz, hedge, hreach, htp⟩ := Tr.paths_law hfew hgw hsm
    refine wp_skip ?_
    refine x_then ?_
    refine r_seq ?_
    refine r_region ?_
    refine r_y S H (y_move S rfl rfl) rfl rfl rfl fun a S => ?_
    refine r_y S H (y_fieldAddr S rfl rfl fa35_0) rfl rfl rfl fun a S => ?_
    refine r_y S H (y_load 1 S rfl rfl Try.isAgg3 rfl rfl) rfl rfl rfl fun a S => ?_
    refine r_y S H (y_conv S rfl rfl Try.underlying3 Try.underlying22 (wu32 (by omega) (by omega))) rfl rfl rfl fun a S => ?_
    refine r_y S H (y_remN S rfl rfl rfl (by omega) (by omega)) rfl rfl rfl fun a S => ?_
    have S := S.retell (v' := .int .u32 ((s0 % m : Nat) : Int)) 24 rfl (int_eq rfl)
    refine r_y S H (y_assign S rfl rfl) rfl rfl rfl fun a S => ?_
    refine r_nil ?_
    refine x_then ?_
    refine r_seq ?_
    refine r_region ?_
    refine r_y S H (y_move S rfl rfl) rfl rfl rfl fun a S => ?_
    refine r_y S H (y_build (vs := #[(0, .int .i64 3), (1, .int .u32 ((s0 % m : Nat) : Int))]) (v := .agg #[.int .i64 3, .int .u32 ((s0 % m : Nat) : Int)]) S rfl rfl (fun w => by kernel_rfl)) rfl rfl rfl fun a S => ?_
    refine r_y S H (y_loadAgg [_, _] 1 S rfl rfl (fun w => ⟨Try.isAgg35 w, Try.sizeOf35 w⟩) rfl rfl ⟨rfl, rfl, trivial⟩) rfl rfl rfl fun a S => ?_
    refine r_y S H (y_fieldAddr S rfl rfl fa35_0) rfl rfl rfl fun a S => ?_
    refine r_y S H (y_load 1 S rfl rfl Try.isAgg3 rfl rfl) rfl rfl rfl fun a S => ?_
    refine r_y S H (y_add S rfl rfl rfl (wi64 (by omega) (by omega))) rfl rfl rfl fun a S => ?_
    have S := S.retell (v' := .int .i64 ((m + 1 : Nat) : Int)) 31 rfl (int_eq (by omega))
    refine r_call (args := #[.agg #[.int .i64 3, .int .u32 ((s0 % m : Nat) : Int)], .agg #[.int .i64 ((m : Nat) : Int), .slice A2 gl.length c3], .int .i64 ((m + 1 : Nat) : Int)]) S rfl rfl Try.call24 (trace_ct (H := H) _ _ 3 (s0 % m) (by omega) ((m : Nat) : Int) _ _ gl (SlOk.ofRow (i := 0) H rfl) hgs hgw ((m + 1 : Nat) : Int) (by omega)) rfl rfl rfl fun v a w hR S => ?_
    obtain ⟨A4, c5, A6, c7, rfl, H⟩ := hR
    generalize hgC : Tr.traceR 3 (s0 % m) ((m : Nat) : Int) gl ((m + 1 : Nat) : Int) = C at *
    refine r_y S H (y_move S rfl rfl) rfl rfl rfl fun a S => ?_
    refine r_y S H (y_extract (v := .agg #[.slice A4 ((C).1.length) c5, .slice A6 ((C).2.length) c7]) S rfl rfl rfl) rfl rfl rfl fun a S => ?_
    refine r_y S H (y_extract (v := .int .i64 (Tr.err (Tr.may 3 (s0 % m) ((m : Nat) : Int) gl && decide (0 ≤ ((m + 1 : Nat) : Int))))) S rfl rfl rfl) rfl rfl rfl fun a S => ?_
    refine r_alloc S H rfl Try.zeroValue40 rfl rfl rfl rfl fun a w b8 S H => ?_
    refine r_store (vs := [.slice A4 ((C).1.length) c5, .slice A6 ((C).2.length) c7]) 0 S H rfl rfl rfl rfl Try.sizeOf40 rfl rfl (by simp [Value.oneCell']) rfl rfl rfl rfl rfl fun w H => ?_
    refine r_y S H (y_assign S rfl rfl) rfl rfl rfl fun a S => ?_
    refine r_nil ?_
    refine x_then ?_
    refine r_seq ?_
    refine r_seq ?_
    refine wp_via (J := fun a w => Slots a 132 [(0, .agg #[.int .i64 n, .slice A es.length c]), (1, .int .u32 ((s0 % m : Nat) : Int)), (2, .pointer (some ⟨b1, 0, none⟩)), (4, .bool false), (5, .bool true), (6, .pointer (some ⟨b8, 0, none⟩)), (7, .int .i64 (Tr.err (Tr.may 3 (s0 % m) ((m : Nat) : Int) gl && decide (0 ≤ ((m + 1 : Nat) : Int))))), (13, .bool true), (14, .agg #[.int .i64 n, .slice A es.length c]), (15, .agg #[.int .i64 ((m : Nat) : Int), .slice A2 gl.length c3]), (16, .pointer (some ⟨b1, 0, none⟩)), (17, .int .i64 ((m : Nat) : Int)), (18, .bool (decide (((m : Nat) : Int) = 0))), (20, .int .u32 ((s0 : Nat) : Int)), (21, .pointer (some ⟨b1, 0, none⟩)), (22, .int .i64 ((m : Nat) : Int)), (23, .int .u32 ((m : Nat) : Int)), (24, .int .u32 ((s0 % m : Nat) : Int)), (25, .tuple #[.agg #[.slice A4 ((C).1.length) c5, .slice A6 ((C).2.length) c7], .int .i64 (Tr.err (Tr.may 3 (s0 % m) ((m : Nat) : Int) gl && decide (0 ≤ ((m + 1 : Nat) : Int))))]), (26, .int .u32 ((s0 % m : Nat) : Int)), (27, .agg #[.int .i64 3, .int .u32 ((s0 % m : Nat) : Int)]), (28, .agg #[.int .i64 ((m : Nat) : Int), .slice A2 gl.length c3]), (29, .pointer (some ⟨b1, 0, none⟩)), (30, .int .i64 ((m : Nat) : Int)), (31, .int .i64 ((m + 1 : Nat) : Int)), (32, .tuple #[.agg #[.slice A4 ((C).1.length) c5, .slice A6 ((C).2.length) c7], .int .i64 (Tr.err (Tr.may 3 (s0 % m) ((m : Nat) : Int) gl && decide (0 ≤ ((m + 1 : Nat) : Int))))]), (33, .agg #[.slice A4 ((C).1.length) c5, .slice A6 ((C).2.length) c7]), (34, .int .i64 (Tr.err (Tr.may 3 (s0 % m) ((m : Nat) : Int) gl && decide (0 ≤ ((m + 1 : Nat) : Int))))), (57, .bool false)] ∧ Sat w (blk b8 (.cells #[.slice A4 ((C).1.length) c5, .slice A6 ((C).2.length) c7] 40) :: row 25 1 (.slice A4 ((C).1.length) c5) ((C).1.length) (u64s (C).1) :: row 4 1 (.slice A6 ((C).2.length) c7) ((C).2.length) (bools (C).2) :: row 47 3 (.slice A2 gl.length c3) gl.length (ecells gl) :: blk b1 (.cells #[.int .i64 ((m : Nat) : Int), .slice A2 gl.length c3] 35) :: fr)) ?_ (fun a w hm => ?_)
    · skip
      refine r_region ?_
      refine r_y S H (y_move S rfl rfl) rfl rfl rfl fun a S => ?_
      refine r_y S H (y_ne S rfl rfl rfl) rfl rfl rfl fun a S => ?_
      have S := S.retell (v' := .bool false) 36 rfl (by rw [hmay, decide_eq_true (Int.natCast_nonneg _)]; rfl)
      refine r_y S H (y_move S rfl rfl) rfl rfl rfl fun a S => ?_
      refine r_y S H (y_fieldAddr S rfl rfl fa40_0) rfl rfl rfl fun a S => ?_
      refine r_y S H (y_load 0 S rfl rfl Try.isAgg37 rfl rfl) rfl rfl rfl fun a S => ?_
      refine r_y S H (y_len S rfl rfl Try.underlying37) rfl rfl rfl fun a S => ?_
      refine r_y S H (y_fieldAddr S rfl rfl fa35_0) rfl rfl rfl fun a S => ?_
      refine r_y S H (y_load 4 S rfl rfl Try.isAgg3 rfl rfl) rfl rfl rfl fun a S => ?_
      refine r_y S H (y_ne S rfl rfl rfl) rfl rfl rfl fun a S => ?_
      have S := S.retell (v' := .bool false) 43 rfl (by rw [hlen]; simp)
      refine r_y S H (y_pickF S rfl rfl rfl) rfl rfl rfl fun a S => ?_
      refine r_y S H (y_move S rfl rfl) rfl rfl rfl fun a S => ?_
      refine r_y S H (y_loadAgg [_, _] 0 S rfl rfl (fun w => ⟨Try.isAgg40 w, Try.sizeOf40 w⟩) rfl rfl ⟨rfl, rfl, trivial⟩) rfl rfl rfl fun a S => ?_
      refine r_call (args := #[.agg #[.slice A4 ((C).1.length) c5, .slice A6 ((C).2.length) c7]]) S rfl rfl Try.call25 (quiet_ct (H := H) _ _ _ _ ((C).1) (SlOk.ofRow (i := 1) H rfl) _ _ ((C).2) (SlOk.ofRow (i := 2) H rfl)) rfl rfl rfl fun v a w hR S => ?_
      obtain ⟨rfl, H⟩ := hR
      refine r_y S H (y_not S rfl rfl) rfl rfl rfl fun a S => ?_
      have S := S.retell (v' := .bool false) 48 rfl (by rw [hq]; rfl)
      refine r_y S H (y_pickF S rfl rfl rfl) rfl rfl rfl fun a S => ?_
      refine r_y S H (y_move S rfl rfl) rfl rfl rfl fun a S => ?_
      refine r_y S H (y_fieldAddr S rfl rfl fa40_0) rfl rfl rfl fun a S => ?_
      refine r_y S H (y_load 0 S rfl rfl Try.isAgg37 rfl rfl) rfl rfl rfl fun a S => ?_
      refine r_y S H (y_move S rfl rfl) rfl rfl rfl fun a S => ?_
      obtain ⟨b11, rfl⟩ := H.rowAt (i := 1) rfl (by first | omega | (simp <;> omega))
      refine r_y S H (y_index S rfl rfl rfl Try.underlying37 Try.sizeOf25 (by omega) (by omega)) rfl rfl rfl fun a S => ?_
      refine r_y S H (y_loadAt S rfl rfl Try.isAgg25 (fun w H => (SlOk.ofRow (i := 1) H rfl).cell w H (u64s_at (i := (s0 % m)) (by first | omega | (simp <;> omega))))) rfl rfl rfl fun a S => ?_
      refine r_y S H (y_ne S rfl rfl rfl) rfl rfl rfl fun a S => ?_
      have S := S.retell (v' := .bool false) 56 rfl (by rw [hz]; simp)
      refine r_y S H (y_pickF S rfl rfl rfl) rfl rfl rfl fun a S => ?_
      refine r_nil ?_
      refine x_then ?_
      exact ⟨S.sub ⟨rfl, rfl, rfl, rfl, rfl, rfl, rfl, rfl, rfl, rfl, rfl, rfl, rfl, rfl, rfl, rfl, rfl, rfl, rfl, rfl, rfl, rfl, rfl, rfl, rfl, rfl, rfl, rfl, rfl, trivial⟩, H⟩
    obtain ⟨S, H⟩ := hm
    refine x_then ?_
    refine r_condF S rfl ?_
    refine wp_skip ?_
    refine x_then ?_
    refine r_seq ?_
    refine r_region ?_
    refine r_y S H (y_fieldAddr S rfl rfl fa35_0) rfl rfl rfl fun a S => ?_
    refine r_y S H (y_load 4 S rfl rfl Try.isAgg3 rfl rfl) rfl rfl rfl fun a S => ?_
    refine r_make (len := m) S H rfl rfl rfl el38 (by simp only [maxLen]; omega) (by omega) rfl rfl rfl fun a w b13 S H => ?_
    rw [made_bools] at H
    refine r_y S H (y_assign S rfl rfl) rfl rfl rfl fun a S => ?_
    refine r_nil ?_
    refine x_then ?_
    refine r_seq ?_
    refine r_region ?_
    refine r_y S H (y_move S rfl rfl) rfl rfl rfl fun a S => ?_
    refine r_y S H (y_move S rfl rfl) rfl rfl rfl fun a S => ?_
    refine r_y S H (y_index S rfl rfl rfl Try.underlying38 Try.sizeOf4 (by omega) (by omega)) rfl rfl rfl fun a S => ?_
    refine r_setRowV (L' := row 4 1 (.slice (some ⟨b13, 0, none⟩) m m) m (bools ((List.replicate m false).set (s0 % m) true)) :: blk b8 (.cells #[.slice A4 ((C).1.length) c5, .slice A6 ((C).2.length) c7] 40) :: row 25 1 (.slice A4 ((C).1.length) c5) ((C).1.length) (u64s (C).1) :: row 4 1 (.slice A6 ((C).2.length) c7) ((C).2.length) (bools (C).2) :: row 47 3 (.slice A2 gl.length c3) gl.length (ecells gl) :: blk b1 (.cells #[.int .i64 ((m : Nat) : Int), .slice A2 gl.length c3] 35) :: fr) 0 S H rfl rfl rfl rfl Try.sizeOf4 rfl rfl (by first | omega | (simp <;> omega)) (xs' := bools ((List.replicate m false).set (s0 % m) true)) (bools_put (by omega) rfl) rfl rfl rfl fun w H => ?_
    refine r_nil ?_
    refine x_then ?_
    refine r_seq ?_
    refine r_seq ?_
    refine r_region ?_
    refine r_y S H (y_assign S rfl rfl) rfl rfl rfl fun a S => ?_
    refine r_nil ?_
    refine x_then ?_
    refine r_block ?_
    refine r_loop (ι := Nat × List Bool) (fun ⟨i, bl⟩ a w => Slots a 132 [(0, .agg #[.int .i64 n, .slice A es.length c]), (1, .int .u32 ((s0 % m : Nat) : Int)), (2, .pointer (some ⟨b1, 0, none⟩)), (5, .bool true), (6, .pointer (some ⟨b8, 0, none⟩)), (7, .int .i64 (Tr.err (Tr.may 3 (s0 % m) ((m : Nat) : Int) gl && decide (0 ≤ ((m + 1 : Nat) : Int))))), (8, .slice (some ⟨b13, 0, none⟩) m m), (9, .int .i64 ((i : Nat) : Int)), (13, .bool true), (14, .agg #[.int .i64 n, .slice A es.length c]), (15, .agg #[.int .i64 ((m : Nat) : Int), .slice A2 gl.length c3]), (16, .pointer (some ⟨b1, 0, none⟩)), (17, .int .i64 ((m : Nat) : Int)), (18, .bool (decide (((m : Nat) : Int) = 0))), (20, .int .u32 ((s0 : Nat) : Int)), (21, .pointer (some ⟨b1, 0, none⟩)), (22, .int .i64 ((m : Nat) : Int)), (23, .int .u32 ((m : Nat) : Int)), (24, .int .u32 ((s0 % m : Nat) : Int)), (25, .tuple #[.agg #[.slice A4 ((C).1.length) c5, .slice A6 ((C).2.length) c7], .int .i64 (Tr.err (Tr.may 3 (s0 % m) ((m : Nat) : Int) gl && decide (0 ≤ ((m + 1 : Nat) : Int))))]), (26, .int .u32 ((s0 % m : Nat) : Int)), (27, .agg #[.int .i64 3, .int .u32 ((s0 % m : Nat) : Int)]), (28, .agg #[.int .i64 ((m : Nat) : Int), .slice A2 gl.length c3]), (29, .pointer (some ⟨b1, 0, none⟩)), (30, .int .i64 ((m : Nat) : Int)), (31, .int .i64 ((m + 1 : Nat) : Int)), (32, .tuple #[.agg #[.slice A4 ((C).1.length) c5, .slice A6 ((C).2.length) c7], .int .i64 (Tr.err (Tr.may 3 (s0 % m) ((m : Nat) : Int) gl && decide (0 ≤ ((m + 1 : Nat) : Int))))]), (33, .agg #[.slice A4 ((C).1.length) c5, .slice A6 ((C).2.length) c7]), (34, .int .i64 (Tr.err (Tr.may 3 (s0 % m) ((m : Nat) : Int) gl && decide (0 ≤ ((m + 1 : Nat) : Int))))), (57, .bool false), (58, .pointer (some ⟨b1, 0, none⟩)), (59, .int .i64 ((m : Nat) : Int)), (60, .slice (some ⟨b13, 0, none⟩) m m), (61, .slice (some ⟨b13, 0, none⟩) m m), (62, .int .u32 ((s0 % m : Nat) : Int)), (63, .pointer (some ⟨b13, 0 + (s0 % m) * 1, none⟩))] ∧ Sat w (row 4 1 (.slice (some ⟨b13, 0, none⟩) m m) m (bools (bl)) :: blk b8 (.cells #[.slice A4 ((C).1.length) c5, .slice A6 ((C).2.length) c7] 40) :: row 25 1 (.slice A4 ((C).1.length) c5) ((C).1.length) (u64s (C).1) :: row 4 1 (.slice A6 ((C).2.length) c7) ((C).2.length) (bools (C).2) :: row 47 3 (.slice A2 gl.length c3) gl.length (ecells gl) :: blk b1 (.cells #[.int .i64 ((m : Nat) : Int), .slice A2 gl.length c3] 35) :: fr) ∧ (i ≤ gl.length ∧ bl.length = m ∧ ∀ v, v < m → (v = s0 % m ∨ ∃ e ∈ gl.take i, e.t = v ∧ C.1.getD e.f 0 ≠ 18446744073709551615 ∧ C.1.getD v 0 = C.1.getD e.f 0 + e.w) → bl.getD v false = true)) (fun ⟨i, bl⟩ => gl.length - i) (0, (List.replicate m false).set (s0 % m) true) ⟨S.sub ⟨rfl, rfl, rfl, rfl, rfl, rfl, rfl, rfl, rfl, rfl, rfl, rfl, rfl, rfl, rfl, rfl, rfl, rfl, rfl, rfl, rfl, rfl, rfl, rfl, rfl, rfl, rfl, rfl, rfl, rfl, rfl, rfl, rfl, rfl, rfl, rfl, trivial⟩, H, ⟨Nat.zero_le _, by simp, fun v hv h => by rcases h with h | ⟨e, he, _⟩; (rw [Tr.getD_set _ _ _ _ _ (by simp; omega), if_pos h]); (cases he)⟩⟩ (fun ⟨i, bl⟩ a w hI => ?_)
    obtain ⟨S, H, hI⟩ := hI
    obtain ⟨hi, hbl, hby⟩ := hI
    refine r_seq ?_
    refine r_seq ?_
    refine r_region ?_
    refine r_y S H (y_move S rfl rfl) rfl rfl rfl fun a S => ?_
    refine r_y S H (y_fieldAddr S rfl rfl fa35_1) rfl rfl rfl fun a S => ?_
    refine r_y S H (y_load 5 S rfl rfl Try.isAgg33 rfl rfl) rfl rfl rfl fun a S => ?_
    refine r_y S H (y_len S rfl rfl Try.underlying33) rfl rfl rfl fun a S => ?_
    refine r_y S H (y_lt S rfl rfl rfl) rfl rfl rfl fun a S => ?_
    refine r_nil ?_
    refine x_then ?_
    refine r_test S rfl (fun h68 => ?_) (fun h68 => ?_)
    · skip
      have hb := hge _ (getD_mem (by omega : i < gl.length))
      have hbw := hgw _ (getD_mem (by omega : i < gl.length))
      refine wp_skip ?_
      refine x_then ?_
      refine r_seq ?_
      refine r_block ?_
      refine r_seq ?_
      refine r_region ?_
      refine r_y S H (y_fieldAddr S rfl rfl fa35_1) rfl rfl rfl fun a S => ?_
      refine r_y S H (y_load 5 S rfl rfl Try.isAgg33 rfl rfl) rfl rfl rfl fun a S => ?_
      refine r_y S H (y_move S rfl rfl) rfl rfl rfl fun a S => ?_
      obtain ⟨b14, rfl⟩ := H.rowAt (i := 4) rfl (by first | omega | (simp <;> omega))
      refine r_y S H (y_index S rfl rfl rfl Try.underlying33 Try.sizeOf47 (by omega) (by omega)) rfl rfl rfl fun a S => ?_
      refine r_y S H (y_loadAggAt [.int .u32 (((gl.getD i e0).f : Nat) : Int), .int .u32 (((gl.getD i e0).t : Nat) : Int), .int .u32 (((gl.getD i e0).w : Nat) : Int)] S rfl rfl (fun w => ⟨Try.isAgg47 w, Try.sizeOf47 w⟩) rfl (fun w H => (SlOk.ofRow (i := 4) H rfl).cells w H (ecells_from (i := i) (by first | omega | (simp <;> omega))))) rfl rfl rfl fun a S => ?_
      refine r_alloc S H rfl Try.zeroValue47 rfl rfl rfl rfl fun a w b16 S H => ?_
      refine r_store (vs := [.int .u32 (((gl.getD i e0).f : Nat) : Int), .int .u32 (((gl.getD i e0).t : Nat) : Int), .int .u32 (((gl.getD i e0).w : Nat) : Int)]) 0 S H rfl rfl rfl rfl Try.sizeOf47 rfl rfl (by simp [Value.oneCell']) rfl rfl rfl rfl rfl fun w H => ?_
      refine r_nil ?_
      refine x_then ?_
      refine r_seq ?_
      refine r_region ?_
      refine r_y S H (y_fieldAddr S rfl rfl fa40_0) rfl rfl rfl fun a S => ?_
      refine r_y S H (y_load 2 S rfl rfl Try.isAgg37 rfl rfl) rfl rfl rfl fun a S => ?_
      refine r_y S H (y_fieldAddr S rfl rfl fa47_0) rfl rfl rfl fun a S => ?_
      refine r_y S H (y_load 0 S rfl rfl Try.isAgg22 rfl rfl) rfl rfl rfl fun a S => ?_
      obtain ⟨b17, rfl⟩ := H.rowAt (i := 3) rfl (by first | omega | (simp <;> omega))
      refine r_y S H (y_index S rfl rfl rfl Try.underlying37 Try.sizeOf25 (by omega) (by omega)) rfl rfl rfl fun a S => ?_
      refine r_y S H (y_loadAt S rfl rfl Try.isAgg25 (fun w H => (SlOk.ofRow (i := 3) H rfl).cell w H (u64s_at (i := ((gl.getD i e0).f)) (by first | omega | (simp <;> omega))))) rfl rfl rfl fun a S => ?_
      refine r_y S H (y_assign S rfl rfl) rfl rfl rfl fun a S => ?_
      refine r_nil ?_
      refine x_then ?_
      refine r_seq ?_
      refine r_seq ?_
      refine r_region ?_
      refine r_y S H (y_move S rfl rfl) rfl rfl rfl fun a S => ?_
      refine r_y S H (y_eq S rfl rfl rfl) rfl rfl rfl fun a S => ?_
      refine r_nil ?_
      refine x_then ?_
      refine r_test S rfl (fun h83 => ?_) (fun h83 => ?_)
      · skip
        refine wp_exit ?_
        refine x_thenExit ?_
        refine x_blockHere ?_
        refine x_then ?_
        refine r_region ?_
        refine r_y S H (y_move S rfl rfl) rfl rfl rfl fun a S => ?_
        refine r_y S H (y_add S rfl rfl rfl (wi64 (by omega) (by omega))) rfl rfl rfl fun a S => ?_
        refine r_y S H (y_assign S rfl rfl) rfl rfl rfl fun a S => ?_
        refine r_nil ?_
        refine x_then ?_
        exact ⟨(i + 1, bl), ⟨S.sub ⟨rfl, rfl, rfl, rfl, rfl, rfl, rfl, rfl, rfl, rfl, rfl, rfl, rfl, rfl, rfl, rfl, rfl, rfl, rfl, rfl, rfl, rfl, rfl, rfl, rfl, rfl, rfl, rfl, rfl, rfl, rfl, rfl, rfl, rfl, rfl, rfl, trivial⟩, H.drop, ⟨by omega, hbl, Tr.by_skip (by omega) hby (fun h => h.1 (by omega))⟩⟩, by show gl.length - (i + 1) < gl.length - i; omega⟩
      · skip
        have hed := hedge _ (getD_mem (by omega : i < gl.length)) (by omega)
        refine wp_skip ?_
        refine x_then ?_
        refine r_seq ?_
        refine r_seq ?_
        refine r_quiet (n := 132) (E' := [(0, .agg #[.int .i64 n, .slice A es.length c]), (1, .int .u32 ((s0 % m : Nat) : Int)), (2, .pointer (some ⟨b1, 0, none⟩)), (5, .bool true), (6, .pointer (some ⟨b8, 0, none⟩)), (7, .int .i64 (Tr.err (Tr.may 3 (s0 % m) ((m : Nat) : Int) gl && decide (0 ≤ ((m + 1 : Nat) : Int))))), (8, .slice (some ⟨b13, 0, none⟩) m m), (9, .int .i64 ((i : Nat) : Int)), (10, .pointer (some ⟨b16, 0, none⟩)), (11, .int .u64 ((((C).1).getD ((gl.getD i e0).f) 0 : Nat) : Int)), (13, .bool true), (14, .agg #[.int .i64 n, .slice A es.length c]), (15, .agg #[.int .i64 ((m : Nat) : Int), .slice (some ⟨b14, 0, none⟩) gl.length c3]), (16, .pointer (some ⟨b1, 0, none⟩)), (17, .int .i64 ((m : Nat) : Int)), (18, .bool (decide (((m : Nat) : Int) = 0))), (20, .int .u32 ((s0 : Nat) : Int)), (21, .pointer (some ⟨b1, 0, none⟩)), (22, .int .i64 ((m : Nat) : Int)), (23, .int .u32 ((m : Nat) : Int)), (24, .int .u32 ((s0 % m : Nat) : Int)), (25, .tuple #[.agg #[.slice (some ⟨b17, 0, none⟩) ((C).1.length) c5, .slice A6 ((C).2.length) c7], .int .i64 (Tr.err (Tr.may 3 (s0 % m) ((m : Nat) : Int) gl && decide (0 ≤ ((m + 1 : Nat) : Int))))]), (26, .int .u32 ((s0 % m : Nat) : Int)), (27, .agg #[.int .i64 3, .int .u32 ((s0 % m : Nat) : Int)]), (28, .agg #[.int .i64 ((m : Nat) : Int), .slice (some ⟨b14, 0, none⟩) gl.length c3]), (29, .pointer (some ⟨b1, 0, none⟩)), (30, .int .i64 ((m : Nat) : Int)), (31, .int .i64 ((m + 1 : Nat) : Int)), (32, .tuple #[.agg #[.slice (some ⟨b17, 0, none⟩) ((C).1.length) c5, .slice A6 ((C).2.length) c7], .int .i64 (Tr.err (Tr.may 3 (s0 % m) ((m : Nat) : Int) gl && decide (0 ≤ ((m + 1 : Nat) : Int))))]), (33, .agg #[.slice (some ⟨b17, 0, none⟩) ((C).1.length) c5, .slice A6 ((C).2.length) c7]), (34, .int .i64 (Tr.err (Tr.may 3 (s0 % m) ((m : Nat) : Int) gl && decide (0 ≤ ((m + 1 : Nat) : Int))))), (57, .bool false), (58, .pointer (some ⟨b1, 0, none⟩)), (59, .int .i64 ((m : Nat) : Int)), (60, .slice (some ⟨b13, 0, none⟩) m m), (61, .slice (some ⟨b13, 0, none⟩) m m), (62, .int .u32 ((s0 % m : Nat) : Int)), (63, .pointer (some ⟨b13, 0 + (s0 % m) * 1, none⟩)), (64, .int .i64 ((i : Nat) : Int)), (65, .pointer (some ⟨b1, 1, none⟩)), (66, .slice (some ⟨b14, 0, none⟩) gl.length c3), (67, .int .i64 ((gl.length : Nat) : Int)), (68, .bool (decide (((i : Nat) : Int) < ((gl.length : Nat) : Int)))), (71, .pointer (some ⟨b1, 1, none⟩)), (72, .slice (some ⟨b14, 0, none⟩) gl.length c3), (73, .int .i64 ((i : Nat) : Int)), (74, .pointer (some ⟨b14, 0 + i * 3, none⟩)), (75, .agg #[.int .u32 (((gl.getD i e0).f : Nat) : Int), .int .u32 (((gl.getD i e0).t : Nat) : Int), .int .u32 (((gl.getD i e0).w : Nat) : Int)]), (76, .pointer (some ⟨b8, 0, none⟩)), (77, .slice (some ⟨b17, 0, none⟩) ((C).1.length) c5), (78, .pointer (some ⟨b16, 0, none⟩)), (79, .int .u32 (((gl.getD i e0).f : Nat) : Int)), (80, .pointer (some ⟨b17, 0 + ((gl.getD i e0).f) * 1, none⟩)), (81, .int .u64 ((((C).1).getD ((gl.getD i e0).f) 0 : Nat) : Int)), (82, .int .u64 ((((C).1).getD ((gl.getD i e0).f) 0 : Nat) : Int)), (83, .bool (decide (((((C).1).getD ((gl.getD i e0).f) 0 : Nat) : Int) = 18446744073709551615))), (95, .bool (decide (((((C).1).getD ((gl.getD i e0).f) 0 : Nat) : Int) + (((gl.getD i e0).w : Nat) : Int) < ((((C).1).getD ((gl.getD i e0).t) 0 : Nat) : Int))))]) H rfl (by kernel_rfl) ?_ (fun a w S H => ?_)
        · skip
          refine q_y S (y_fieldAddr S rfl rfl fa40_0) rfl rfl rfl fun a S => ?_
          refine q_y S (y_load 2 S rfl rfl Try.isAgg37 rfl rfl) rfl rfl rfl fun a S => ?_
          refine q_y S (y_fieldAddr S rfl rfl fa47_1) rfl rfl rfl fun a S => ?_
          refine q_y S (y_load 0 S rfl rfl Try.isAgg22 rfl rfl) rfl rfl rfl fun a S => ?_
          refine q_y S (y_index S rfl rfl rfl Try.underlying37 Try.sizeOf25 (by omega) (by omega)) rfl rfl rfl fun a S => ?_
          refine q_y S (y_loadAt S rfl rfl Try.isAgg25 (fun w H => (SlOk.ofRow (i := 3) H rfl).cell w H (u64s_at (i := ((gl.getD i e0).t)) (by first | omega | (simp <;> omega))))) rfl rfl rfl fun a S => ?_
          refine q_y S (y_move S rfl rfl) rfl rfl rfl fun a S => ?_
          refine q_y S (y_fieldAddr S rfl rfl fa47_2) rfl rfl rfl fun a S => ?_
          refine q_y S (y_load 0 S rfl rfl Try.isAgg22 rfl rfl) rfl rfl rfl fun a S => ?_
          refine q_y S (y_conv S rfl rfl Try.underlying22 Try.underlying25 (wu64 (by omega) (by omega))) rfl rfl rfl fun a S => ?_
          refine q_y S (y_add S rfl rfl rfl (wu64 (by omega) (by omega))) rfl rfl rfl fun a S => ?_
          refine q_y S (y_gt S rfl rfl rfl) rfl rfl rfl fun a S => ?_
          exact q_nil (S.sub ⟨rfl, rfl, rfl, rfl, rfl, rfl, rfl, rfl, rfl, rfl, rfl, rfl, rfl, rfl, rfl, rfl, rfl, rfl, rfl, rfl, rfl, rfl, rfl, rfl, rfl, rfl, rfl, rfl, rfl, rfl, rfl, rfl, rfl, rfl, rfl, rfl, rfl, rfl, rfl, rfl, rfl, rfl, rfl, rfl, rfl, rfl, rfl, rfl, rfl, rfl, rfl, rfl, rfl, rfl, rfl, rfl, rfl, trivial⟩)
        · skip
          refine x_then ?_
          refine r_test S rfl (fun h95 => ?_) (fun h95 => ?_)
          · skip
            exfalso; omega
          · skip
            refine wp_skip ?_
            refine x_then ?_
            refine r_seq ?_
            refine r_quiet (n := 132) (E' := [(0, .agg #[.int .i64 n, .slice A es.length c]), (1, .int .u32 ((s0 % m : Nat) : Int)), (2, .pointer (some ⟨b1, 0, none⟩)), (5, .bool true), (6, .pointer (some ⟨b8, 0, none⟩)), (7, .int .i64 (Tr.err (Tr.may 3 (s0 % m) ((m : Nat) : Int) gl && decide (0 ≤ ((m + 1 : Nat) : Int))))), (8, .slice (some ⟨b13, 0, none⟩) m m), (9, .int .i64 ((i : Nat) : Int)), (10, .pointer (some ⟨b16, 0, none⟩)), (11, .int .u64 ((((C).1).getD ((gl.getD i e0).f) 0 : Nat) : Int)), (13, .bool true), (14, .agg #[.int .i64 n, .slice A es.length c]), (15, .agg #[.int .i64 ((m : Nat) : Int), .slice (some ⟨b14, 0, none⟩) gl.length c3]), (16, .pointer (some ⟨b1, 0, none⟩)), (17, .int .i64 ((m : Nat) : Int)), (18, .bool (decide (((m : Nat) : Int) = 0))), (20, .int .u32 ((s0 : Nat) : Int)), (21, .pointer (some ⟨b1, 0, none⟩)), (22, .int .i64 ((m : Nat) : Int)), (23, .int .u32 ((m : Nat) : Int)), (24, .int .u32 ((s0 % m : Nat) : Int)), (25, .tuple #[.agg #[.slice (some ⟨b17, 0, none⟩) ((C).1.length) c5, .slice A6 ((C).2.length) c7], .int .i64 (Tr.err (Tr.may 3 (s0 % m) ((m : Nat) : Int) gl && decide (0 ≤ ((m + 1 : Nat) : Int))))]), (26, .int .u32 ((s0 % m : Nat) : Int)), (27, .agg #[.int .i64 3, .int .u32 ((s0 % m : Nat) : Int)]), (28, .agg #[.int .i64 ((m : Nat) : Int), .slice (some ⟨b14, 0, none⟩) gl.length c3]), (29, .pointer (some ⟨b1, 0, none⟩)), (30, .int .i64 ((m : Nat) : Int)), (31, .int .i64 ((m + 1 : Nat) : Int)), (32, .tuple #[.agg #[.slice (some ⟨b17, 0, none⟩) ((C).1.length) c5, .slice A6 ((C).2.length) c7], .int .i64 (Tr.err (Tr.may 3 (s0 % m) ((m : Nat) : Int) gl && decide (0 ≤ ((m + 1 : Nat) : Int))))]), (33, .agg #[.slice (some ⟨b17, 0, none⟩) ((C).1.length) c5, .slice A6 ((C).2.length) c7]), (34, .int .i64 (Tr.err (Tr.may 3 (s0 % m) ((m : Nat) : Int) gl && decide (0 ≤ ((m + 1 : Nat) : Int))))), (57, .bool false), (58, .pointer (some ⟨b1, 0, none⟩)), (59, .int .i64 ((m : Nat) : Int)), (60, .slice (some ⟨b13, 0, none⟩) m m), (61, .slice (some ⟨b13, 0, none⟩) m m), (62, .int .u32 ((s0 % m : Nat) : Int)), (63, .pointer (some ⟨b13, 0 + (s0 % m) * 1, none⟩)), (64, .int .i64 ((i : Nat) : Int)), (65, .pointer (some ⟨b1, 1, none⟩)), (66, .slice (some ⟨b14, 0, none⟩) gl.length c3), (67, .int .i64 ((gl.length : Nat) : Int)), (68, .bool (decide (((i : Nat) : Int) < ((gl.length : Nat) : Int)))), (71, .pointer (some ⟨b1, 1, none⟩)), (72, .slice (some ⟨b14, 0, none⟩) gl.length c3), (73, .int .i64 ((i : Nat) : Int)), (74, .pointer (some ⟨b14, 0 + i * 3, none⟩)), (75, .agg #[.int .u32 (((gl.getD i e0).f : Nat) : Int), .int .u32 (((gl.getD i e0).t : Nat) : Int), .int .u32 (((gl.getD i e0).w : Nat) : Int)]), (76, .pointer (some ⟨b8, 0, none⟩)), (77, .slice (some ⟨b17, 0, none⟩) ((C).1.length) c5), (78, .pointer (some ⟨b16, 0, none⟩)), (79, .int .u32 (((gl.getD i e0).f : Nat) : Int)), (80, .pointer (some ⟨b17, 0 + ((gl.getD i e0).f) * 1, none⟩)), (81, .int .u64 ((((C).1).getD ((gl.getD i e0).f) 0 : Nat) : Int)), (82, .int .u64 ((((C).1).getD ((gl.getD i e0).f) 0 : Nat) : Int)), (83, .bool (decide (((((C).1).getD ((gl.getD i e0).f) 0 : Nat) : Int) = 18446744073709551615))), (95, .bool (decide (((((C).1).getD ((gl.getD i e0).f) 0 : Nat) : Int) + (((gl.getD i e0).w : Nat) : Int) < ((((C).1).getD ((gl.getD i e0).t) 0 : Nat) : Int)))), (107, .bool (decide (((((C).1).getD ((gl.getD i e0).t) 0 : Nat) : Int) = ((((C).1).getD ((gl.getD i e0).f) 0 : Nat) : Int) + (((gl.getD i e0).w : Nat) : Int))))]) H rfl (by kernel_rfl) ?_ (fun a w S H => ?_)
            · skip
              refine q_y S (y_fieldAddr S rfl rfl fa40_0) rfl rfl rfl fun a S => ?_
              refine q_y S (y_load 2 S rfl rfl Try.isAgg37 rfl rfl) rfl rfl rfl fun a S => ?_
              refine q_y S (y_fieldAddr S rfl rfl fa47_1) rfl rfl rfl fun a S => ?_
              refine q_y S (y_load 0 S rfl rfl Try.isAgg22 rfl rfl) rfl rfl rfl fun a S => ?_
              refine q_y S (y_index S rfl rfl rfl Try.underlying37 Try.sizeOf25 (by omega) (by omega)) rfl rfl rfl fun a S => ?_
              refine q_y S (y_loadAt S rfl rfl Try.isAgg25 (fun w H => (SlOk.ofRow (i := 3) H rfl).cell w H (u64s_at (i := ((gl.getD i e0).t)) (by first | omega | (simp <;> omega))))) rfl rfl rfl fun a S => ?_
              refine q_y S (y_move S rfl rfl) rfl rfl rfl fun a S => ?_
              refine q_y S (y_fieldAddr S rfl rfl fa47_2) rfl rfl rfl fun a S => ?_
              refine q_y S (y_load 0 S rfl rfl Try.isAgg22 rfl rfl) rfl rfl rfl fun a S => ?_
              refine q_y S (y_conv S rfl rfl Try.underlying22 Try.underlying25 (wu64 (by omega) (by omega))) rfl rfl rfl fun a S => ?_
              refine q_y S (y_add S rfl rfl rfl (wu64 (by omega) (by omega))) rfl rfl rfl fun a S => ?_
              refine q_y S (y_eq S rfl rfl rfl) rfl rfl rfl fun a S => ?_
              exact q_nil (S.sub ⟨rfl, rfl, rfl, rfl, rfl, rfl, rfl, rfl, rfl, rfl, rfl, rfl, rfl, rfl, rfl, rfl, rfl, rfl, rfl, rfl, rfl, rfl, rfl, rfl, rfl, rfl, rfl, rfl, rfl, rfl, rfl, rfl, rfl, rfl, rfl, rfl, rfl, rfl, rfl, rfl, rfl, rfl, rfl, rfl, rfl, rfl, rfl, rfl, rfl, rfl, rfl, rfl, rfl, rfl, rfl, rfl, rfl, rfl, trivial⟩)
            · skip
              refine x_then ?_
              refine r_test S rfl (fun h107 => ?_) (fun h107 => ?_)
              · skip
                refine r_region ?_
                refine r_y S H (y_move S rfl rfl) rfl rfl rfl fun a S => ?_
                refine r_y S H (y_fieldAddr S rfl rfl fa47_1) rfl rfl rfl fun a S => ?_
                refine r_y S H (y_load 0 S rfl rfl Try.isAgg22 rfl rfl) rfl rfl rfl fun a S => ?_
                refine r_y S H (y_index S rfl rfl rfl Try.underlying38 Try.sizeOf4 (by omega) (by omega)) rfl rfl rfl fun a S => ?_
                refine r_setRowV (L' := blk b16 (.cells #[.int .u32 (((gl.getD i e0).f : Nat) : Int), .int .u32 (((gl.getD i e0).t : Nat) : Int), .int .u32 (((gl.getD i e0).w : Nat) : Int)] 47) :: row 4 1 (.slice (some ⟨b13, 0, none⟩) m m) m (bools (bl.set ((gl.getD i e0).t) true)) :: blk b8 (.cells #[.slice (some ⟨b17, 0, none⟩) ((C).1.length) c5, .slice A6 ((C).2.length) c7] 40) :: row 25 1 (.slice (some ⟨b17, 0, none⟩) ((C).1.length) c5) ((C).1.length) (u64s (C).1) :: row 4 1 (.slice A6 ((C).2.length) c7) ((C).2.length) (bools (C).2) :: row 47 3 (.slice (some ⟨b14, 0, none⟩) gl.length c3) gl.length (ecells gl) :: blk b1 (.cells #[.int .i64 ((m : Nat) : Int), .slice (some ⟨b14, 0, none⟩) gl.length c3] 35) :: fr) 1 S H rfl rfl rfl rfl Try.sizeOf4 rfl rfl (by first | omega | (simp <;> omega)) (xs' := bools (bl.set ((gl.getD i e0).t) true)) (bools_put (by omega) rfl) rfl rfl rfl fun w H => ?_
                refine r_nil ?_
                refine x_blockEnd ?_
                refine x_then ?_
                refine r_region ?_
                refine r_y S H (y_move S rfl rfl) rfl rfl rfl fun a S => ?_
                refine r_y S H (y_add S rfl rfl rfl (wi64 (by omega) (by omega))) rfl rfl rfl fun a S => ?_
                refine r_y S H (y_assign S rfl rfl) rfl rfl rfl fun a S => ?_
                refine r_nil ?_
                refine x_then ?_
                exact ⟨(i + 1, bl.set (gl.getD i e0).t true), ⟨S.sub ⟨rfl, rfl, rfl, rfl, rfl, rfl, rfl, rfl, rfl, rfl, rfl, rfl, rfl, rfl, rfl, rfl, rfl, rfl, rfl, rfl, rfl, rfl, rfl, rfl, rfl, rfl, rfl, rfl, rfl, rfl, rfl, rfl, rfl, rfl, rfl, rfl, trivial⟩, (((((((H.fetch (i := 6) rfl).fetch (i := 6) rfl).fetch (i := 6) rfl).fetch (i := 6) rfl).fetch (i := 6) rfl).fetch (i := 6) rfl).sub (.cons_cons _ (.cons_cons _ (.cons_cons _ (.cons_cons _ (.cons_cons _ (.cons_cons _ (.cons _ (List.Sublist.refl _))))))))), ⟨by omega, by simp [hbl], Tr.by_set (by omega) hbl (by omega) hby⟩⟩, by show gl.length - (i + 1) < gl.length - i; omega⟩
              · skip
                refine wp_skip ?_
                refine x_blockEnd ?_
                refine x_then ?_
                refine r_region ?_
                refine r_y S H (y_move S rfl rfl) rfl rfl rfl fun a S => ?_
                refine r_y S H (y_add S rfl rfl rfl (wi64 (by omega) (by omega))) rfl rfl rfl fun a S => ?_
                refine r_y S H (y_assign S rfl rfl) rfl rfl rfl fun a S => ?_
                refine r_nil ?_
                refine x_then ?_
                exact ⟨(i + 1, bl), ⟨S.sub ⟨rfl, rfl, rfl, rfl, rfl, rfl, rfl, rfl, rfl, rfl, rfl, rfl, rfl, rfl, rfl, rfl, rfl, rfl, rfl, rfl, rfl, rfl, rfl, rfl, rfl, rfl, rfl, rfl, rfl, rfl, rfl, rfl, rfl, rfl, rfl, rfl, trivial⟩, H.drop, ⟨by omega, hbl, Tr.by_skip (by omega) hby (fun h => by have := h.2; omega)⟩⟩, by show gl.length - (i + 1) < gl.length - i; omega⟩
    · skip
      refine wp_exit ?_
      refine x_thenExit ?_
      refine x_thenExit ?_
      refine x_blockHere ?_
      refine x_then ?_
      refine r_seq ?_
      refine r_seq ?_
      refine r_region ?_
      refine r_y S H (y_assign S rfl rfl) rfl rfl rfl fun a S => ?_
      refine r_nil ?_
      refine x_then ?_
      refine r_block ?_
      refine r_loop (ι := Nat) (fun x a w => Slots a 132 [(0, .agg #[.int .i64 n, .slice A es.length c]), (1, .int .u32 ((s0 % m : Nat) : Int)), (2, .pointer (some ⟨b1, 0, none⟩)), (5, .bool true), (6, .pointer (some ⟨b8, 0, none⟩)), (7, .int .i64 (Tr.err (Tr.may 3 (s0 % m) ((m : Nat) : Int) gl && decide (0 ≤ ((m + 1 : Nat) : Int))))), (8, .slice (some ⟨b13, 0, none⟩) m m), (9, .int .i64 ((i : Nat) : Int)), (12, .int .i64 ((x : Nat) : Int)), (13, .bool true), (14, .agg #[.int .i64 n, .slice A es.length c]), (15, .agg #[.int .i64 ((m : Nat) : Int), .slice A2 gl.length c3]), (16, .pointer (some ⟨b1, 0, none⟩)), (17, .int .i64 ((m : Nat) : Int)), (18, .bool (decide (((m : Nat) : Int) = 0))), (20, .int .u32 ((s0 : Nat) : Int)), (21, .pointer (some ⟨b1, 0, none⟩)), (22, .int .i64 ((m : Nat) : Int)), (23, .int .u32 ((m : Nat) : Int)), (24, .int .u32 ((s0 % m : Nat) : Int)), (25, .tuple #[.agg #[.slice A4 ((C).1.length) c5, .slice A6 ((C).2.length) c7], .int .i64 (Tr.err (Tr.may 3 (s0 % m) ((m : Nat) : Int) gl && decide (0 ≤ ((m + 1 : Nat) : Int))))]), (26, .int .u32 ((s0 % m : Nat) : Int)), (27, .agg #[.int .i64 3, .int .u32 ((s0 % m : Nat) : Int)]), (28, .agg #[.int .i64 ((m : Nat) : Int), .slice A2 gl.length c3]), (29, .pointer (some ⟨b1, 0, none⟩)), (30, .int .i64 ((m : Nat) : Int)), (31, .int .i64 ((m + 1 : Nat) : Int)), (32, .tuple #[.agg #[.slice A4 ((C).1.length) c5, .slice A6 ((C).2.length) c7], .int .i64 (Tr.err (Tr.may 3 (s0 % m) ((m : Nat) : Int) gl && decide (0 ≤ ((m + 1 : Nat) : Int))))]), (33, .agg #[.slice A4 ((C).1.length) c5, .slice A6 ((C).2.length) c7]), (34, .int .i64 (Tr.err (Tr.may 3 (s0 % m) ((m : Nat) : Int) gl && decide (0 ≤ ((m + 1 : Nat) : Int))))), (57, .bool false), (58, .pointer (some ⟨b1, 0, none⟩)), (59, .int .i64 ((m : Nat) : Int)), (60, .slice (some ⟨b13, 0, none⟩) m m), (61, .slice (some ⟨b13, 0, none⟩) m m), (62, .int .u32 ((s0 % m : Nat) : Int)), (63, .pointer (some ⟨b13, 0 + (s0 % m) * 1, none⟩)), (64, .int .i64 ((i : Nat) : Int)), (65, .pointer (some ⟨b1, 1, none⟩)), (66, .slice A2 gl.length c3), (67, .int .i64 ((gl.length : Nat) : Int)), (68, .bool (decide (((i : Nat) : Int) < ((gl.length : Nat) : Int))))] ∧ Sat w (row 4 1 (.slice (some ⟨b13, 0, none⟩) m m) m (bools (bl)) :: blk b8 (.cells #[.slice A4 ((C).1.length) c5, .slice A6 ((C).2.length) c7] 40) :: row 25 1 (.slice A4 ((C).1.length) c5) ((C).1.length) (u64s (C).1) :: row 4 1 (.slice A6 ((C).2.length) c7) ((C).2.length) (bools (C).2) :: row 47 3 (.slice A2 gl.length c3) gl.length (ecells gl) :: blk b1 (.cells #[.int .i64 ((m : Nat) : Int), .slice A2 gl.length c3] 35) :: fr) ∧ (x ≤ m)) (fun x => m - x) 0 ⟨S.sub ⟨rfl, rfl, rfl, rfl, rfl, rfl, rfl, rfl, rfl, rfl, rfl, rfl, rfl, rfl, rfl, rfl, rfl, rfl, rfl, rfl, rfl, rfl, rfl, rfl, rfl, rfl, rfl, rfl, rfl, rfl, rfl, rfl, rfl, rfl, rfl, rfl, rfl, rfl, rfl, rfl, rfl, rfl, trivial⟩, H, Nat.zero_le _⟩ (fun x a w hI => ?_)
      obtain ⟨S, H, hI⟩ := hI
      have hx1 := hI
      refine r_seq ?_
      refine r_seq ?_
      refine r_region ?_
      refine r_y S H (y_move S rfl rfl) rfl rfl rfl fun a S => ?_
      refine r_y S H (y_fieldAddr S rfl rfl fa35_0) rfl rfl rfl fun a S => ?_
      refine r_y S H (y_load 5 S rfl rfl Try.isAgg3 rfl rfl) rfl rfl rfl fun a S => ?_
      refine r_y S H (y_lt S rfl rfl rfl) rfl rfl rfl fun a S => ?_
      refine r_nil ?_
      refine x_then ?_
      refine r_test S rfl (fun h115 => ?_) (fun h115 => ?_)
      · skip
        refine wp_skip ?_
        refine x_then ?_
        refine r_seq ?_
        refine r_block ?_
        refine r_seq ?_
        refine wp_via (J := fun a w => Slots a 132 [(0, .agg #[.int .i64 n, .slice A es.length c]), (1, .int .u32 ((s0 % m : Nat) : Int)), (2, .pointer (some ⟨b1, 0, none⟩)), (5, .bool true), (6, .pointer (some ⟨b8, 0, none⟩)), (7, .int .i64 (Tr.err (Tr.may 3 (s0 % m) ((m : Nat) : Int) gl && decide (0 ≤ ((m + 1 : Nat) : Int))))), (8, .slice (some ⟨b13, 0, none⟩) m m), (9, .int .i64 ((i : Nat) : Int)), (12, .int .i64 ((x : Nat) : Int)), (13, .bool true), (14, .agg #[.int .i64 n, .slice A es.length c]), (15, .agg #[.int .i64 ((m : Nat) : Int), .slice A2 gl.length c3]), (16, .pointer (some ⟨b1, 0, none⟩)), (17, .int .i64 ((m : Nat) : Int)), (18, .bool (decide (((m : Nat) : Int) = 0))), (20, .int .u32 ((s0 : Nat) : Int)), (21, .pointer (some ⟨b1, 0, none⟩)), (22, .int .i64 ((m : Nat) : Int)), (23, .int .u32 ((m : Nat) : Int)), (24, .int .u32 ((s0 % m : Nat) : Int)), (25, .tuple #[.agg #[.slice A4 ((C).1.length) c5, .slice A6 ((C).2.length) c7], .int .i64 (Tr.err (Tr.may 3 (s0 % m) ((m : Nat) : Int) gl && decide (0 ≤ ((m + 1 : Nat) : Int))))]), (26, .int .u32 ((s0 % m : Nat) : Int)), (27, .agg #[.int .i64 3, .int .u32 ((s0 % m : Nat) : Int)]), (28, .agg #[.int .i64 ((m : Nat) : Int), .slice A2 gl.length c3]), (29, .pointer (some ⟨b1, 0, none⟩)), (30, .int .i64 ((m : Nat) : Int)), (31, .int .i64 ((m + 1 : Nat) : Int)), (32, .tuple #[.agg #[.slice A4 ((C).1.length) c5, .slice A6 ((C).2.length) c7], .int .i64 (Tr.err (Tr.may 3 (s0 % m) ((m : Nat) : Int) gl && decide (0 ≤ ((m + 1 : Nat) : Int))))]), (33, .agg #[.slice A4 ((C).1.length) c5, .slice A6 ((C).2.length) c7]), (34, .int .i64 (Tr.err (Tr.may 3 (s0 % m) ((m : Nat) : Int) gl && decide (0 ≤ ((m + 1 : Nat) : Int))))), (57, .bool false), (58, .pointer (some ⟨b1, 0, none⟩)), (59, .int .i64 ((m : Nat) : Int)), (60, .slice (some ⟨b13, 0, none⟩) m m), (61, .slice (some ⟨b13, 0, none⟩) m m), (62, .int .u32 ((s0 % m : Nat) : Int)), (63, .pointer (some ⟨b13, 0 + (s0 % m) * 1, none⟩)), (64, .int .i64 ((i : Nat) : Int)), (65, .pointer (some ⟨b1, 1, none⟩)), (66, .slice A2 gl.length c3), (67, .int .i64 ((gl.length : Nat) : Int)), (68, .bool (decide (((i : Nat) : Int) < ((gl.length : Nat) : Int)))), (112, .int .i64 ((x : Nat) : Int)), (113, .pointer (some ⟨b1, 0, none⟩)), (114, .int .i64 ((m : Nat) : Int)), (115, .bool (decide (((x : Nat) : Int) < ((m : Nat) : Int)))), (130, .bool ((decide (((((C).1).getD x 0 : Nat) : Int) ≠ 18446744073709551615)) && (!(bl.getD x false))))] ∧ Sat w (row 4 1 (.slice (some ⟨b13, 0, none⟩) m m) m (bools (bl)) :: blk b8 (.cells #[.slice A4 ((C).1.length) c5, .slice A6 ((C).2.length) c7] 40) :: row 25 1 (.slice A4 ((C).1.length) c5) ((C).1.length) (u64s (C).1) :: row 4 1 (.slice A6 ((C).2.length) c7) ((C).2.length) (bools (C).2) :: row 47 3 (.slice A2 gl.length c3) gl.length (ecells gl) :: blk b1 (.cells #[.int .i64 ((m : Nat) : Int), .slice A2 gl.length c3] 35) :: fr)) ?_ (fun a w hm => ?_)
        · skip
          refine r_region ?_
          refine r_y S H (y_fieldAddr S rfl rfl fa40_0) rfl rfl rfl fun a S => ?_
          refine r_y S H (y_load 1 S rfl rfl Try.isAgg37 rfl rfl) rfl rfl rfl fun a S => ?_
          refine r_y S H (y_move S rfl rfl) rfl rfl rfl fun a S => ?_
          obtain ⟨b21, rfl⟩ := H.rowAt (i := 2) rfl (by first | omega | (simp <;> omega))
          refine r_y S H (y_index S rfl rfl rfl Try.underlying37 Try.sizeOf25 (by omega) (by omega)) rfl rfl rfl fun a S => ?_
          refine r_y S H (y_loadAt S rfl rfl Try.isAgg25 (fun w H => (SlOk.ofRow (i := 2) H rfl).cell w H (u64s_at (i := x) (by first | omega | (simp <;> omega))))) rfl rfl rfl fun a S => ?_
          refine r_y S H (y_ne S rfl rfl rfl) rfl rfl rfl fun a S => ?_
          refine r_y S H (y_move S rfl rfl) rfl rfl rfl fun a S => ?_
          refine splitP S (d := 124) rfl (fun g124 S => ?_) (fun g124 S => ?_)
          · skip
            refine r_y S H (y_move S rfl rfl) rfl rfl rfl fun a S => ?_
            refine r_y S H (y_move S rfl rfl) rfl rfl rfl fun a S => ?_
            refine r_y S H (y_index S rfl rfl rfl Try.underlying38 Try.sizeOf4 (by omega) (by omega)) rfl rfl rfl fun a S => ?_
            refine r_y S H (y_loadAt S rfl rfl Try.isAgg4 (fun w H => (SlOk.ofRow (i := 0) H rfl).cell w H (bools_at (i := x) (by first | omega | (simp <;> omega))))) rfl rfl rfl fun a S => ?_
            refine r_y S H (y_not S rfl rfl) rfl rfl rfl fun a S => ?_
            refine r_y S H (y_pickT S rfl rfl rfl) rfl rfl rfl fun a S => ?_
            refine r_nil ?_
            refine x_then ?_
            exact ⟨S.sub ⟨rfl, rfl, rfl, rfl, rfl, rfl, rfl, rfl, rfl, rfl, rfl, rfl, rfl, rfl, rfl, rfl, rfl, rfl, rfl, rfl, rfl, rfl, rfl, rfl, rfl, rfl, rfl, rfl, rfl, rfl, rfl, rfl, rfl, rfl, rfl, rfl, rfl, rfl, rfl, rfl, rfl, rfl, rfl, rfl, rfl, rfl, (show lk _ _ = some (.bool (!(bl.getD x false))) from rfl).trans (by first | (simp only [g124, decide_true, decide_false, Bool.true_and, Bool.false_and, Bool.true_or, Bool.false_or]; done) | (simp [-List.getD_eq_getElem?_getD, g124]; done) | (simp [-List.getD_eq_getElem?_getD, g124]; omega)), trivial⟩, H⟩
          · skip
            refine r_skip S rfl rfl rfl fun a S => ?_
            refine r_skip S rfl rfl rfl fun a S => ?_
            refine r_skip S rfl rfl rfl fun a S => ?_
            refine r_skip S rfl rfl rfl fun a S => ?_
            refine r_skip S rfl rfl rfl fun a S => ?_
            refine r_y S H (y_pickF S rfl rfl rfl) rfl rfl rfl fun a S => ?_
            refine r_nil ?_
            refine x_then ?_
            exact ⟨S.sub ⟨rfl, rfl, rfl, rfl, rfl, rfl, rfl, rfl, rfl, rfl, rfl, rfl, rfl, rfl, rfl, rfl, rfl, rfl, rfl, rfl, rfl, rfl, rfl, rfl, rfl, rfl, rfl, rfl, rfl, rfl, rfl, rfl, rfl, rfl, rfl, rfl, rfl, rfl, rfl, rfl, rfl, rfl, rfl, rfl, rfl, rfl, (show lk _ _ = some (.bool false) from rfl).trans (by first | (simp only [g124, decide_true, decide_false, Bool.true_and, Bool.false_and, Bool.true_or, Bool.false_or]; done) | (simp [-List.getD_eq_getElem?_getD, g124]; done) | (simp [-List.getD_eq_getElem?_getD, g124]; omega)), trivial⟩, H⟩
        obtain ⟨S, H⟩ := hm
        refine x_then ?_
        refine r_cond S rfl (fun h130 => ?_) (fun h130 => ?_)
        · skip
          exfalso; simp only [Bool.and_eq_true, decide_eq_true_eq, Bool.not_eq_true'] at h130; have hv := hby x (by omega) (by rw [List.take_of_length_le (by omega)]; exact hreach x (by omega) (by omega)); rw [hv] at h130; simp at h130
        · skip
          refine wp_skip ?_
          refine x_blockEnd ?_
          refine x_then ?_
          refine r_region ?_
          refine r_y S H (y_move S rfl rfl) rfl rfl rfl fun a S => ?_
          refine r_y S H (y_add S rfl rfl rfl (wi64 (by omega) (by omega))) rfl rfl rfl fun a S => ?_
          refine r_y S H (y_assign S rfl rfl) rfl rfl rfl fun a S => ?_
          refine r_nil ?_
          refine x_then ?_
          exact ⟨x + 1, ⟨S.sub ⟨rfl, rfl, rfl, rfl, rfl, rfl, rfl, rfl, rfl, rfl, rfl, rfl, rfl, rfl, rfl, rfl, rfl, rfl, rfl, rfl, rfl, rfl, rfl, rfl, rfl, rfl, rfl, rfl, rfl, rfl, rfl, rfl, rfl, rfl, rfl, rfl, rfl, rfl, rfl, rfl, rfl, rfl, trivial⟩, H, by omega⟩, by omega⟩
      · skip
        refine wp_exit ?_
        refine x_thenExit ?_
        refine x_thenExit ?_
        refine x_blockHere ?_
        refine x_then ?_
        refine r_seq ?_
        refine r_region ?_
        refine r_y S H (y_move S rfl rfl) rfl rfl rfl fun a S => ?_
        refine r_y S H (y_assign S rfl rfl) rfl rfl rfl fun a S => ?_
        refine r_nil ?_
        refine x_then ?_
        refine wp_ret ?_
        refine r_ret1 S H Try.results6 (ro_tmp S rfl) ?_
        exact ⟨rfl, H.drop.drop.drop.drop.drop.drop⟩

end Go.Proofs.Ytfmpgdhmfjllnaa
