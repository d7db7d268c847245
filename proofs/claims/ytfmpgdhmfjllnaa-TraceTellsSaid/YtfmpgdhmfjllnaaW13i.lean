/- Walks of functions of the program, over slots and resources. No condition. -/
import Derived.Test.YtfmpgdhmfjllnaaW13g
namespace Go.Proofs.Ytfmpgdhmfjllnaa
open Go.RowKit Go.Cg
set_option linter.unusedVariables false
set_option linter.unusedSimpArgs false
theorem el45 : Elem Try.prog 45 3 1 8 (.int .i64 0) := ⟨Try.underlying45, by kernel_rfl, rfl, by decide⟩
open Go.Cg.Tr (E top right graph quiet msg comb nxt summed)
set_option maxRecDepth 4000 in
theorem law_hops (w : World) (fr : List Res) (n : Int) (A : Option Addr) (c : Nat) (es : List E) (ok : SlOk fr 3 A es.length c (ecells es)) (hes : ∀ e ∈ es, e.f < 4294967296 ∧ e.t < 4294967296) (hew : ∀ e ∈ es, e.w < 4294967296) (s0 : Nat) (hs0 : s0 < 4294967296) (H : Sat w (fr)) :
    Rt Try.prog 4 #[.agg #[.int .i64 n, .slice A es.length c], .int .u32 ((s0 : Nat) : Int)] w fun v w' => v = .bool true ∧ Sat w' fr := by
  refine rt_enter Try.func4 rfl (n := 145) Try.ntmps4 rfl fun a S => ?_
  refine r_seq ?_
  refine r_region ?_
  refine r_box (c := #[.int .i64 n, .slice A es.length c]) S H rfl rfl rfl rfl rfl rfl fun a w b1 S H => ?_
  refine r_y S H (y_assign S rfl rfl) rfl rfl rfl fun a S => ?_
  refine r_nil ?_
  refine x_then ?_
  refine r_seq ?_
  refine r_region ?_
  refine r_call (args := #[]) S rfl rfl Try.call14 (shown_ct (H := H) _ _) rfl rfl rfl fun v a w hR S => ?_
  obtain ⟨rfl, H⟩ := hR
  refine r_y S H (y_assign S rfl rfl) rfl rfl rfl fun a S => ?_
  refine r_nil ?_
  refine x_then ?_
  refine r_seq ?_
  refine r_region ?_
  refine r_y S H (y_loadAgg [_, _] 0 S rfl rfl (fun w => ⟨Try.isAgg35 w, Try.sizeOf35 w⟩) rfl rfl ⟨rfl, rfl, trivial⟩) rfl rfl rfl fun a S => ?_
  refine r_call (args := #[.agg #[.int .i64 n, .slice A es.length c]]) S rfl rfl Try.call23 (few_ct2 (H := H) _ _ n _ _ es (ok.more _) hes) rfl rfl rfl fun v a w hR S => ?_
  obtain ⟨m, gl, A2, c3, hfew, rfl, H⟩ := hR
  have hm60 := hfew.hm
  have hgl := hfew.hl
  have hgs : ∀ e ∈ gl, e.f < 4294967296 ∧ e.t < 4294967296 := fun e he => hes e (hfew.sub e he)
  have hgw : ∀ e ∈ gl, e.w < 4294967296 := fun e he => hew e (hfew.sub e he)
  have hge := hfew.edges
  refine r_store (vs := [.int .i64 ((m : Nat) : Int), .slice A2 gl.length c3]) 1 S H rfl rfl rfl rfl Try.sizeOf35 rfl rfl (by simp [Value.oneCell']) rfl rfl rfl rfl rfl fun w H => ?_
  refine r_nil ?_
  refine x_then ?_
  refine r_seq ?_
  refine r_seq ?_
  refine r_region ?_
  refine r_y S H (y_fieldAddr S rfl rfl fa35_0) rfl rfl rfl fun a S => ?_
  refine r_y S H (y_load 1 S rfl rfl Try.isAgg3 rfl rfl) rfl rfl rfl fun a S => ?_
  refine r_y S H (y_eq S rfl rfl rfl) rfl rfl rfl fun a S => ?_
  refine r_nil ?_
  refine x_then ?_
  refine r_test S rfl (fun h19 => ?_) (fun h19 => ?_)
  · skip
    refine r_seq ?_
    refine r_region ?_
    refine r_y S H (y_move S rfl rfl) rfl rfl rfl fun a S => ?_
    refine r_y S H (y_assign S rfl rfl) rfl rfl rfl fun a S => ?_
    refine r_nil ?_
    refine x_then ?_
    refine wp_ret ?_
    refine x_thenRet ?_
    refine r_ret1 S H Try.results4 (ro_tmp S rfl) ?_
    exact ⟨rfl, H.drop.drop⟩
  · skip
    have hsm : s0 % m < m := Nat.mod_lt _ (by omega)
    obtain ⟨hmay, hlen, hq, htop, hfar⟩ := Tr.hops_law hfew hsm
    refine wp_skip ?_
    refine x_then ?_
    refine r_seq ?_
    refine r_region ?_
    refine r_y S H (y_move S rfl rfl) rfl rfl rfl fun a S => ?_
    refine r_y S H (y_fieldAddr S rfl rfl fa35_0) rfl rfl rfl fun a S => ?_
    refine r_y S H (y_load 1 S rfl rfl Try.isAgg3 rfl rfl) rfl rfl rfl fun a S => ?_
    refine r_y S H (y_conv S rfl rfl Try.underlying3 Try.underlying22 (wu32 (by omega) (by omega))) rfl rfl rfl fun a S => ?_
    refine r_y S H (y_remN S rfl rfl rfl (by omega) (by omega)) rfl rfl rfl fun a S => ?_
    have S := S.retell (v' := .int .u32 ((s0 % m : Nat) : Int)) 25 rfl (int_eq rfl)
    refine r_y S H (y_assign S rfl rfl) rfl rfl rfl fun a S => ?_
    refine r_nil ?_
    refine x_then ?_
    refine r_seq ?_
    refine r_region ?_
    refine r_y S H (y_move S rfl rfl) rfl rfl rfl fun a S => ?_
    refine r_y S H (y_build (vs := #[(0, .int .i64 1), (1, .int .u32 ((s0 % m : Nat) : Int))]) (v := .agg #[.int .i64 1, .int .u32 ((s0 % m : Nat) : Int)]) S rfl rfl (fun w => by kernel_rfl)) rfl rfl rfl fun a S => ?_
    refine r_y S H (y_loadAgg [_, _] 1 S rfl rfl (fun w => ⟨Try.isAgg35 w, Try.sizeOf35 w⟩) rfl rfl ⟨rfl, rfl, trivial⟩) rfl rfl rfl fun a S => ?_
    refine r_y S H (y_fieldAddr S rfl rfl fa35_0) rfl rfl rfl fun a S => ?_
    refine r_y S H (y_load 1 S rfl rfl Try.isAgg3 rfl rfl) rfl rfl rfl fun a S => ?_
    refine r_y S H (y_add S rfl rfl rfl (wi64 (by omega) (by omega))) rfl rfl rfl fun a S => ?_
    have S := S.retell (v' := .int .i64 ((m + 1 : Nat) : Int)) 32 rfl (int_eq (by omega))
    refine r_call (args := #[.agg #[.int .i64 1, .int .u32 ((s0 % m : Nat) : Int)], .agg #[.int .i64 ((m : Nat) : Int), .slice A2 gl.length c3], .int .i64 ((m + 1 : Nat) : Int)]) S rfl rfl Try.call24 (trace_ct (H := H) _ _ 1 (s0 % m) (by omega) ((m : Nat) : Int) _ _ gl (SlOk.ofRow (i := 0) H rfl) hgs hgw ((m + 1 : Nat) : Int) (by omega)) rfl rfl rfl fun v a w hR S => ?_
    obtain ⟨A4, c5, A6, c7, rfl, H⟩ := hR
    generalize hgC : Tr.traceR 1 (s0 % m) ((m : Nat) : Int) gl ((m + 1 : Nat) : Int) = C at *
    refine r_y S H (y_move S rfl rfl) rfl rfl rfl fun a S => ?_
    refine r_y S H (y_extract (v := .agg #[.slice A4 ((C).1.length) c5, .slice A6 ((C).2.length) c7]) S rfl rfl rfl) rfl rfl rfl fun a S => ?_
    refine r_y S H (y_extract (v := .int .i64 (Tr.err (Tr.may 1 (s0 % m) ((m : Nat) : Int) gl && decide (0 ≤ ((m + 1 : Nat) : Int))))) S rfl rfl rfl) rfl rfl rfl fun a S => ?_
    refine r_alloc S H rfl Try.zeroValue40 rfl rfl rfl rfl fun a w b8 S H => ?_
    refine r_store (vs := [.slice A4 ((C).1.length) c5, .slice A6 ((C).2.length) c7]) 0 S H rfl rfl rfl rfl Try.sizeOf40 rfl rfl (by simp [Value.oneCell']) rfl rfl rfl rfl rfl fun w H => ?_
    refine r_y S H (y_assign S rfl rfl) rfl rfl rfl fun a S => ?_
    refine r_nil ?_
    refine x_then ?_
    refine r_seq ?_
    refine r_seq ?_
    refine wp_via (J := fun a w => Slots a 145 [(0, .agg #[.int .i64 n, .slice A es.length c]), (1, .int .u32 ((s0 % m : Nat) : Int)), (2, .pointer (some ⟨b1, 0, none⟩)), (4, .bool false), (5, .bool true), (6, .pointer (some ⟨b8, 0, none⟩)), (7, .int .i64 (Tr.err (Tr.may 1 (s0 % m) ((m : Nat) : Int) gl && decide (0 ≤ ((m + 1 : Nat) : Int))))), (14, .bool true), (15, .agg #[.int .i64 n, .slice A es.length c]), (16, .agg #[.int .i64 ((m : Nat) : Int), .slice A2 gl.length c3]), (17, .pointer (some ⟨b1, 0, none⟩)), (18, .int .i64 ((m : Nat) : Int)), (19, .bool (decide (((m : Nat) : Int) = 0))), (21, .int .u32 ((s0 : Nat) : Int)), (22, .pointer (some ⟨b1, 0, none⟩)), (23, .int .i64 ((m : Nat) : Int)), (24, .int .u32 ((m : Nat) : Int)), (25, .int .u32 ((s0 % m : Nat) : Int)), (26, .tuple #[.agg #[.slice A4 ((C).1.length) c5, .slice A6 ((C).2.length) c7], .int .i64 (Tr.err (Tr.may 1 (s0 % m) ((m : Nat) : Int) gl && decide (0 ≤ ((m + 1 : Nat) : Int))))]), (27, .int .u32 ((s0 % m : Nat) : Int)), (28, .agg #[.int .i64 1, .int .u32 ((s0 % m : Nat) : Int)]), (29, .agg #[.int .i64 ((m : Nat) : Int), .slice A2 gl.length c3]), (30, .pointer (some ⟨b1, 0, none⟩)), (31, .int .i64 ((m : Nat) : Int)), (32, .int .i64 ((m + 1 : Nat) : Int)), (33, .tuple #[.agg #[.slice A4 ((C).1.length) c5, .slice A6 ((C).2.length) c7], .int .i64 (Tr.err (Tr.may 1 (s0 % m) ((m : Nat) : Int) gl && decide (0 ≤ ((m + 1 : Nat) : Int))))]), (34, .agg #[.slice A4 ((C).1.length) c5, .slice A6 ((C).2.length) c7]), (35, .int .i64 (Tr.err (Tr.may 1 (s0 % m) ((m : Nat) : Int) gl && decide (0 ≤ ((m + 1 : Nat) : Int))))), (50, .bool false)] ∧ Sat w (blk b8 (.cells #[.slice A4 ((C).1.length) c5, .slice A6 ((C).2.length) c7] 40) :: row 25 1 (.slice A4 ((C).1.length) c5) ((C).1.length) (u64s (C).1) :: row 4 1 (.slice A6 ((C).2.length) c7) ((C).2.length) (bools (C).2) :: row 47 3 (.slice A2 gl.length c3) gl.length (ecells gl) :: blk b1 (.cells #[.int .i64 ((m : Nat) : Int), .slice A2 gl.length c3] 35) :: fr)) ?_ (fun a w hm => ?_)
    · skip
      refine r_region ?_
      refine r_y S H (y_move S rfl rfl) rfl rfl rfl fun a S => ?_
      refine r_y S H (y_ne S rfl rfl rfl) rfl rfl rfl fun a S => ?_
      have S := S.retell (v' := .bool false) 37 rfl (by rw [hmay, decide_eq_true (Int.natCast_nonneg _)]; rfl)
      refine r_y S H (y_move S rfl rfl) rfl rfl rfl fun a S => ?_
      refine r_y S H (y_fieldAddr S rfl rfl fa40_0) rfl rfl rfl fun a S => ?_
      refine r_y S H (y_load 0 S rfl rfl Try.isAgg37 rfl rfl) rfl rfl rfl fun a S => ?_
      refine r_y S H (y_len S rfl rfl Try.underlying37) rfl rfl rfl fun a S => ?_
      refine r_y S H (y_fieldAddr S rfl rfl fa35_0) rfl rfl rfl fun a S => ?_
      refine r_y S H (y_load 4 S rfl rfl Try.isAgg3 rfl rfl) rfl rfl rfl fun a S => ?_
      refine r_y S H (y_ne S rfl rfl rfl) rfl rfl rfl fun a S => ?_
      have S := S.retell (v' := .bool false) 44 rfl (by rw [hlen]; simp)
      refine r_y S H (y_pickF S rfl rfl rfl) rfl rfl rfl fun a S => ?_
      refine r_y S H (y_move S rfl rfl) rfl rfl rfl fun a S => ?_
      refine r_y S H (y_loadAgg [_, _] 0 S rfl rfl (fun w => ⟨Try.isAgg40 w, Try.sizeOf40 w⟩) rfl rfl ⟨rfl, rfl, trivial⟩) rfl rfl rfl fun a S => ?_
      refine r_call (args := #[.agg #[.slice A4 ((C).1.length) c5, .slice A6 ((C).2.length) c7]]) S rfl rfl Try.call25 (quiet_ct (H := H) _ _ _ _ ((C).1) (SlOk.ofRow (i := 1) H rfl) _ _ ((C).2) (SlOk.ofRow (i := 2) H rfl)) rfl rfl rfl fun v a w hR S => ?_
      obtain ⟨rfl, H⟩ := hR
      refine r_y S H (y_not S rfl rfl) rfl rfl rfl fun a S => ?_
      have S := S.retell (v' := .bool false) 49 rfl (by rw [hq]; rfl)
      refine r_y S H (y_pickF S rfl rfl rfl) rfl rfl rfl fun a S => ?_
      refine r_nil ?_
      refine x_then ?_
      exact ⟨S.sub ⟨rfl, rfl, rfl, rfl, rfl, rfl, rfl, rfl, rfl, rfl, rfl, rfl, rfl, rfl, rfl, rfl, rfl, rfl, rfl, rfl, rfl, rfl, rfl, rfl, rfl, rfl, rfl, rfl, rfl, trivial⟩, H⟩
    obtain ⟨S, H⟩ := hm
    refine x_then ?_
    refine r_condF S rfl ?_
    refine wp_skip ?_
    refine x_then ?_
    refine r_seq ?_
    refine r_region ?_
    refine r_y S H (y_fieldAddr S rfl rfl fa35_0) rfl rfl rfl fun a S => ?_
    refine r_y S H (y_load 4 S rfl rfl Try.isAgg3 rfl rfl) rfl rfl rfl fun a S => ?_
    refine r_make (len := m) S H rfl rfl rfl el45 (by simp only [maxLen]; omega) (by omega) rfl rfl rfl fun a w b9 S H => ?_
    rw [made_ints] at H
    refine r_y S H (y_assign S rfl rfl) rfl rfl rfl fun a S => ?_
    refine r_nil ?_
    refine x_then ?_
    refine r_seq ?_
    refine r_seq ?_
    refine r_region ?_
    refine r_y S H (y_assign S rfl rfl) rfl rfl rfl fun a S => ?_
    refine r_nil ?_
    refine x_then ?_
    refine r_block ?_
    refine r_loop (ι := Nat) (fun q a w => Slots a 145 [(0, .agg #[.int .i64 n, .slice A es.length c]), (1, .int .u32 ((s0 % m : Nat) : Int)), (2, .pointer (some ⟨b1, 0, none⟩)), (4, .bool false), (5, .bool true), (6, .pointer (some ⟨b8, 0, none⟩)), (7, .int .i64 (Tr.err (Tr.may 1 (s0 % m) ((m : Nat) : Int) gl && decide (0 ≤ ((m + 1 : Nat) : Int))))), (8, .slice (some ⟨b9, 0, none⟩) m m), (9, .int .i64 ((q : Nat) : Int)), (14, .bool true), (15, .agg #[.int .i64 n, .slice A es.length c]), (16, .agg #[.int .i64 ((m : Nat) : Int), .slice A2 gl.length c3]), (17, .pointer (some ⟨b1, 0, none⟩)), (18, .int .i64 ((m : Nat) : Int)), (19, .bool (decide (((m : Nat) : Int) = 0))), (21, .int .u32 ((s0 : Nat) : Int)), (22, .pointer (some ⟨b1, 0, none⟩)), (23, .int .i64 ((m : Nat) : Int)), (24, .int .u32 ((m : Nat) : Int)), (25, .int .u32 ((s0 % m : Nat) : Int)), (26, .tuple #[.agg #[.slice A4 ((C).1.length) c5, .slice A6 ((C).2.length) c7], .int .i64 (Tr.err (Tr.may 1 (s0 % m) ((m : Nat) : Int) gl && decide (0 ≤ ((m + 1 : Nat) : Int))))]), (27, .int .u32 ((s0 % m : Nat) : Int)), (28, .agg #[.int .i64 1, .int .u32 ((s0 % m : Nat) : Int)]), (29, .agg #[.int .i64 ((m : Nat) : Int), .slice A2 gl.length c3]), (30, .pointer (some ⟨b1, 0, none⟩)), (31, .int .i64 ((m : Nat) : Int)), (32, .int .i64 ((m + 1 : Nat) : Int)), (33, .tuple #[.agg #[.slice A4 ((C).1.length) c5, .slice A6 ((C).2.length) c7], .int .i64 (Tr.err (Tr.may 1 (s0 % m) ((m : Nat) : Int) gl && decide (0 ≤ ((m + 1 : Nat) : Int))))]), (34, .agg #[.slice A4 ((C).1.length) c5, .slice A6 ((C).2.length) c7]), (35, .int .i64 (Tr.err (Tr.may 1 (s0 % m) ((m : Nat) : Int) gl && decide (0 ≤ ((m + 1 : Nat) : Int))))), (50, .bool false), (51, .pointer (some ⟨b1, 0, none⟩)), (52, .int .i64 ((m : Nat) : Int)), (53, .slice (some ⟨b9, 0, none⟩) m m)] ∧ Sat w (row 3 1 (.slice (some ⟨b9, 0, none⟩) m m) m (ints (fill (fun _ => (-1 : Int)) (List.replicate m 0) q)) :: blk b8 (.cells #[.slice A4 ((C).1.length) c5, .slice A6 ((C).2.length) c7] 40) :: row 25 1 (.slice A4 ((C).1.length) c5) ((C).1.length) (u64s (C).1) :: row 4 1 (.slice A6 ((C).2.length) c7) ((C).2.length) (bools (C).2) :: row 47 3 (.slice A2 gl.length c3) gl.length (ecells gl) :: blk b1 (.cells #[.int .i64 ((m : Nat) : Int), .slice A2 gl.length c3] 35) :: fr) ∧ (q ≤ m)) (fun q => m - q) 0 ⟨S.sub ⟨rfl, rfl, rfl, rfl, rfl, rfl, rfl, rfl, rfl, rfl, rfl, rfl, rfl, rfl, rfl, rfl, rfl, rfl, rfl, rfl, rfl, rfl, rfl, rfl, rfl, rfl, rfl, rfl, rfl, rfl, rfl, rfl, rfl, rfl, trivial⟩, (by rw [fill_zero]; exact H), Nat.zero_le _⟩ (fun q a w hI => ?_)
    obtain ⟨S, H, hI⟩ := hI
    have hl := fill_len (f := fun _ => (-1 : Int)) (l := List.replicate m 0) (k := q) (by simp; omega)
    simp only [List.length_replicate] at hl
    refine r_seq ?_
    refine r_seq ?_
    refine r_region ?_
    refine r_y S H (y_move S rfl rfl) rfl rfl rfl fun a S => ?_
    refine r_y S H (y_fieldAddr S rfl rfl fa35_0) rfl rfl rfl fun a S => ?_
    refine r_y S H (y_load 5 S rfl rfl Try.isAgg3 rfl rfl) rfl rfl rfl fun a S => ?_
    refine r_y S H (y_lt S rfl rfl rfl) rfl rfl rfl fun a S => ?_
    refine r_nil ?_
    refine x_then ?_
    refine r_test S rfl (fun h57 => ?_) (fun h57 => ?_)
    · skip
      refine wp_skip ?_
      refine x_then ?_
      refine r_seq ?_
      refine r_block ?_
      refine r_region ?_
      refine r_y S H (y_move S rfl rfl) rfl rfl rfl fun a S => ?_
      refine r_y S H (y_move S rfl rfl) rfl rfl rfl fun a S => ?_
      refine r_y S H (y_index S rfl rfl rfl Try.underlying45 Try.sizeOf3 (by omega) (by omega)) rfl rfl rfl fun a S => ?_
      refine r_setRowV (L' := row 3 1 (.slice (some ⟨b9, 0, none⟩) m m) m (ints ((fill (fun _ => (-1 : Int)) (List.replicate m 0) q).set q (-1))) :: blk b8 (.cells #[.slice A4 ((C).1.length) c5, .slice A6 ((C).2.length) c7] 40) :: row 25 1 (.slice A4 ((C).1.length) c5) ((C).1.length) (u64s (C).1) :: row 4 1 (.slice A6 ((C).2.length) c7) ((C).2.length) (bools (C).2) :: row 47 3 (.slice A2 gl.length c3) gl.length (ecells gl) :: blk b1 (.cells #[.int .i64 ((m : Nat) : Int), .slice A2 gl.length c3] 35) :: fr) 0 S H rfl rfl rfl rfl Try.sizeOf3 rfl rfl (by first | omega | (simp <;> omega)) (xs' := ints ((fill (fun _ => (-1 : Int)) (List.replicate m 0) q).set q (-1))) (ints_put (by omega) rfl) rfl rfl rfl fun w H => ?_
      refine r_nil ?_
      refine x_blockEnd ?_
      refine x_then ?_
      refine r_region ?_
      refine r_y S H (y_move S rfl rfl) rfl rfl rfl fun a S => ?_
      refine r_y S H (y_add S rfl rfl rfl (wi64 (by omega) (by omega))) rfl rfl rfl fun a S => ?_
      refine r_y S H (y_assign S rfl rfl) rfl rfl rfl fun a S => ?_
      refine r_nil ?_
      refine x_then ?_
      rw [fill_put (f := fun _ => (-1 : Int)) (l := List.replicate m 0) (k := q) (by simp; omega) rfl] at H
      exact ⟨q + 1, ⟨S.sub ⟨rfl, rfl, rfl, rfl, rfl, rfl, rfl, rfl, rfl, rfl, rfl, rfl, rfl, rfl, rfl, rfl, rfl, rfl, rfl, rfl, rfl, rfl, rfl, rfl, rfl, rfl, rfl, rfl, rfl, rfl, rfl, rfl, rfl, rfl, trivial⟩, H, by omega⟩, by omega⟩
    · skip
      refine wp_exit ?_
      refine x_thenExit ?_
      refine x_thenExit ?_
      refine x_blockHere ?_
      refine x_then ?_
      refine r_seq ?_
      refine r_region ?_
      refine r_y S H (y_move S rfl rfl) rfl rfl rfl fun a S => ?_
      refine r_y S H (y_move S rfl rfl) rfl rfl rfl fun a S => ?_
      refine r_y S H (y_index S rfl rfl rfl Try.underlying45 Try.sizeOf3 (by omega) (by omega)) rfl rfl rfl fun a S => ?_
      refine r_setRowV (L' := row 3 1 (.slice (some ⟨b9, 0, none⟩) m m) m (ints ((fill (fun _ => (-1 : Int)) (List.replicate m 0) q).set (s0 % m) 0)) :: blk b8 (.cells #[.slice A4 ((C).1.length) c5, .slice A6 ((C).2.length) c7] 40) :: row 25 1 (.slice A4 ((C).1.length) c5) ((C).1.length) (u64s (C).1) :: row 4 1 (.slice A6 ((C).2.length) c7) ((C).2.length) (bools (C).2) :: row 47 3 (.slice A2 gl.length c3) gl.length (ecells gl) :: blk b1 (.cells #[.int .i64 ((m : Nat) : Int), .slice A2 gl.length c3] 35) :: fr) 0 S H rfl rfl rfl rfl Try.sizeOf3 rfl rfl (by first | omega | (simp <;> omega)) (xs' := ints ((fill (fun _ => (-1 : Int)) (List.replicate m 0) q).set (s0 % m) 0)) (ints_put (by omega) rfl) rfl rfl rfl fun w H => ?_
      refine r_nil ?_
      refine x_then ?_
      refine r_seq ?_
      refine r_seq ?_
      refine r_region ?_
      refine r_y S H (y_assign S rfl rfl) rfl rfl rfl fun a S => ?_
      refine r_nil ?_
      refine x_then ?_
      refine r_block ?_
      have hqm : q = m := by omega
      rw [hqm, Tr.far_zero gl] at H
      refine r_loop (ι := Nat) (fun r a w => Slots a 145 [(0, .agg #[.int .i64 n, .slice A es.length c]), (1, .int .u32 ((s0 % m : Nat) : Int)), (2, .pointer (some ⟨b1, 0, none⟩)), (4, .bool false), (5, .bool true), (6, .pointer (some ⟨b8, 0, none⟩)), (7, .int .i64 (Tr.err (Tr.may 1 (s0 % m) ((m : Nat) : Int) gl && decide (0 ≤ ((m + 1 : Nat) : Int))))), (8, .slice (some ⟨b9, 0, none⟩) m m), (9, .int .i64 ((q : Nat) : Int)), (10, .int .i64 ((r : Nat) : Int)), (14, .bool true), (15, .agg #[.int .i64 n, .slice A es.length c]), (16, .agg #[.int .i64 ((m : Nat) : Int), .slice A2 gl.length c3]), (17, .pointer (some ⟨b1, 0, none⟩)), (18, .int .i64 ((m : Nat) : Int)), (19, .bool (decide (((m : Nat) : Int) = 0))), (21, .int .u32 ((s0 : Nat) : Int)), (22, .pointer (some ⟨b1, 0, none⟩)), (23, .int .i64 ((m : Nat) : Int)), (24, .int .u32 ((m : Nat) : Int)), (25, .int .u32 ((s0 % m : Nat) : Int)), (26, .tuple #[.agg #[.slice A4 ((C).1.length) c5, .slice A6 ((C).2.length) c7], .int .i64 (Tr.err (Tr.may 1 (s0 % m) ((m : Nat) : Int) gl && decide (0 ≤ ((m + 1 : Nat) : Int))))]), (27, .int .u32 ((s0 % m : Nat) : Int)), (28, .agg #[.int .i64 1, .int .u32 ((s0 % m : Nat) : Int)]), (29, .agg #[.int .i64 ((m : Nat) : Int), .slice A2 gl.length c3]), (30, .pointer (some ⟨b1, 0, none⟩)), (31, .int .i64 ((m : Nat) : Int)), (32, .int .i64 ((m + 1 : Nat) : Int)), (33, .tuple #[.agg #[.slice A4 ((C).1.length) c5, .slice A6 ((C).2.length) c7], .int .i64 (Tr.err (Tr.may 1 (s0 % m) ((m : Nat) : Int) gl && decide (0 ≤ ((m + 1 : Nat) : Int))))]), (34, .agg #[.slice A4 ((C).1.length) c5, .slice A6 ((C).2.length) c7]), (35, .int .i64 (Tr.err (Tr.may 1 (s0 % m) ((m : Nat) : Int) gl && decide (0 ≤ ((m + 1 : Nat) : Int))))), (50, .bool false), (51, .pointer (some ⟨b1, 0, none⟩)), (52, .int .i64 ((m : Nat) : Int)), (53, .slice (some ⟨b9, 0, none⟩) m m), (54, .int .i64 ((q : Nat) : Int)), (55, .pointer (some ⟨b1, 0, none⟩)), (56, .int .i64 ((m : Nat) : Int)), (57, .bool (decide (((q : Nat) : Int) < ((m : Nat) : Int)))), (63, .slice (some ⟨b9, 0, none⟩) m m), (64, .int .u32 ((s0 % m : Nat) : Int)), (65, .pointer (some ⟨b9, 0 + (s0 % m) * 1, none⟩))] ∧ Sat w (row 3 1 (.slice (some ⟨b9, 0, none⟩) m m) m (ints (Tr.far gl (s0 % m) m r)) :: blk b8 (.cells #[.slice A4 ((C).1.length) c5, .slice A6 ((C).2.length) c7] 40) :: row 25 1 (.slice A4 ((C).1.length) c5) ((C).1.length) (u64s (C).1) :: row 4 1 (.slice A6 ((C).2.length) c7) ((C).2.length) (bools (C).2) :: row 47 3 (.slice A2 gl.length c3) gl.length (ecells gl) :: blk b1 (.cells #[.int .i64 ((m : Nat) : Int), .slice A2 gl.length c3] 35) :: fr) ∧ (r ≤ m)) (fun r => m - r) 0 ⟨S.sub ⟨rfl, rfl, rfl, rfl, rfl, rfl, rfl, rfl, rfl, rfl, rfl, rfl, rfl, rfl, rfl, rfl, rfl, rfl, rfl, rfl, rfl, rfl, rfl, rfl, rfl, rfl, rfl, rfl, rfl, rfl, rfl, rfl, rfl, rfl, rfl, rfl, rfl, rfl, rfl, rfl, rfl, rfl, trivial⟩, H, Nat.zero_le _⟩ (fun r a w hI => ?_)
      obtain ⟨S, H, hI⟩ := hI
      have hl2 := Tr.len_far gl (s0 % m) m r
      refine r_seq ?_
      refine r_seq ?_
      refine r_region ?_
      refine r_y S H (y_move S rfl rfl) rfl rfl rfl fun a S => ?_
      refine r_y S H (y_fieldAddr S rfl rfl fa35_0) rfl rfl rfl fun a S => ?_
      refine r_y S H (y_load 5 S rfl rfl Try.isAgg3 rfl rfl) rfl rfl rfl fun a S => ?_
      refine r_y S H (y_lt S rfl rfl rfl) rfl rfl rfl fun a S => ?_
      refine r_nil ?_
      refine x_then ?_
      refine r_test S rfl (fun h69 => ?_) (fun h69 => ?_)
      · skip
        refine wp_skip ?_
        refine x_then ?_
        refine r_seq ?_
        refine r_block ?_
        refine r_seq ?_
        refine r_region ?_
        refine r_y S H (y_assign S rfl rfl) rfl rfl rfl fun a S => ?_
        refine r_nil ?_
        refine x_then ?_
        refine r_block ?_
        refine r_loop (ι := Nat) (fun i a w => Slots a 145 [(0, .agg #[.int .i64 n, .slice A es.length c]), (1, .int .u32 ((s0 % m : Nat) : Int)), (2, .pointer (some ⟨b1, 0, none⟩)), (4, .bool false), (5, .bool true), (6, .pointer (some ⟨b8, 0, none⟩)), (7, .int .i64 (Tr.err (Tr.may 1 (s0 % m) ((m : Nat) : Int) gl && decide (0 ≤ ((m + 1 : Nat) : Int))))), (8, .slice (some ⟨b9, 0, none⟩) m m), (9, .int .i64 ((q : Nat) : Int)), (10, .int .i64 ((r : Nat) : Int)), (11, .int .i64 ((i : Nat) : Int)), (14, .bool true), (15, .agg #[.int .i64 n, .slice A es.length c]), (16, .agg #[.int .i64 ((m : Nat) : Int), .slice A2 gl.length c3]), (17, .pointer (some ⟨b1, 0, none⟩)), (18, .int .i64 ((m : Nat) : Int)), (19, .bool (decide (((m : Nat) : Int) = 0))), (21, .int .u32 ((s0 : Nat) : Int)), (22, .pointer (some ⟨b1, 0, none⟩)), (23, .int .i64 ((m : Nat) : Int)), (24, .int .u32 ((m : Nat) : Int)), (25, .int .u32 ((s0 % m : Nat) : Int)), (26, .tuple #[.agg #[.slice A4 ((C).1.length) c5, .slice A6 ((C).2.length) c7], .int .i64 (Tr.err (Tr.may 1 (s0 % m) ((m : Nat) : Int) gl && decide (0 ≤ ((m + 1 : Nat) : Int))))]), (27, .int .u32 ((s0 % m : Nat) : Int)), (28, .agg #[.int .i64 1, .int .u32 ((s0 % m : Nat) : Int)]), (29, .agg #[.int .i64 ((m : Nat) : Int), .slice A2 gl.length c3]), (30, .pointer (some ⟨b1, 0, none⟩)), (31, .int .i64 ((m : Nat) : Int)), (32, .int .i64 ((m + 1 : Nat) : Int)), (33, .tuple #[.agg #[.slice A4 ((C).1.length) c5, .slice A6 ((C).2.length) c7], .int .i64 (Tr.err (Tr.may 1 (s0 % m) ((m : Nat) : Int) gl && decide (0 ≤ ((m + 1 : Nat) : Int))))]), (34, .agg #[.slice A4 ((C).1.length) c5, .slice A6 ((C).2.length) c7]), (35, .int .i64 (Tr.err (Tr.may 1 (s0 % m) ((m : Nat) : Int) gl && decide (0 ≤ ((m + 1 : Nat) : Int))))), (50, .bool false), (51, .pointer (some ⟨b1, 0, none⟩)), (52, .int .i64 ((m : Nat) : Int)), (53, .slice (some ⟨b9, 0, none⟩) m m), (54, .int .i64 ((q : Nat) : Int)), (55, .pointer (some ⟨b1, 0, none⟩)), (56, .int .i64 ((m : Nat) : Int)), (57, .bool (decide (((q : Nat) : Int) < ((m : Nat) : Int)))), (63, .slice (some ⟨b9, 0, none⟩) m m), (64, .int .u32 ((s0 % m : Nat) : Int)), (65, .pointer (some ⟨b9, 0 + (s0 % m) * 1, none⟩)), (66, .int .i64 ((r : Nat) : Int)), (67, .pointer (some ⟨b1, 0, none⟩)), (68, .int .i64 ((m : Nat) : Int)), (69, .bool (decide (((r : Nat) : Int) < ((m : Nat) : Int))))] ∧ Sat w (row 3 1 (.slice (some ⟨b9, 0, none⟩) m m) m (ints (Tr.farRound r (gl.take i) (Tr.far gl (s0 % m) m r))) :: blk b8 (.cells #[.slice A4 ((C).1.length) c5, .slice A6 ((C).2.length) c7] 40) :: row 25 1 (.slice A4 ((C).1.length) c5) ((C).1.length) (u64s (C).1) :: row 4 1 (.slice A6 ((C).2.length) c7) ((C).2.length) (bools (C).2) :: row 47 3 (.slice A2 gl.length c3) gl.length (ecells gl) :: blk b1 (.cells #[.int .i64 ((m : Nat) : Int), .slice A2 gl.length c3] 35) :: fr) ∧ (i ≤ gl.length)) (fun i => gl.length - i) 0 ⟨S.sub ⟨rfl, rfl, rfl, rfl, rfl, rfl, rfl, rfl, rfl, rfl, rfl, rfl, rfl, rfl, rfl, rfl, rfl, rfl, rfl, rfl, rfl, rfl, rfl, rfl, rfl, rfl, rfl, rfl, rfl, rfl, rfl, rfl, rfl, rfl, rfl, rfl, rfl, rfl, rfl, rfl, rfl, rfl, rfl, rfl, rfl, rfl, rfl, trivial⟩, H, Nat.zero_le _⟩ (fun i a w hI => ?_)
        obtain ⟨S, H, hI⟩ := hI
        have hl3 : (Tr.farRound r (gl.take i) (Tr.far gl (s0 % m) m r)).length = m := by rw [Tr.len_farRound, Tr.len_far]
        refine r_seq ?_
        refine r_seq ?_
        refine r_region ?_
        refine r_y S H (y_move S rfl rfl) rfl rfl rfl fun a S => ?_
        refine r_y S H (y_fieldAddr S rfl rfl fa35_1) rfl rfl rfl fun a S => ?_
        refine r_y S H (y_load 5 S rfl rfl Try.isAgg33 rfl rfl) rfl rfl rfl fun a S => ?_
        refine r_y S H (y_len S rfl rfl Try.underlying33) rfl rfl rfl fun a S => ?_
        refine r_y S H (y_lt S rfl rfl rfl) rfl rfl rfl fun a S => ?_
        refine r_nil ?_
        refine x_then ?_
        refine r_test S rfl (fun h76 => ?_) (fun h76 => ?_)
        · skip
          have hb := hge _ (getD_mem (by omega : i < gl.length))
          refine wp_skip ?_
          refine x_then ?_
          refine r_seq ?_
          refine r_block ?_
          refine r_seq ?_
          refine r_region ?_
          refine r_y S H (y_fieldAddr S rfl rfl fa35_1) rfl rfl rfl fun a S => ?_
          refine r_y S H (y_load 5 S rfl rfl Try.isAgg33 rfl rfl) rfl rfl rfl fun a S => ?_
          refine r_y S H (y_move S rfl rfl) rfl rfl rfl fun a S => ?_
          obtain ⟨b10, rfl⟩ := H.rowAt (i := 4) rfl (by first | omega | (simp <;> omega))
          refine r_y S H (y_index S rfl rfl rfl Try.underlying33 Try.sizeOf47 (by omega) (by omega)) rfl rfl rfl fun a S => ?_
          refine r_y S H (y_loadAggAt [.int .u32 (((gl.getD i e0).f : Nat) : Int), .int .u32 (((gl.getD i e0).t : Nat) : Int), .int .u32 (((gl.getD i e0).w : Nat) : Int)] S rfl rfl (fun w => ⟨Try.isAgg47 w, Try.sizeOf47 w⟩) rfl (fun w H => (SlOk.ofRow (i := 4) H rfl).cells w H (ecells_from (i := i) (by first | omega | (simp <;> omega))))) rfl rfl rfl fun a S => ?_
          refine r_alloc S H rfl Try.zeroValue47 rfl rfl rfl rfl fun a w b12 S H => ?_
          refine r_store (vs := [.int .u32 (((gl.getD i e0).f : Nat) : Int), .int .u32 (((gl.getD i e0).t : Nat) : Int), .int .u32 (((gl.getD i e0).w : Nat) : Int)]) 0 S H rfl rfl rfl rfl Try.sizeOf47 rfl rfl (by simp [Value.oneCell']) rfl rfl rfl rfl rfl fun w H => ?_
          refine r_nil ?_
          refine x_then ?_
          refine r_seq ?_
          refine wp_via (J := fun a w => Slots a 145 [(0, .agg #[.int .i64 n, .slice A es.length c]), (1, .int .u32 ((s0 % m : Nat) : Int)), (2, .pointer (some ⟨b1, 0, none⟩)), (4, .bool false), (5, .bool true), (6, .pointer (some ⟨b8, 0, none⟩)), (7, .int .i64 (Tr.err (Tr.may 1 (s0 % m) ((m : Nat) : Int) gl && decide (0 ≤ ((m + 1 : Nat) : Int))))), (8, .slice (some ⟨b9, 0, none⟩) m m), (9, .int .i64 ((q : Nat) : Int)), (10, .int .i64 ((r : Nat) : Int)), (11, .int .i64 ((i : Nat) : Int)), (12, .pointer (some ⟨b12, 0, none⟩)), (14, .bool true), (15, .agg #[.int .i64 n, .slice A es.length c]), (16, .agg #[.int .i64 ((m : Nat) : Int), .slice (some ⟨b10, 0, none⟩) gl.length c3]), (17, .pointer (some ⟨b1, 0, none⟩)), (18, .int .i64 ((m : Nat) : Int)), (19, .bool (decide (((m : Nat) : Int) = 0))), (21, .int .u32 ((s0 : Nat) : Int)), (22, .pointer (some ⟨b1, 0, none⟩)), (23, .int .i64 ((m : Nat) : Int)), (24, .int .u32 ((m : Nat) : Int)), (25, .int .u32 ((s0 % m : Nat) : Int)), (26, .tuple #[.agg #[.slice A4 ((C).1.length) c5, .slice A6 ((C).2.length) c7], .int .i64 (Tr.err (Tr.may 1 (s0 % m) ((m : Nat) : Int) gl && decide (0 ≤ ((m + 1 : Nat) : Int))))]), (27, .int .u32 ((s0 % m : Nat) : Int)), (28, .agg #[.int .i64 1, .int .u32 ((s0 % m : Nat) : Int)]), (29, .agg #[.int .i64 ((m : Nat) : Int), .slice (some ⟨b10, 0, none⟩) gl.length c3]), (30, .pointer (some ⟨b1, 0, none⟩)), (31, .int .i64 ((m : Nat) : Int)), (32, .int .i64 ((m + 1 : Nat) : Int)), (33, .tuple #[.agg #[.slice A4 ((C).1.length) c5, .slice A6 ((C).2.length) c7], .int .i64 (Tr.err (Tr.may 1 (s0 % m) ((m : Nat) : Int) gl && decide (0 ≤ ((m + 1 : Nat) : Int))))]), (34, .agg #[.slice A4 ((C).1.length) c5, .slice A6 ((C).2.length) c7]), (35, .int .i64 (Tr.err (Tr.may 1 (s0 % m) ((m : Nat) : Int) gl && decide (0 ≤ ((m + 1 : Nat) : Int))))), (50, .bool false), (51, .pointer (some ⟨b1, 0, none⟩)), (52, .int .i64 ((m : Nat) : Int)), (53, .slice (some ⟨b9, 0, none⟩) m m), (54, .int .i64 ((q : Nat) : Int)), (55, .pointer (some ⟨b1, 0, none⟩)), (56, .int .i64 ((m : Nat) : Int)), (57, .bool (decide (((q : Nat) : Int) < ((m : Nat) : Int)))), (63, .slice (some ⟨b9, 0, none⟩) m m), (64, .int .u32 ((s0 % m : Nat) : Int)), (65, .pointer (some ⟨b9, 0 + (s0 % m) * 1, none⟩)), (66, .int .i64 ((r : Nat) : Int)), (67, .pointer (some ⟨b1, 0, none⟩)), (68, .int .i64 ((m : Nat) : Int)), (69, .bool (decide (((r : Nat) : Int) < ((m : Nat) : Int)))), (72, .int .i64 ((i : Nat) : Int)), (73, .pointer (some ⟨b1, 1, none⟩)), (74, .slice (some ⟨b10, 0, none⟩) gl.length c3), (75, .int .i64 ((gl.length : Nat) : Int)), (76, .bool (decide (((i : Nat) : Int) < ((gl.length : Nat) : Int)))), (79, .pointer (some ⟨b1, 1, none⟩)), (80, .slice (some ⟨b10, 0, none⟩) gl.length c3), (81, .int .i64 ((i : Nat) : Int)), (82, .pointer (some ⟨b10, 0 + i * 3, none⟩)), (83, .agg #[.int .u32 (((gl.getD i e0).f : Nat) : Int), .int .u32 (((gl.getD i e0).t : Nat) : Int), .int .u32 (((gl.getD i e0).w : Nat) : Int)]), (98, .bool ((decide ((Tr.farRound r (gl.take i) (Tr.far gl (s0 % m) m r)).getD ((gl.getD i e0).f) 0 = ((r : Nat) : Int))) && (decide ((Tr.farRound r (gl.take i) (Tr.far gl (s0 % m) m r)).getD ((gl.getD i e0).t) 0 < 0))))] ∧ Sat w (blk b12 (.cells #[.int .u32 (((gl.getD i e0).f : Nat) : Int), .int .u32 (((gl.getD i e0).t : Nat) : Int), .int .u32 (((gl.getD i e0).w : Nat) : Int)] 47) :: row 3 1 (.slice (some ⟨b9, 0, none⟩) m m) m (ints (Tr.farRound r (gl.take i) (Tr.far gl (s0 % m) m r))) :: blk b8 (.cells #[.slice A4 ((C).1.length) c5, .slice A6 ((C).2.length) c7] 40) :: row 25 1 (.slice A4 ((C).1.length) c5) ((C).1.length) (u64s (C).1) :: row 4 1 (.slice A6 ((C).2.length) c7) ((C).2.length) (bools (C).2) :: row 47 3 (.slice (some ⟨b10, 0, none⟩) gl.length c3) gl.length (ecells gl) :: blk b1 (.cells #[.int .i64 ((m : Nat) : Int), .slice (some ⟨b10, 0, none⟩) gl.length c3] 35) :: fr)) ?_ (fun a w hm => ?_)
          · skip
            refine r_region ?_
            refine r_y S H (y_move S rfl rfl) rfl rfl rfl fun a S => ?_
            refine r_y S H (y_fieldAddr S rfl rfl fa47_0) rfl rfl rfl fun a S => ?_
            refine r_y S H (y_load 0 S rfl rfl Try.isAgg22 rfl rfl) rfl rfl rfl fun a S => ?_
            refine r_y S H (y_index S rfl rfl rfl Try.underlying45 Try.sizeOf3 (by omega) (by omega)) rfl rfl rfl fun a S => ?_
            refine r_y S H (y_loadAt S rfl rfl Try.isAgg3 (fun w H => (SlOk.ofRow (i := 1) H rfl).cell w H (ints_at (i := ((gl.getD i e0).f)) (by first | omega | (simp <;> omega))))) rfl rfl rfl fun a S => ?_
            refine r_y S H (y_move S rfl rfl) rfl rfl rfl fun a S => ?_
            refine r_y S H (y_eq S rfl rfl rfl) rfl rfl rfl fun a S => ?_
            refine r_y S H (y_move S rfl rfl) rfl rfl rfl fun a S => ?_
            refine splitP S (d := 91) rfl (fun g91 S => ?_) (fun g91 S => ?_)
            · skip
              refine r_y S H (y_move S rfl rfl) rfl rfl rfl fun a S => ?_
              refine r_y S H (y_fieldAddr S rfl rfl fa47_1) rfl rfl rfl fun a S => ?_
              refine r_y S H (y_load 0 S rfl rfl Try.isAgg22 rfl rfl) rfl rfl rfl fun a S => ?_
              refine r_y S H (y_index S rfl rfl rfl Try.underlying45 Try.sizeOf3 (by omega) (by omega)) rfl rfl rfl fun a S => ?_
              refine r_y S H (y_loadAt S rfl rfl Try.isAgg3 (fun w H => (SlOk.ofRow (i := 1) H rfl).cell w H (ints_at (i := ((gl.getD i e0).t)) (by first | omega | (simp <;> omega))))) rfl rfl rfl fun a S => ?_
              refine r_y S H (y_lt S rfl rfl rfl) rfl rfl rfl fun a S => ?_
              refine r_y S H (y_pickT S rfl rfl rfl) rfl rfl rfl fun a S => ?_
              refine r_nil ?_
              refine x_then ?_
              exact ⟨S.sub ⟨rfl, rfl, rfl, rfl, rfl, rfl, rfl, rfl, rfl, rfl, rfl, rfl, rfl, rfl, rfl, rfl, rfl, rfl, rfl, rfl, rfl, rfl, rfl, rfl, rfl, rfl, rfl, rfl, rfl, rfl, rfl, rfl, rfl, rfl, rfl, rfl, rfl, rfl, rfl, rfl, rfl, rfl, rfl, rfl, rfl, rfl, rfl, rfl, rfl, rfl, rfl, rfl, rfl, rfl, rfl, rfl, rfl, rfl, (show lk _ _ = some (.bool (decide ((Tr.farRound r (gl.take i) (Tr.far gl (s0 % m) m r)).getD ((gl.getD i e0).t) 0 < 0))) from rfl).trans (by first | (simp only [g91, decide_true, decide_false, Bool.true_and, Bool.false_and, Bool.true_or, Bool.false_or]; done) | (simp [-List.getD_eq_getElem?_getD, g91]; done) | (simp [-List.getD_eq_getElem?_getD, g91]; omega)), trivial⟩, H⟩
            · skip
              refine r_skip S rfl rfl rfl fun a S => ?_
              refine r_skip S rfl rfl rfl fun a S => ?_
              refine r_skip S rfl rfl rfl fun a S => ?_
              refine r_skip S rfl rfl rfl fun a S => ?_
              refine r_skip S rfl rfl rfl fun a S => ?_
              refine r_skip S rfl rfl rfl fun a S => ?_
              refine r_y S H (y_pickF S rfl rfl rfl) rfl rfl rfl fun a S => ?_
              refine r_nil ?_
              refine x_then ?_
              exact ⟨S.sub ⟨rfl, rfl, rfl, rfl, rfl, rfl, rfl, rfl, rfl, rfl, rfl, rfl, rfl, rfl, rfl, rfl, rfl, rfl, rfl, rfl, rfl, rfl, rfl, rfl, rfl, rfl, rfl, rfl, rfl, rfl, rfl, rfl, rfl, rfl, rfl, rfl, rfl, rfl, rfl, rfl, rfl, rfl, rfl, rfl, rfl, rfl, rfl, rfl, rfl, rfl, rfl, rfl, rfl, rfl, rfl, rfl, rfl, rfl, (show lk _ _ = some (.bool false) from rfl).trans (by first | (simp only [g91, decide_true, decide_false, Bool.true_and, Bool.false_and, Bool.true_or, Bool.false_or]; done) | (simp [-List.getD_eq_getElem?_getD, g91]; done) | (simp [-List.getD_eq_getElem?_getD, g91]; omega)), trivial⟩, H⟩
          obtain ⟨S, H⟩ := hm
          refine x_then ?_
          refine r_cond S rfl (fun h98 => ?_) (fun h98 => ?_)
          · skip
            refine r_region ?_
            refine r_y S H (y_move S rfl rfl) rfl rfl rfl fun a S => ?_
            refine r_y S H (y_fieldAddr S rfl rfl fa47_1) rfl rfl rfl fun a S => ?_
            refine r_y S H (y_load 0 S rfl rfl Try.isAgg22 rfl rfl) rfl rfl rfl fun a S => ?_
            refine r_y S H (y_move S rfl rfl) rfl rfl rfl fun a S => ?_
            refine r_y S H (y_add S rfl rfl rfl (wi64 (by omega) (by omega))) rfl rfl rfl fun a S => ?_
            refine r_y S H (y_index S rfl rfl rfl Try.underlying45 Try.sizeOf3 (by omega) (by omega)) rfl rfl rfl fun a S => ?_
            refine r_setRowV (L' := blk b12 (.cells #[.int .u32 (((gl.getD i e0).f : Nat) : Int), .int .u32 (((gl.getD i e0).t : Nat) : Int), .int .u32 (((gl.getD i e0).w : Nat) : Int)] 47) :: row 3 1 (.slice (some ⟨b9, 0, none⟩) m m) m (ints ((Tr.farRound r (gl.take i) (Tr.far gl (s0 % m) m r)).set ((gl.getD i e0).t) (((r : Nat) : Int) + 1))) :: blk b8 (.cells #[.slice A4 ((C).1.length) c5, .slice A6 ((C).2.length) c7] 40) :: row 25 1 (.slice A4 ((C).1.length) c5) ((C).1.length) (u64s (C).1) :: row 4 1 (.slice A6 ((C).2.length) c7) ((C).2.length) (bools (C).2) :: row 47 3 (.slice (some ⟨b10, 0, none⟩) gl.length c3) gl.length (ecells gl) :: blk b1 (.cells #[.int .i64 ((m : Nat) : Int), .slice (some ⟨b10, 0, none⟩) gl.length c3] 35) :: fr) 1 S H rfl rfl rfl rfl Try.sizeOf3 rfl rfl (by first | omega | (simp <;> omega)) (xs' := ints ((Tr.farRound r (gl.take i) (Tr.far gl (s0 % m) m r)).set ((gl.getD i e0).t) (((r : Nat) : Int) + 1))) (ints_put (by omega) rfl) rfl rfl rfl fun w H => ?_
            refine r_nil ?_
            refine x_blockEnd ?_
            refine x_then ?_
            refine r_region ?_
            refine r_y S H (y_move S rfl rfl) rfl rfl rfl fun a S => ?_
            refine r_y S H (y_add S rfl rfl rfl (wi64 (by omega) (by omega))) rfl rfl rfl fun a S => ?_
            refine r_y S H (y_assign S rfl rfl) rfl rfl rfl fun a S => ?_
            refine r_nil ?_
            refine x_then ?_
            rw [Tr.farRound_yes (by omega) (by rw [Tr.len_far]; omega) (by rw [Tr.len_far]; omega) (by simp [-List.getD_eq_getElem?_getD] at h98; exact h98.1) (by simp [-List.getD_eq_getElem?_getD] at h98; exact h98.2)] at H
            exact ⟨i + 1, ⟨S.sub ⟨rfl, rfl, rfl, rfl, rfl, rfl, rfl, rfl, rfl, rfl, rfl, rfl, rfl, rfl, rfl, rfl, rfl, rfl, rfl, rfl, rfl, rfl, rfl, rfl, rfl, rfl, rfl, rfl, rfl, rfl, rfl, rfl, rfl, rfl, rfl, rfl, rfl, rfl, rfl, rfl, rfl, rfl, rfl, rfl, rfl, rfl, rfl, trivial⟩, (H.pick [1, 2, 3, 4, 5, 6] 7 rfl), by omega⟩, by omega⟩
          · skip
            refine wp_skip ?_
            refine x_blockEnd ?_
            refine x_then ?_
            refine r_region ?_
            refine r_y S H (y_move S rfl rfl) rfl rfl rfl fun a S => ?_
            refine r_y S H (y_add S rfl rfl rfl (wi64 (by omega) (by omega))) rfl rfl rfl fun a S => ?_
            refine r_y S H (y_assign S rfl rfl) rfl rfl rfl fun a S => ?_
            refine r_nil ?_
            refine x_then ?_
            rw [Tr.farRound_no (by omega) (by rw [Tr.len_far]; omega) (by rw [Tr.len_far]; omega) (by simp [-List.getD_eq_getElem?_getD] at h98; omega)] at H
            exact ⟨i + 1, ⟨S.sub ⟨rfl, rfl, rfl, rfl, rfl, rfl, rfl, rfl, rfl, rfl, rfl, rfl, rfl, rfl, rfl, rfl, rfl, rfl, rfl, rfl, rfl, rfl, rfl, rfl, rfl, rfl, rfl, rfl, rfl, rfl, rfl, rfl, rfl, rfl, rfl, rfl, rfl, rfl, rfl, rfl, rfl, rfl, rfl, rfl, rfl, rfl, rfl, trivial⟩, H.drop, by omega⟩, by omega⟩
        · skip
          refine wp_exit ?_
          refine x_thenExit ?_
          refine x_thenExit ?_
          refine x_blockHere ?_
          refine x_blockEnd ?_
          refine x_then ?_
          refine r_region ?_
          refine r_y S H (y_move S rfl rfl) rfl rfl rfl fun a S => ?_
          refine r_y S H (y_add S rfl rfl rfl (wi64 (by omega) (by omega))) rfl rfl rfl fun a S => ?_
          refine r_y S H (y_assign S rfl rfl) rfl rfl rfl fun a S => ?_
          refine r_nil ?_
          refine x_then ?_
          rw [List.take_of_length_le (by omega)] at H
          exact ⟨r + 1, ⟨S.sub ⟨rfl, rfl, rfl, rfl, rfl, rfl, rfl, rfl, rfl, rfl, rfl, rfl, rfl, rfl, rfl, rfl, rfl, rfl, rfl, rfl, rfl, rfl, rfl, rfl, rfl, rfl, rfl, rfl, rfl, rfl, rfl, rfl, rfl, rfl, rfl, rfl, rfl, rfl, rfl, rfl, rfl, rfl, trivial⟩, H, by omega⟩, by omega⟩
      · skip
        refine wp_exit ?_
        refine x_thenExit ?_
        refine x_thenExit ?_
        refine x_blockHere ?_
        refine x_then ?_
        refine r_seq ?_
        refine r_seq ?_
        refine r_region ?_
        refine r_y S H (y_assign S rfl rfl) rfl rfl rfl fun a S => ?_
        refine r_nil ?_
        refine x_then ?_
        refine r_block ?_
        have hrm : r = m := by omega
        rw [hrm] at H
        refine r_loop (ι := Nat) (fun x a w => Slots a 145 [(0, .agg #[.int .i64 n, .slice A es.length c]), (1, .int .u32 ((s0 % m : Nat) : Int)), (2, .pointer (some ⟨b1, 0, none⟩)), (5, .bool true), (6, .pointer (some ⟨b8, 0, none⟩)), (7, .int .i64 (Tr.err (Tr.may 1 (s0 % m) ((m : Nat) : Int) gl && decide (0 ≤ ((m + 1 : Nat) : Int))))), (8, .slice (some ⟨b9, 0, none⟩) m m), (9, .int .i64 ((q : Nat) : Int)), (10, .int .i64 ((r : Nat) : Int)), (13, .int .i64 ((x : Nat) : Int)), (14, .bool true), (15, .agg #[.int .i64 n, .slice A es.length c]), (16, .agg #[.int .i64 ((m : Nat) : Int), .slice A2 gl.length c3]), (17, .pointer (some ⟨b1, 0, none⟩)), (18, .int .i64 ((m : Nat) : Int)), (19, .bool (decide (((m : Nat) : Int) = 0))), (21, .int .u32 ((s0 : Nat) : Int)), (22, .pointer (some ⟨b1, 0, none⟩)), (23, .int .i64 ((m : Nat) : Int)), (24, .int .u32 ((m : Nat) : Int)), (25, .int .u32 ((s0 % m : Nat) : Int)), (26, .tuple #[.agg #[.slice A4 ((C).1.length) c5, .slice A6 ((C).2.length) c7], .int .i64 (Tr.err (Tr.may 1 (s0 % m) ((m : Nat) : Int) gl && decide (0 ≤ ((m + 1 : Nat) : Int))))]), (27, .int .u32 ((s0 % m : Nat) : Int)), (28, .agg #[.int .i64 1, .int .u32 ((s0 % m : Nat) : Int)]), (29, .agg #[.int .i64 ((m : Nat) : Int), .slice A2 gl.length c3]), (30, .pointer (some ⟨b1, 0, none⟩)), (31, .int .i64 ((m : Nat) : Int)), (32, .int .i64 ((m + 1 : Nat) : Int)), (33, .tuple #[.agg #[.slice A4 ((C).1.length) c5, .slice A6 ((C).2.length) c7], .int .i64 (Tr.err (Tr.may 1 (s0 % m) ((m : Nat) : Int) gl && decide (0 ≤ ((m + 1 : Nat) : Int))))]), (34, .agg #[.slice A4 ((C).1.length) c5, .slice A6 ((C).2.length) c7]), (35, .int .i64 (Tr.err (Tr.may 1 (s0 % m) ((m : Nat) : Int) gl && decide (0 ≤ ((m + 1 : Nat) : Int))))), (50, .bool false), (51, .pointer (some ⟨b1, 0, none⟩)), (52, .int .i64 ((m : Nat) : Int)), (53, .slice (some ⟨b9, 0, none⟩) m m), (54, .int .i64 ((q : Nat) : Int)), (55, .pointer (some ⟨b1, 0, none⟩)), (56, .int .i64 ((m : Nat) : Int)), (57, .bool (decide (((q : Nat) : Int) < ((m : Nat) : Int)))), (63, .slice (some ⟨b9, 0, none⟩) m m), (64, .int .u32 ((s0 % m : Nat) : Int)), (65, .pointer (some ⟨b9, 0 + (s0 % m) * 1, none⟩)), (66, .int .i64 ((r : Nat) : Int)), (67, .pointer (some ⟨b1, 0, none⟩)), (68, .int .i64 ((m : Nat) : Int)), (69, .bool (decide (((r : Nat) : Int) < ((m : Nat) : Int))))] ∧ Sat w (row 3 1 (.slice (some ⟨b9, 0, none⟩) m m) m (ints (Tr.far gl (s0 % m) m m)) :: blk b8 (.cells #[.slice A4 ((C).1.length) c5, .slice A6 ((C).2.length) c7] 40) :: row 25 1 (.slice A4 ((C).1.length) c5) ((C).1.length) (u64s (C).1) :: row 4 1 (.slice A6 ((C).2.length) c7) ((C).2.length) (bools (C).2) :: row 47 3 (.slice A2 gl.length c3) gl.length (ecells gl) :: blk b1 (.cells #[.int .i64 ((m : Nat) : Int), .slice A2 gl.length c3] 35) :: fr) ∧ (x ≤ m)) (fun x => m - x) 0 ⟨S.sub ⟨rfl, rfl, rfl, rfl, rfl, rfl, rfl, rfl, rfl, rfl, rfl, rfl, rfl, rfl, rfl, rfl, rfl, rfl, rfl, rfl, rfl, rfl, rfl, rfl, rfl, rfl, rfl, rfl, rfl, rfl, rfl, rfl, rfl, rfl, rfl, rfl, rfl, rfl, rfl, rfl, rfl, rfl, rfl, rfl, rfl, rfl, trivial⟩, H, Nat.zero_le _⟩ (fun x a w hI => ?_)
        obtain ⟨S, H, hI⟩ := hI
        refine r_seq ?_
        refine r_seq ?_
        refine r_region ?_
        refine r_y S H (y_move S rfl rfl) rfl rfl rfl fun a S => ?_
        refine r_y S H (y_fieldAddr S rfl rfl fa35_0) rfl rfl rfl fun a S => ?_
        refine r_y S H (y_load 5 S rfl rfl Try.isAgg3 rfl rfl) rfl rfl rfl fun a S => ?_
        refine r_y S H (y_lt S rfl rfl rfl) rfl rfl rfl fun a S => ?_
        refine r_nil ?_
        refine x_then ?_
        refine r_test S rfl (fun h108 => ?_) (fun h108 => ?_)
        · skip
          refine wp_skip ?_
          refine x_then ?_
          refine r_seq ?_
          refine r_block ?_
          refine r_seq ?_
          have hf := hfar x (by omega)
          have hlf := Tr.len_far gl (s0 % m) m m
          have htp := Tr.getD_top htop x
          refine r_quiet (n := 145) (E' := [(0, .agg #[.int .i64 n, .slice A es.length c]), (1, .int .u32 ((s0 % m : Nat) : Int)), (2, .pointer (some ⟨b1, 0, none⟩)), (5, .bool true), (6, .pointer (some ⟨b8, 0, none⟩)), (7, .int .i64 (Tr.err (Tr.may 1 (s0 % m) ((m : Nat) : Int) gl && decide (0 ≤ ((m + 1 : Nat) : Int))))), (8, .slice (some ⟨b9, 0, none⟩) m m), (9, .int .i64 ((q : Nat) : Int)), (10, .int .i64 ((r : Nat) : Int)), (13, .int .i64 ((x : Nat) : Int)), (14, .bool true), (15, .agg #[.int .i64 n, .slice A es.length c]), (16, .agg #[.int .i64 ((m : Nat) : Int), .slice A2 gl.length c3]), (17, .pointer (some ⟨b1, 0, none⟩)), (18, .int .i64 ((m : Nat) : Int)), (19, .bool (decide (((m : Nat) : Int) = 0))), (21, .int .u32 ((s0 : Nat) : Int)), (22, .pointer (some ⟨b1, 0, none⟩)), (23, .int .i64 ((m : Nat) : Int)), (24, .int .u32 ((m : Nat) : Int)), (25, .int .u32 ((s0 % m : Nat) : Int)), (26, .tuple #[.agg #[.slice A4 ((C).1.length) c5, .slice A6 ((C).2.length) c7], .int .i64 (Tr.err (Tr.may 1 (s0 % m) ((m : Nat) : Int) gl && decide (0 ≤ ((m + 1 : Nat) : Int))))]), (27, .int .u32 ((s0 % m : Nat) : Int)), (28, .agg #[.int .i64 1, .int .u32 ((s0 % m : Nat) : Int)]), (29, .agg #[.int .i64 ((m : Nat) : Int), .slice A2 gl.length c3]), (30, .pointer (some ⟨b1, 0, none⟩)), (31, .int .i64 ((m : Nat) : Int)), (32, .int .i64 ((m + 1 : Nat) : Int)), (33, .tuple #[.agg #[.slice A4 ((C).1.length) c5, .slice A6 ((C).2.length) c7], .int .i64 (Tr.err (Tr.may 1 (s0 % m) ((m : Nat) : Int) gl && decide (0 ≤ ((m + 1 : Nat) : Int))))]), (34, .agg #[.slice A4 ((C).1.length) c5, .slice A6 ((C).2.length) c7]), (35, .int .i64 (Tr.err (Tr.may 1 (s0 % m) ((m : Nat) : Int) gl && decide (0 ≤ ((m + 1 : Nat) : Int))))), (50, .bool false), (51, .pointer (some ⟨b1, 0, none⟩)), (52, .int .i64 ((m : Nat) : Int)), (53, .slice (some ⟨b9, 0, none⟩) m m), (54, .int .i64 ((q : Nat) : Int)), (55, .pointer (some ⟨b1, 0, none⟩)), (56, .int .i64 ((m : Nat) : Int)), (57, .bool (decide (((q : Nat) : Int) < ((m : Nat) : Int)))), (63, .slice (some ⟨b9, 0, none⟩) m m), (64, .int .u32 ((s0 % m : Nat) : Int)), (65, .pointer (some ⟨b9, 0 + (s0 % m) * 1, none⟩)), (66, .int .i64 ((r : Nat) : Int)), (67, .pointer (some ⟨b1, 0, none⟩)), (68, .int .i64 ((m : Nat) : Int)), (69, .bool (decide (((r : Nat) : Int) < ((m : Nat) : Int)))), (105, .int .i64 ((x : Nat) : Int)), (106, .pointer (some ⟨b1, 0, none⟩)), (107, .int .i64 ((m : Nat) : Int)), (108, .bool (decide (((x : Nat) : Int) < ((m : Nat) : Int)))), (143, .bool (((decide ((Tr.far gl (s0 % m) m m).getD x 0 < 0)) && (decide (((((C).1).getD x 0 : Nat) : Int) ≠ 18446744073709551615))) || ((decide (0 ≤ (Tr.far gl (s0 % m) m m).getD x 0)) && (decide (((((C).1).getD x 0 : Nat) : Int) ≠ (Tr.far gl (s0 % m) m m).getD x 0)))))]) H rfl (by kernel_rfl) ?_ (fun a w S H => ?_)
          · skip
            refine q_y S (y_move S rfl rfl) rfl rfl rfl fun a S => ?_
            refine q_y S (y_move S rfl rfl) rfl rfl rfl fun a S => ?_
            refine q_y S (y_index S rfl rfl rfl Try.underlying45 Try.sizeOf3 (by omega) (by omega)) rfl rfl rfl fun a S => ?_
            refine q_y S (y_loadAt S rfl rfl Try.isAgg3 (fun w H => (SlOk.ofRow (i := 0) H rfl).cell w H (ints_at (i := x) (by first | omega | (simp <;> omega))))) rfl rfl rfl fun a S => ?_
            refine q_y S (y_lt S rfl rfl rfl) rfl rfl rfl fun a S => ?_
            refine q_y S (y_move S rfl rfl) rfl rfl rfl fun a S => ?_
            refine splitP S (d := 116) rfl (fun g116 S => ?_) (fun g116 S => ?_)
            · skip
              refine q_y S (y_fieldAddr S rfl rfl fa40_0) rfl rfl rfl fun a S => ?_
              refine q_y S (y_load 1 S rfl rfl Try.isAgg37 rfl rfl) rfl rfl rfl fun a S => ?_
              refine q_y S (y_move S rfl rfl) rfl rfl rfl fun a S => ?_
              obtain ⟨b15, rfl⟩ := H.rowAt (i := 2) rfl (by first | omega | (simp <;> omega))
              refine q_y S (y_index S rfl rfl rfl Try.underlying37 Try.sizeOf25 (by omega) (by omega)) rfl rfl rfl fun a S => ?_
              refine q_y S (y_loadAt S rfl rfl Try.isAgg25 (fun w H => (SlOk.ofRow (i := 2) H rfl).cell w H (u64s_at (i := x) (by first | omega | (simp <;> omega))))) rfl rfl rfl fun a S => ?_
              refine q_y S (y_ne S rfl rfl rfl) rfl rfl rfl fun a S => ?_
              refine q_y S (y_pickT S rfl rfl rfl) rfl rfl rfl fun a S => ?_
              refine q_y S (y_move S rfl rfl) rfl rfl rfl fun a S => ?_
              refine splitP S (d := 124) rfl (fun g124 S => ?_) (fun g124 S => ?_)
              · skip
                refine q_skip S rfl rfl rfl fun a S => ?_
                refine q_skip S rfl rfl rfl fun a S => ?_
                refine q_skip S rfl rfl rfl fun a S => ?_
                refine q_skip S rfl rfl rfl fun a S => ?_
                refine q_skip S rfl rfl rfl fun a S => ?_
                refine q_skip S rfl rfl rfl fun a S => ?_
                refine q_skip S rfl rfl rfl fun a S => ?_
                refine q_skip S rfl rfl rfl fun a S => ?_
                refine q_skip S rfl rfl rfl fun a S => ?_
                refine q_skip S rfl rfl rfl fun a S => ?_
                refine q_skip S rfl rfl rfl fun a S => ?_
                refine q_skip S rfl rfl rfl fun a S => ?_
                refine q_skip S rfl rfl rfl fun a S => ?_
                refine q_skip S rfl rfl rfl fun a S => ?_
                refine q_skip S rfl rfl rfl fun a S => ?_
                refine q_skip S rfl rfl rfl fun a S => ?_
                refine q_skip S rfl rfl rfl fun a S => ?_
                refine q_skip S rfl rfl rfl fun a S => ?_
                refine q_y S (y_pickT S rfl rfl rfl) rfl rfl rfl fun a S => ?_
                exact q_nil (S.sub ⟨rfl, rfl, rfl, rfl, rfl, rfl, rfl, rfl, rfl, rfl, rfl, rfl, rfl, rfl, rfl, rfl, rfl, rfl, rfl, rfl, rfl, (show lk _ _ = some (.tuple #[.agg #[.slice (some ⟨b15, 0, none⟩) ((C).1.length) c5, .slice A6 ((C).2.length) c7], .int .i64 (Tr.err (Tr.may 1 (s0 % m) ((m : Nat) : Int) gl && decide (0 ≤ ((m + 1 : Nat) : Int))))]) from rfl).trans (by first | (simp only [g116, g124, decide_true, decide_false, Bool.true_and, Bool.false_and, Bool.true_or, Bool.false_or]; done) | (simp [-List.getD_eq_getElem?_getD, g116, g124]; done) | (simp [-List.getD_eq_getElem?_getD, g116, g124]; omega)), rfl, rfl, rfl, rfl, rfl, rfl, (show lk _ _ = some (.tuple #[.agg #[.slice (some ⟨b15, 0, none⟩) ((C).1.length) c5, .slice A6 ((C).2.length) c7], .int .i64 (Tr.err (Tr.may 1 (s0 % m) ((m : Nat) : Int) gl && decide (0 ≤ ((m + 1 : Nat) : Int))))]) from rfl).trans (by first | (simp only [g116, g124, decide_true, decide_false, Bool.true_and, Bool.false_and, Bool.true_or, Bool.false_or]; done) | (simp [-List.getD_eq_getElem?_getD, g116, g124]; done) | (simp [-List.getD_eq_getElem?_getD, g116, g124]; omega)), (show lk _ _ = some (.agg #[.slice (some ⟨b15, 0, none⟩) ((C).1.length) c5, .slice A6 ((C).2.length) c7]) from rfl).trans (by first | (simp only [g116, g124, decide_true, decide_false, Bool.true_and, Bool.false_and, Bool.true_or, Bool.false_or]; done) | (simp [-List.getD_eq_getElem?_getD, g116, g124]; done) | (simp [-List.getD_eq_getElem?_getD, g116, g124]; omega)), rfl, rfl, rfl, rfl, rfl, rfl, rfl, rfl, rfl, rfl, rfl, rfl, rfl, rfl, rfl, rfl, rfl, rfl, rfl, rfl, (show lk _ _ = some (.bool true) from rfl).trans (by first | (simp only [g116, g124, decide_true, decide_false, Bool.true_and, Bool.false_and, Bool.true_or, Bool.false_or]; done) | (simp [-List.getD_eq_getElem?_getD, g116, g124]; done) | (simp [-List.getD_eq_getElem?_getD, g116, g124]; omega)), trivial⟩)
              · skip
                refine q_y S (y_move S rfl rfl) rfl rfl rfl fun a S => ?_
                refine q_y S (y_move S rfl rfl) rfl rfl rfl fun a S => ?_
                refine q_y S (y_index S rfl rfl rfl Try.underlying45 Try.sizeOf3 (by omega) (by omega)) rfl rfl rfl fun a S => ?_
                refine q_y S (y_loadAt S rfl rfl Try.isAgg3 (fun w H => (SlOk.ofRow (i := 0) H rfl).cell w H (ints_at (i := x) (by first | omega | (simp <;> omega))))) rfl rfl rfl fun a S => ?_
                refine q_y S (y_ge S rfl rfl rfl) rfl rfl rfl fun a S => ?_
                refine q_y S (y_move S rfl rfl) rfl rfl rfl fun a S => ?_
                refine splitP S (d := 130) rfl (fun g130 S => ?_) (fun g130 S => ?_)
                · skip
                  refine q_y S (y_fieldAddr S rfl rfl fa40_0) rfl rfl rfl fun a S => ?_
                  refine q_y S (y_load 1 S rfl rfl Try.isAgg37 rfl rfl) rfl rfl rfl fun a S => ?_
                  refine q_y S (y_move S rfl rfl) rfl rfl rfl fun a S => ?_
                  refine q_y S (y_index S rfl rfl rfl Try.underlying37 Try.sizeOf25 (by omega) (by omega)) rfl rfl rfl fun a S => ?_
                  refine q_y S (y_loadAt S rfl rfl Try.isAgg25 (fun w H => (SlOk.ofRow (i := 2) H rfl).cell w H (u64s_at (i := x) (by first | omega | (simp <;> omega))))) rfl rfl rfl fun a S => ?_
                  refine q_y S (y_move S rfl rfl) rfl rfl rfl fun a S => ?_
                  refine q_y S (y_move S rfl rfl) rfl rfl rfl fun a S => ?_
                  refine q_y S (y_index S rfl rfl rfl Try.underlying45 Try.sizeOf3 (by omega) (by omega)) rfl rfl rfl fun a S => ?_
                  refine q_y S (y_loadAt S rfl rfl Try.isAgg3 (fun w H => (SlOk.ofRow (i := 0) H rfl).cell w H (ints_at (i := x) (by first | omega | (simp <;> omega))))) rfl rfl rfl fun a S => ?_
                  refine q_y S (y_conv S rfl rfl Try.underlying3 Try.underlying25 (wu64 (by omega) (by omega))) rfl rfl rfl fun a S => ?_
                  refine q_y S (y_ne S rfl rfl rfl) rfl rfl rfl fun a S => ?_
                  refine q_y S (y_pickT S rfl rfl rfl) rfl rfl rfl fun a S => ?_
                  refine q_y S (y_pickF S rfl rfl rfl) rfl rfl rfl fun a S => ?_
                  exact q_nil (S.sub ⟨rfl, rfl, rfl, rfl, rfl, rfl, rfl, rfl, rfl, rfl, rfl, rfl, rfl, rfl, rfl, rfl, rfl, rfl, rfl, rfl, rfl, (show lk _ _ = some (.tuple #[.agg #[.slice (some ⟨b15, 0, none⟩) ((C).1.length) c5, .slice A6 ((C).2.length) c7], .int .i64 (Tr.err (Tr.may 1 (s0 % m) ((m : Nat) : Int) gl && decide (0 ≤ ((m + 1 : Nat) : Int))))]) from rfl).trans (by first | (simp only [g116, g124, g130, decide_true, decide_false, Bool.true_and, Bool.false_and, Bool.true_or, Bool.false_or]; done) | (simp [-List.getD_eq_getElem?_getD, g116, g124, g130]; done) | (simp [-List.getD_eq_getElem?_getD, g116, g124, g130]; omega)), rfl, rfl, rfl, rfl, rfl, rfl, (show lk _ _ = some (.tuple #[.agg #[.slice (some ⟨b15, 0, none⟩) ((C).1.length) c5, .slice A6 ((C).2.length) c7], .int .i64 (Tr.err (Tr.may 1 (s0 % m) ((m : Nat) : Int) gl && decide (0 ≤ ((m + 1 : Nat) : Int))))]) from rfl).trans (by first | (simp only [g116, g124, g130, decide_true, decide_false, Bool.true_and, Bool.false_and, Bool.true_or, Bool.false_or]; done) | (simp [-List.getD_eq_getElem?_getD, g116, g124, g130]; done) | (simp [-List.getD_eq_getElem?_getD, g116, g124, g130]; omega)), (show lk _ _ = some (.agg #[.slice (some ⟨b15, 0, none⟩) ((C).1.length) c5, .slice A6 ((C).2.length) c7]) from rfl).trans (by first | (simp only [g116, g124, g130, decide_true, decide_false, Bool.true_and, Bool.false_and, Bool.true_or, Bool.false_or]; done) | (simp [-List.getD_eq_getElem?_getD, g116, g124, g130]; done) | (simp [-List.getD_eq_getElem?_getD, g116, g124, g130]; omega)), rfl, rfl, rfl, rfl, rfl, rfl, rfl, rfl, rfl, rfl, rfl, rfl, rfl, rfl, rfl, rfl, rfl, rfl, rfl, rfl, (show lk _ _ = some (.bool (decide (((((C).1).getD x 0 : Nat) : Int) ≠ (Tr.far gl (s0 % m) m m).getD x 0))) from rfl).trans (by first | (simp only [g116, g124, g130, decide_true, decide_false, Bool.true_and, Bool.false_and, Bool.true_or, Bool.false_or]; done) | (simp [-List.getD_eq_getElem?_getD, g116, g124, g130]; done) | (simp [-List.getD_eq_getElem?_getD, g116, g124, g130]; omega)), trivial⟩)
                · skip
                  refine q_skip S rfl rfl rfl fun a S => ?_
                  refine q_skip S rfl rfl rfl fun a S => ?_
                  refine q_skip S rfl rfl rfl fun a S => ?_
                  refine q_skip S rfl rfl rfl fun a S => ?_
                  refine q_skip S rfl rfl rfl fun a S => ?_
                  refine q_skip S rfl rfl rfl fun a S => ?_
                  refine q_skip S rfl rfl rfl fun a S => ?_
                  refine q_skip S rfl rfl rfl fun a S => ?_
                  refine q_skip S rfl rfl rfl fun a S => ?_
                  refine q_skip S rfl rfl rfl fun a S => ?_
                  refine q_skip S rfl rfl rfl fun a S => ?_
                  refine q_y S (y_pickF S rfl rfl rfl) rfl rfl rfl fun a S => ?_
                  refine q_y S (y_pickF S rfl rfl rfl) rfl rfl rfl fun a S => ?_
                  exact q_nil (S.sub ⟨rfl, rfl, rfl, rfl, rfl, rfl, rfl, rfl, rfl, rfl, rfl, rfl, rfl, rfl, rfl, rfl, rfl, rfl, rfl, rfl, rfl, (show lk _ _ = some (.tuple #[.agg #[.slice (some ⟨b15, 0, none⟩) ((C).1.length) c5, .slice A6 ((C).2.length) c7], .int .i64 (Tr.err (Tr.may 1 (s0 % m) ((m : Nat) : Int) gl && decide (0 ≤ ((m + 1 : Nat) : Int))))]) from rfl).trans (by first | (simp only [g116, g124, g130, decide_true, decide_false, Bool.true_and, Bool.false_and, Bool.true_or, Bool.false_or]; done) | (simp [-List.getD_eq_getElem?_getD, g116, g124, g130]; done) | (simp [-List.getD_eq_getElem?_getD, g116, g124, g130]; omega)), rfl, rfl, rfl, rfl, rfl, rfl, (show lk _ _ = some (.tuple #[.agg #[.slice (some ⟨b15, 0, none⟩) ((C).1.length) c5, .slice A6 ((C).2.length) c7], .int .i64 (Tr.err (Tr.may 1 (s0 % m) ((m : Nat) : Int) gl && decide (0 ≤ ((m + 1 : Nat) : Int))))]) from rfl).trans (by first | (simp only [g116, g124, g130, decide_true, decide_false, Bool.true_and, Bool.false_and, Bool.true_or, Bool.false_or]; done) | (simp [-List.getD_eq_getElem?_getD, g116, g124, g130]; done) | (simp [-List.getD_eq_getElem?_getD, g116, g124, g130]; omega)), (show lk _ _ = some (.agg #[.slice (some ⟨b15, 0, none⟩) ((C).1.length) c5, .slice A6 ((C).2.length) c7]) from rfl).trans (by first | (simp only [g116, g124, g130, decide_true, decide_false, Bool.true_and, Bool.false_and, Bool.true_or, Bool.false_or]; done) | (simp [-List.getD_eq_getElem?_getD, g116, g124, g130]; done) | (simp [-List.getD_eq_getElem?_getD, g116, g124, g130]; omega)), rfl, rfl, rfl, rfl, rfl, rfl, rfl, rfl, rfl, rfl, rfl, rfl, rfl, rfl, rfl, rfl, rfl, rfl, rfl, rfl, (show lk _ _ = some (.bool false) from rfl).trans (by first | (simp only [g116, g124, g130, decide_true, decide_false, Bool.true_and, Bool.false_and, Bool.true_or, Bool.false_or]; done) | (simp [-List.getD_eq_getElem?_getD, g116, g124, g130]; done) | (simp [-List.getD_eq_getElem?_getD, g116, g124, g130]; omega)), trivial⟩)
            · skip
              refine q_skip S rfl rfl rfl fun a S => ?_
              refine q_skip S rfl rfl rfl fun a S => ?_
              refine q_skip S rfl rfl rfl fun a S => ?_
              refine q_skip S rfl rfl rfl fun a S => ?_
              refine q_skip S rfl rfl rfl fun a S => ?_
              refine q_skip S rfl rfl rfl fun a S => ?_
              refine q_y S (y_pickF S rfl rfl rfl) rfl rfl rfl fun a S => ?_
              refine q_y S (y_move S rfl rfl) rfl rfl rfl fun a S => ?_
              refine q_y S (y_move S rfl rfl) rfl rfl rfl fun a S => ?_
              refine q_y S (y_move S rfl rfl) rfl rfl rfl fun a S => ?_
              refine q_y S (y_index S rfl rfl rfl Try.underlying45 Try.sizeOf3 (by omega) (by omega)) rfl rfl rfl fun a S => ?_
              refine q_y S (y_loadAt S rfl rfl Try.isAgg3 (fun w H => (SlOk.ofRow (i := 0) H rfl).cell w H (ints_at (i := x) (by first | omega | (simp <;> omega))))) rfl rfl rfl fun a S => ?_
              refine q_y S (y_ge S rfl rfl rfl) rfl rfl rfl fun a S => ?_
              refine q_y S (y_move S rfl rfl) rfl rfl rfl fun a S => ?_
              refine splitP S (d := 130) rfl (fun g130 S => ?_) (fun g130 S => ?_)
              · skip
                refine q_y S (y_fieldAddr S rfl rfl fa40_0) rfl rfl rfl fun a S => ?_
                refine q_y S (y_load 1 S rfl rfl Try.isAgg37 rfl rfl) rfl rfl rfl fun a S => ?_
                refine q_y S (y_move S rfl rfl) rfl rfl rfl fun a S => ?_
                obtain ⟨b17, rfl⟩ := H.rowAt (i := 2) rfl (by first | omega | (simp <;> omega))
                refine q_y S (y_index S rfl rfl rfl Try.underlying37 Try.sizeOf25 (by omega) (by omega)) rfl rfl rfl fun a S => ?_
                refine q_y S (y_loadAt S rfl rfl Try.isAgg25 (fun w H => (SlOk.ofRow (i := 2) H rfl).cell w H (u64s_at (i := x) (by first | omega | (simp <;> omega))))) rfl rfl rfl fun a S => ?_
                refine q_y S (y_move S rfl rfl) rfl rfl rfl fun a S => ?_
                refine q_y S (y_move S rfl rfl) rfl rfl rfl fun a S => ?_
                refine q_y S (y_index S rfl rfl rfl Try.underlying45 Try.sizeOf3 (by omega) (by omega)) rfl rfl rfl fun a S => ?_
                refine q_y S (y_loadAt S rfl rfl Try.isAgg3 (fun w H => (SlOk.ofRow (i := 0) H rfl).cell w H (ints_at (i := x) (by first | omega | (simp <;> omega))))) rfl rfl rfl fun a S => ?_
                refine q_y S (y_conv S rfl rfl Try.underlying3 Try.underlying25 (wu64 (by omega) (by omega))) rfl rfl rfl fun a S => ?_
                refine q_y S (y_ne S rfl rfl rfl) rfl rfl rfl fun a S => ?_
                refine q_y S (y_pickT S rfl rfl rfl) rfl rfl rfl fun a S => ?_
                refine q_y S (y_pickF S rfl rfl rfl) rfl rfl rfl fun a S => ?_
                exact q_nil (S.sub ⟨rfl, rfl, rfl, rfl, rfl, rfl, rfl, rfl, rfl, rfl, rfl, rfl, rfl, rfl, rfl, rfl, rfl, rfl, rfl, rfl, rfl, (show lk _ _ = some (.tuple #[.agg #[.slice (some ⟨b17, 0, none⟩) ((C).1.length) c5, .slice A6 ((C).2.length) c7], .int .i64 (Tr.err (Tr.may 1 (s0 % m) ((m : Nat) : Int) gl && decide (0 ≤ ((m + 1 : Nat) : Int))))]) from rfl).trans (by first | (simp only [g116, g130, decide_true, decide_false, Bool.true_and, Bool.false_and, Bool.true_or, Bool.false_or]; done) | (simp [-List.getD_eq_getElem?_getD, g116, g130]; done) | (simp [-List.getD_eq_getElem?_getD, g116, g130]; omega)), rfl, rfl, rfl, rfl, rfl, rfl, (show lk _ _ = some (.tuple #[.agg #[.slice (some ⟨b17, 0, none⟩) ((C).1.length) c5, .slice A6 ((C).2.length) c7], .int .i64 (Tr.err (Tr.may 1 (s0 % m) ((m : Nat) : Int) gl && decide (0 ≤ ((m + 1 : Nat) : Int))))]) from rfl).trans (by first | (simp only [g116, g130, decide_true, decide_false, Bool.true_and, Bool.false_and, Bool.true_or, Bool.false_or]; done) | (simp [-List.getD_eq_getElem?_getD, g116, g130]; done) | (simp [-List.getD_eq_getElem?_getD, g116, g130]; omega)), (show lk _ _ = some (.agg #[.slice (some ⟨b17, 0, none⟩) ((C).1.length) c5, .slice A6 ((C).2.length) c7]) from rfl).trans (by first | (simp only [g116, g130, decide_true, decide_false, Bool.true_and, Bool.false_and, Bool.true_or, Bool.false_or]; done) | (simp [-List.getD_eq_getElem?_getD, g116, g130]; done) | (simp [-List.getD_eq_getElem?_getD, g116, g130]; omega)), rfl, rfl, rfl, rfl, rfl, rfl, rfl, rfl, rfl, rfl, rfl, rfl, rfl, rfl, rfl, rfl, rfl, rfl, rfl, rfl, (show lk _ _ = some (.bool (decide (((((C).1).getD x 0 : Nat) : Int) ≠ (Tr.far gl (s0 % m) m m).getD x 0))) from rfl).trans (by first | (simp only [g116, g130, decide_true, decide_false, Bool.true_and, Bool.false_and, Bool.true_or, Bool.false_or]; done) | (simp [-List.getD_eq_getElem?_getD, g116, g130]; done) | (simp [-List.getD_eq_getElem?_getD, g116, g130]; omega)), trivial⟩)
              · skip
                refine q_skip S rfl rfl rfl fun a S => ?_
                refine q_skip S rfl rfl rfl fun a S => ?_
                refine q_skip S rfl rfl rfl fun a S => ?_
                refine q_skip S rfl rfl rfl fun a S => ?_
                refine q_skip S rfl rfl rfl fun a S => ?_
                refine q_skip S rfl rfl rfl fun a S => ?_
                refine q_skip S rfl rfl rfl fun a S => ?_
                refine q_skip S rfl rfl rfl fun a S => ?_
                refine q_skip S rfl rfl rfl fun a S => ?_
                refine q_skip S rfl rfl rfl fun a S => ?_
                refine q_skip S rfl rfl rfl fun a S => ?_
                refine q_y S (y_pickF S rfl rfl rfl) rfl rfl rfl fun a S => ?_
                refine q_y S (y_pickF S rfl rfl rfl) rfl rfl rfl fun a S => ?_
                exact q_nil (S.sub ⟨rfl, rfl, rfl, rfl, rfl, rfl, rfl, rfl, rfl, rfl, rfl, rfl, rfl, rfl, rfl, rfl, rfl, rfl, rfl, rfl, rfl, rfl, rfl, rfl, rfl, rfl, rfl, rfl, rfl, rfl, rfl, rfl, rfl, rfl, rfl, rfl, rfl, rfl, rfl, rfl, rfl, rfl, rfl, rfl, rfl, rfl, rfl, rfl, rfl, rfl, (show lk _ _ = some (.bool false) from rfl).trans (by first | (simp only [g116, g130, decide_true, decide_false, Bool.true_and, Bool.false_and, Bool.true_or, Bool.false_or]; done) | (simp [-List.getD_eq_getElem?_getD, g116, g130]; done) | (simp [-List.getD_eq_getElem?_getD, g116, g130]; omega)), trivial⟩)
          · skip
            refine x_then ?_
            refine r_cond S rfl (fun h143 => ?_) (fun h143 => ?_)
            · skip
              exfalso; simp [-List.getD_eq_getElem?_getD] at h143; omega
            · skip
              refine wp_skip ?_
              refine x_blockEnd ?_
              refine x_then ?_
              refine r_region ?_
              refine r_y S H (y_move S rfl rfl) rfl rfl rfl fun a S => ?_
              refine r_y S H (y_add S rfl rfl rfl (wi64 (by omega) (by omega))) rfl rfl rfl fun a S => ?_
              refine r_y S H (y_assign S rfl rfl) rfl rfl rfl fun a S => ?_
              refine r_nil ?_
              refine x_then ?_
              exact ⟨x + 1, ⟨S.sub ⟨rfl, rfl, rfl, rfl, rfl, rfl, rfl, rfl, rfl, rfl, rfl, rfl, rfl, rfl, rfl, rfl, rfl, rfl, rfl, rfl, rfl, rfl, rfl, rfl, rfl, rfl, rfl, rfl, rfl, rfl, rfl, rfl, rfl, rfl, rfl, rfl, rfl, rfl, rfl, rfl, rfl, rfl, rfl, rfl, rfl, rfl, trivial⟩, H, by omega⟩, by omega⟩
        · skip
          refine wp_exit ?_
          refine x_thenExit ?_
          refine x_thenExit ?_
          refine x_blockHere ?_
          refine x_then ?_
          refine r_seq ?_
          refine r_region ?_
          refine r_y S H (y_move S rfl rfl) rfl rfl rfl fun a S => ?_
          refine r_y S H (y_assign S rfl rfl) rfl rfl rfl fun a S => ?_
          refine r_nil ?_
          refine x_then ?_
          refine wp_ret ?_
          refine r_ret1 S H Try.results4 (ro_tmp S rfl) ?_
          exact ⟨rfl, H.drop.drop.drop.drop.drop.drop⟩

end Go.Proofs.Ytfmpgdhmfjllnaa
