/- Walks of functions of the program, over slots and resources. No condition. -/
import Derived.Test.YtfmpgdhmfjllnaaW13g
import Derived.Test.YtfmpgdhmfjllnaaTx
namespace Go.Proofs.Ytfmpgdhmfjllnaa
open Go.RowKit Go.Cg
set_option linter.unusedVariables false
set_option linter.unusedSimpArgs false
open Go.Cg.Tr (E top right graph quiet msg comb nxt summed)
set_option maxRecDepth 4000 in
theorem law_shares (w : World) (fr : List Res) (n : Int) (A : Option Addr) (c : Nat) (es : List E) (ok : SlOk fr 3 A es.length c (ecells es)) (hes : ∀ e ∈ es, e.f < 4294967296 ∧ e.t < 4294967296) (hew : ∀ e ∈ es, e.w < 4294967296) (j : Int) (hj : -9223372036854775808 ≤ j ∧ j ≤ 9223372036854775807) (H : Sat w (fr)) :
    Rt Try.prog 10 #[.agg #[.int .i64 n, .slice A es.length c], .int .i64 j] w fun v w' => v = .bool true ∧ Sat w' fr := by
  refine rt_enter Try.func10 rfl (n := 78) Try.ntmps10 rfl fun a S => ?_
  refine r_seq ?_
  refine r_region ?_
  refine r_box (c := #[.int .i64 n, .slice A es.length c]) S H rfl rfl rfl rfl rfl rfl fun a w b1 S H => ?_
  refine r_y S H (y_assign S rfl rfl) rfl rfl rfl fun a S => ?_
  refine r_nil ?_
  refine x_then ?_
  refine r_seq ?_
  refine r_region ?_
  refine r_call (args := #[]) S rfl rfl Try.call14 (shown_ct (H := H) _ _) rfl rfl rfl fun v a w hR S => ?_
  obtain ⟨rfl, H⟩ := hR
  refine r_y S H (y_assign S rfl rfl) rfl rfl rfl fun a S => ?_
  refine r_nil ?_
  refine x_then ?_
  refine r_seq ?_
  refine r_region ?_
  refine r_y S H (y_loadAgg [_, _] 0 S rfl rfl (fun w => ⟨Try.isAgg35 w, Try.sizeOf35 w⟩) rfl rfl ⟨rfl, rfl, trivial⟩) rfl rfl rfl fun a S => ?_
  refine r_call (args := #[.agg #[.int .i64 n, .slice A es.length c]]) S rfl rfl Try.call23 (few_ct2 (H := H) _ _ n _ _ es (ok.more _) hes) rfl rfl rfl fun v a w hR S => ?_
  obtain ⟨m, gl, A2, c3, hfew, rfl, H⟩ := hR
  have hm60 := hfew.hm
  have hgl := hfew.hl
  have hgs : ∀ e ∈ gl, e.f < 4294967296 ∧ e.t < 4294967296 := fun e he => hes e (hfew.sub e he)
  have hgw : ∀ e ∈ gl, e.w < 4294967296 := fun e he => hew e (hfew.sub e he)
  have hge := hfew.edges
  refine r_store (vs := [.int .i64 ((m : Nat) : Int), .slice A2 gl.length c3]) 1 S H rfl rfl rfl rfl Try.sizeOf35 rfl rfl (by simp [Value.oneCell']) rfl rfl rfl rfl rfl fun w H => ?_
  refine r_nil ?_
  refine x_then ?_
  refine r_seq ?_
  refine r_region ?_
  refine r_y S H (y_move S rfl rfl) rfl rfl rfl fun a S => ?_
  refine r_y S H (y_bitop S rfl rfl rfl (fun w => Tr.mask7 j w)) rfl rfl rfl fun a S => ?_
  refine r_y S H (y_add S rfl rfl rfl (wi64 (by omega) (by omega))) rfl rfl rfl fun a S => ?_
  obtain ⟨J, hJ, hJ8⟩ : ∃ J : Nat, j % 8 = J ∧ J < 8 := ⟨(j % 8).toNat, by omega, by omega⟩
  have S := S.retell (v' := .int .i64 ((J + 1 : Nat) : Int)) 16 rfl (int_eq (by omega))
  obtain ⟨hmay, hlen, hrank⟩ := Tr.rank_law hfew J
  refine r_y S H (y_assign S rfl rfl) rfl rfl rfl fun a S => ?_
  refine r_nil ?_
  refine x_then ?_
  refine r_seq ?_
  refine r_region ?_
  refine r_y S H (y_build (vs := #[(0, .int .i64 4)]) (v := .agg #[.int .i64 4, .int .u32 0]) S rfl rfl (fun w => by kernel_rfl)) rfl rfl rfl fun a S => ?_
  refine r_y S H (y_loadAgg [_, _] 1 S rfl rfl (fun w => ⟨Try.isAgg35 w, Try.sizeOf35 w⟩) rfl rfl ⟨rfl, rfl, trivial⟩) rfl rfl rfl fun a S => ?_
  refine r_y S H (y_move S rfl rfl) rfl rfl rfl fun a S => ?_
  refine r_call (args := #[.agg #[.int .i64 4, .int .u32 0], .agg #[.int .i64 ((m : Nat) : Int), .slice A2 gl.length c3], .int .i64 ((J + 1 : Nat) : Int)]) S rfl rfl Try.call24 (trace_ct (H := H) _ _ 4 0 (by omega) ((m : Nat) : Int) _ _ gl (SlOk.ofRow (i := 0) H rfl) hgs hgw ((J + 1 : Nat) : Int) (by omega)) rfl rfl rfl fun v a w hR S => ?_
  obtain ⟨A4, c5, A6, c7, rfl, H⟩ := hR
  generalize hgC : Tr.traceR 4 0 ((m : Nat) : Int) gl ((J + 1 : Nat) : Int) = C at *
  refine r_y S H (y_move S rfl rfl) rfl rfl rfl fun a S => ?_
  refine r_y S H (y_extract (v := .agg #[.slice A4 ((C).1.length) c5, .slice A6 ((C).2.length) c7]) S rfl rfl rfl) rfl rfl rfl fun a S => ?_
  refine r_y S H (y_extract (v := .int .i64 (Tr.err (Tr.may 4 0 ((m : Nat) : Int) gl && decide (0 ≤ ((J + 1 : Nat) : Int))))) S rfl rfl rfl) rfl rfl rfl fun a S => ?_
  refine r_alloc S H rfl Try.zeroValue40 rfl rfl rfl rfl fun a w b8 S H => ?_
  refine r_store (vs := [.slice A4 ((C).1.length) c5, .slice A6 ((C).2.length) c7]) 0 S H rfl rfl rfl rfl Try.sizeOf40 rfl rfl (by simp [Value.oneCell']) rfl rfl rfl rfl rfl fun w H => ?_
  refine r_y S H (y_assign S rfl rfl) rfl rfl rfl fun a S => ?_
  refine r_nil ?_
  refine x_then ?_
  refine r_seq ?_
  refine r_seq ?_
  refine wp_via (J := fun a w => Slots a 78 [(0, .agg #[.int .i64 n, .slice A es.length c]), (1, .int .i64 ((J + 1 : Nat) : Int)), (2, .pointer (some ⟨b1, 0, none⟩)), (4, .bool false), (5, .bool true), (6, .pointer (some ⟨b8, 0, none⟩)), (7, .int .i64 (Tr.err (Tr.may 4 0 ((m : Nat) : Int) gl && decide (0 ≤ ((J + 1 : Nat) : Int))))), (11, .bool true), (12, .agg #[.int .i64 n, .slice A es.length c]), (13, .agg #[.int .i64 ((m : Nat) : Int), .slice A2 gl.length c3]), (14, .int .i64 j), (15, .int .i64 (j % 8)), (16, .int .i64 ((J + 1 : Nat) : Int)), (17, .tuple #[.agg #[.slice A4 ((C).1.length) c5, .slice A6 ((C).2.length) c7], .int .i64 (Tr.err (Tr.may 4 0 ((m : Nat) : Int) gl && decide (0 ≤ ((J + 1 : Nat) : Int))))]), (18, .agg #[.int .i64 4, .int .u32 0]), (19, .agg #[.int .i64 ((m : Nat) : Int), .slice A2 gl.length c3]), (20, .int .i64 ((J + 1 : Nat) : Int)), (21, .tuple #[.agg #[.slice A4 ((C).1.length) c5, .slice A6 ((C).2.length) c7], .int .i64 (Tr.err (Tr.may 4 0 ((m : Nat) : Int) gl && decide (0 ≤ ((J + 1 : Nat) : Int))))]), (22, .agg #[.slice A4 ((C).1.length) c5, .slice A6 ((C).2.length) c7]), (23, .int .i64 (Tr.err (Tr.may 4 0 ((m : Nat) : Int) gl && decide (0 ≤ ((J + 1 : Nat) : Int))))), (33, .bool false)] ∧ Sat w (blk b8 (.cells #[.slice A4 ((C).1.length) c5, .slice A6 ((C).2.length) c7] 40) :: row 25 1 (.slice A4 ((C).1.length) c5) ((C).1.length) (u64s (C).1) :: row 4 1 (.slice A6 ((C).2.length) c7) ((C).2.length) (bools (C).2) :: row 47 3 (.slice A2 gl.length c3) gl.length (ecells gl) :: blk b1 (.cells #[.int .i64 ((m : Nat) : Int), .slice A2 gl.length c3] 35) :: fr)) ?_ (fun a w hm => ?_)
  · skip
    refine r_region ?_
    refine r_y S H (y_move S rfl rfl) rfl rfl rfl fun a S => ?_
    refine r_y S H (y_ne S rfl rfl rfl) rfl rfl rfl fun a S => ?_
    have S := S.retell (v' := .bool false) 25 rfl (by rw [hmay, decide_eq_true (Int.natCast_nonneg _)]; rfl)
    refine r_y S H (y_move S rfl rfl) rfl rfl rfl fun a S => ?_
    refine r_y S H (y_fieldAddr S rfl rfl fa40_0) rfl rfl rfl fun a S => ?_
    refine r_y S H (y_load 0 S rfl rfl Try.isAgg37 rfl rfl) rfl rfl rfl fun a S => ?_
    refine r_y S H (y_len S rfl rfl Try.underlying37) rfl rfl rfl fun a S => ?_
    refine r_y S H (y_fieldAddr S rfl rfl fa35_0) rfl rfl rfl fun a S => ?_
    refine r_y S H (y_load 4 S rfl rfl Try.isAgg3 rfl rfl) rfl rfl rfl fun a S => ?_
    refine r_y S H (y_ne S rfl rfl rfl) rfl rfl rfl fun a S => ?_
    have S := S.retell (v' := .bool false) 32 rfl (by rw [hlen]; simp)
    refine r_y S H (y_pickF S rfl rfl rfl) rfl rfl rfl fun a S => ?_
    refine r_nil ?_
    refine x_then ?_
    exact ⟨S.sub ⟨rfl, rfl, rfl, rfl, rfl, rfl, rfl, rfl, rfl, rfl, rfl, rfl, rfl, rfl, rfl, rfl, rfl, rfl, rfl, rfl, rfl, trivial⟩, H⟩
  obtain ⟨S, H⟩ := hm
  refine x_then ?_
  refine r_condF S rfl ?_
  refine wp_skip ?_
  refine x_then ?_
  refine r_seq ?_
  refine r_seq ?_
  refine r_region ?_
  refine r_y S H (y_assign S rfl rfl) rfl rfl rfl fun a S => ?_
  refine r_nil ?_
  refine x_then ?_
  refine r_block ?_
  refine r_loop (ι := Nat) (fun q a w => Slots a 78 [(0, .agg #[.int .i64 n, .slice A es.length c]), (1, .int .i64 ((J + 1 : Nat) : Int)), (2, .pointer (some ⟨b1, 0, none⟩)), (5, .bool true), (6, .pointer (some ⟨b8, 0, none⟩)), (7, .int .i64 (Tr.err (Tr.may 4 0 ((m : Nat) : Int) gl && decide (0 ≤ ((J + 1 : Nat) : Int))))), (8, .int .i64 ((q : Nat) : Int)), (11, .bool true), (12, .agg #[.int .i64 n, .slice A es.length c]), (13, .agg #[.int .i64 ((m : Nat) : Int), .slice A2 gl.length c3]), (14, .int .i64 j), (15, .int .i64 (j % 8)), (16, .int .i64 ((J + 1 : Nat) : Int)), (17, .tuple #[.agg #[.slice A4 ((C).1.length) c5, .slice A6 ((C).2.length) c7], .int .i64 (Tr.err (Tr.may 4 0 ((m : Nat) : Int) gl && decide (0 ≤ ((J + 1 : Nat) : Int))))]), (18, .agg #[.int .i64 4, .int .u32 0]), (19, .agg #[.int .i64 ((m : Nat) : Int), .slice A2 gl.length c3]), (20, .int .i64 ((J + 1 : Nat) : Int)), (21, .tuple #[.agg #[.slice A4 ((C).1.length) c5, .slice A6 ((C).2.length) c7], .int .i64 (Tr.err (Tr.may 4 0 ((m : Nat) : Int) gl && decide (0 ≤ ((J + 1 : Nat) : Int))))]), (22, .agg #[.slice A4 ((C).1.length) c5, .slice A6 ((C).2.length) c7]), (23, .int .i64 (Tr.err (Tr.may 4 0 ((m : Nat) : Int) gl && decide (0 ≤ ((J + 1 : Nat) : Int))))), (33, .bool false)] ∧ Sat w (blk b8 (.cells #[.slice A4 ((C).1.length) c5, .slice A6 ((C).2.length) c7] 40) :: row 25 1 (.slice A4 ((C).1.length) c5) ((C).1.length) (u64s (C).1) :: row 4 1 (.slice A6 ((C).2.length) c7) ((C).2.length) (bools (C).2) :: row 47 3 (.slice A2 gl.length c3) gl.length (ecells gl) :: blk b1 (.cells #[.int .i64 ((m : Nat) : Int), .slice A2 gl.length c3] 35) :: fr) ∧ (q ≤ m)) (fun q => m - q) 0 ⟨S.sub ⟨rfl, rfl, rfl, rfl, rfl, rfl, rfl, rfl, rfl, rfl, rfl, rfl, rfl, rfl, rfl, rfl, rfl, rfl, rfl, rfl, rfl, trivial⟩, H, Nat.zero_le _⟩ (fun q a w hI => ?_)
  obtain ⟨S, H, hI⟩ := hI
  have hq1 := hI
  refine r_seq ?_
  refine r_seq ?_
  refine r_region ?_
  refine r_y S H (y_move S rfl rfl) rfl rfl rfl fun a S => ?_
  refine r_y S H (y_fieldAddr S rfl rfl fa35_0) rfl rfl rfl fun a S => ?_
  refine r_y S H (y_load 4 S rfl rfl Try.isAgg3 rfl rfl) rfl rfl rfl fun a S => ?_
  refine r_y S H (y_lt S rfl rfl rfl) rfl rfl rfl fun a S => ?_
  refine r_nil ?_
  refine x_then ?_
  refine r_test S rfl (fun h37 => ?_) (fun h37 => ?_)
  · skip
    refine wp_skip ?_
    refine x_then ?_
    refine r_seq ?_
    refine r_block ?_
    refine r_seq ?_
    refine r_region ?_
    refine r_y S H (y_assign S rfl rfl) rfl rfl rfl fun a S => ?_
    refine r_nil ?_
    refine x_then ?_
    refine r_seq ?_
    refine r_seq ?_
    refine r_region ?_
    refine r_y S H (y_assign S rfl rfl) rfl rfl rfl fun a S => ?_
    refine r_nil ?_
    refine x_then ?_
    refine r_block ?_
    refine r_loop (ι := Nat) (fun i a w => Slots a 78 [(0, .agg #[.int .i64 n, .slice A es.length c]), (1, .int .i64 ((J + 1 : Nat) : Int)), (2, .pointer (some ⟨b1, 0, none⟩)), (5, .bool true), (6, .pointer (some ⟨b8, 0, none⟩)), (7, .int .i64 (Tr.err (Tr.may 4 0 ((m : Nat) : Int) gl && decide (0 ≤ ((J + 1 : Nat) : Int))))), (8, .int .i64 ((q : Nat) : Int)), (9, .bool (decide (0 < Tr.ind gl i q))), (10, .int .i64 ((i : Nat) : Int)), (11, .bool true), (12, .agg #[.int .i64 n, .slice A es.length c]), (13, .agg #[.int .i64 ((m : Nat) : Int), .slice A2 gl.length c3]), (14, .int .i64 j), (15, .int .i64 (j % 8)), (16, .int .i64 ((J + 1 : Nat) : Int)), (17, .tuple #[.agg #[.slice A4 ((C).1.length) c5, .slice A6 ((C).2.length) c7], .int .i64 (Tr.err (Tr.may 4 0 ((m : Nat) : Int) gl && decide (0 ≤ ((J + 1 : Nat) : Int))))]), (18, .agg #[.int .i64 4, .int .u32 0]), (19, .agg #[.int .i64 ((m : Nat) : Int), .slice A2 gl.length c3]), (20, .int .i64 ((J + 1 : Nat) : Int)), (21, .tuple #[.agg #[.slice A4 ((C).1.length) c5, .slice A6 ((C).2.length) c7], .int .i64 (Tr.err (Tr.may 4 0 ((m : Nat) : Int) gl && decide (0 ≤ ((J + 1 : Nat) : Int))))]), (22, .agg #[.slice A4 ((C).1.length) c5, .slice A6 ((C).2.length) c7]), (23, .int .i64 (Tr.err (Tr.may 4 0 ((m : Nat) : Int) gl && decide (0 ≤ ((J + 1 : Nat) : Int))))), (33, .bool false), (34, .int .i64 ((q : Nat) : Int)), (35, .pointer (some ⟨b1, 0, none⟩)), (36, .int .i64 ((m : Nat) : Int)), (37, .bool (decide (((q : Nat) : Int) < ((m : Nat) : Int))))] ∧ Sat w (blk b8 (.cells #[.slice A4 ((C).1.length) c5, .slice A6 ((C).2.length) c7] 40) :: row 25 1 (.slice A4 ((C).1.length) c5) ((C).1.length) (u64s (C).1) :: row 4 1 (.slice A6 ((C).2.length) c7) ((C).2.length) (bools (C).2) :: row 47 3 (.slice A2 gl.length c3) gl.length (ecells gl) :: blk b1 (.cells #[.int .i64 ((m : Nat) : Int), .slice A2 gl.length c3] 35) :: fr) ∧ (i ≤ gl.length)) (fun i => gl.length - i) 0 ⟨S.sub ⟨rfl, rfl, rfl, rfl, rfl, rfl, rfl, ((show lk _ _ = some _ from rfl).trans (congrArg (fun x => some (Value.bool x)) (by simp [Tr.ind]))), rfl, rfl, rfl, rfl, rfl, rfl, rfl, rfl, rfl, rfl, rfl, rfl, rfl, rfl, rfl, rfl, rfl, rfl, rfl, trivial⟩, H, Nat.zero_le _⟩ (fun i a w hI => ?_)
    obtain ⟨S, H, hI⟩ := hI
    have hi := hI
    refine r_seq ?_
    refine r_seq ?_
    refine r_region ?_
    refine r_y S H (y_move S rfl rfl) rfl rfl rfl fun a S => ?_
    refine r_y S H (y_fieldAddr S rfl rfl fa35_1) rfl rfl rfl fun a S => ?_
    refine r_y S H (y_load 4 S rfl rfl Try.isAgg33 rfl rfl) rfl rfl rfl fun a S => ?_
    refine r_y S H (y_len S rfl rfl Try.underlying33) rfl rfl rfl fun a S => ?_
    refine r_y S H (y_lt S rfl rfl rfl) rfl rfl rfl fun a S => ?_
    refine r_nil ?_
    refine x_then ?_
    refine r_test S rfl (fun h44 => ?_) (fun h44 => ?_)
    · skip
      have hb := hge _ (getD_mem (by omega : i < gl.length))
      refine wp_skip ?_
      refine x_then ?_
      refine r_seq ?_
      refine r_block ?_
      refine wp_via (J := fun a w => Slots a 78 [(0, .agg #[.int .i64 n, .slice A es.length c]), (1, .int .i64 ((J + 1 : Nat) : Int)), (2, .pointer (some ⟨b1, 0, none⟩)), (5, .bool true), (6, .pointer (some ⟨b8, 0, none⟩)), (7, .int .i64 (Tr.err (Tr.may 4 0 ((m : Nat) : Int) gl && decide (0 ≤ ((J + 1 : Nat) : Int))))), (8, .int .i64 ((q : Nat) : Int)), (9, .bool ((decide (0 < Tr.ind gl i q)) || (decide ((((gl.getD i e0).t : Nat) : Int) = ((q : Nat) : Int))))), (10, .int .i64 ((i : Nat) : Int)), (11, .bool true), (12, .agg #[.int .i64 n, .slice A es.length c]), (13, .agg #[.int .i64 ((m : Nat) : Int), .slice A2 gl.length c3]), (14, .int .i64 j), (15, .int .i64 (j % 8)), (16, .int .i64 ((J + 1 : Nat) : Int)), (17, .tuple #[.agg #[.slice A4 ((C).1.length) c5, .slice A6 ((C).2.length) c7], .int .i64 (Tr.err (Tr.may 4 0 ((m : Nat) : Int) gl && decide (0 ≤ ((J + 1 : Nat) : Int))))]), (18, .agg #[.int .i64 4, .int .u32 0]), (19, .agg #[.int .i64 ((m : Nat) : Int), .slice A2 gl.length c3]), (20, .int .i64 ((J + 1 : Nat) : Int)), (21, .tuple #[.agg #[.slice A4 ((C).1.length) c5, .slice A6 ((C).2.length) c7], .int .i64 (Tr.err (Tr.may 4 0 ((m : Nat) : Int) gl && decide (0 ≤ ((J + 1 : Nat) : Int))))]), (22, .agg #[.slice A4 ((C).1.length) c5, .slice A6 ((C).2.length) c7]), (23, .int .i64 (Tr.err (Tr.may 4 0 ((m : Nat) : Int) gl && decide (0 ≤ ((J + 1 : Nat) : Int))))), (33, .bool false), (34, .int .i64 ((q : Nat) : Int)), (35, .pointer (some ⟨b1, 0, none⟩)), (36, .int .i64 ((m : Nat) : Int)), (37, .bool (decide (((q : Nat) : Int) < ((m : Nat) : Int)))), (40, .int .i64 ((i : Nat) : Int)), (41, .pointer (some ⟨b1, 1, none⟩)), (42, .slice A2 gl.length c3), (43, .int .i64 ((gl.length : Nat) : Int)), (44, .bool (decide (((i : Nat) : Int) < ((gl.length : Nat) : Int))))] ∧ Sat w (blk b8 (.cells #[.slice A4 ((C).1.length) c5, .slice A6 ((C).2.length) c7] 40) :: row 25 1 (.slice A4 ((C).1.length) c5) ((C).1.length) (u64s (C).1) :: row 4 1 (.slice A6 ((C).2.length) c7) ((C).2.length) (bools (C).2) :: row 47 3 (.slice A2 gl.length c3) gl.length (ecells gl) :: blk b1 (.cells #[.int .i64 ((m : Nat) : Int), .slice A2 gl.length c3] 35) :: fr)) ?_ (fun a w hm => ?_)
      · skip
        refine r_region ?_
        refine r_y S H (y_move S rfl rfl) rfl rfl rfl fun a S => ?_
        refine r_y S H (y_move S rfl rfl) rfl rfl rfl fun a S => ?_
        refine splitB S (d := 48) rfl (fun g48 S => ?_) (fun g48 S => ?_)
        · skip
          refine r_skip S rfl rfl rfl fun a S => ?_
          refine r_skip S rfl rfl rfl fun a S => ?_
          refine r_skip S rfl rfl rfl fun a S => ?_
          refine r_skip S rfl rfl rfl fun a S => ?_
          refine r_skip S rfl rfl rfl fun a S => ?_
          refine r_skip S rfl rfl rfl fun a S => ?_
          refine r_skip S rfl rfl rfl fun a S => ?_
          refine r_skip S rfl rfl rfl fun a S => ?_
          refine r_skip S rfl rfl rfl fun a S => ?_
          refine r_y S H (y_pickT S rfl rfl rfl) rfl rfl rfl fun a S => ?_
          refine r_y S H (y_assign S rfl rfl) rfl rfl rfl fun a S => ?_
          refine r_nil ?_
          refine x_then ?_
          exact ⟨S.sub ⟨rfl, rfl, rfl, rfl, rfl, rfl, rfl, (show lk _ _ = some (.bool true) from rfl).trans (by first | (simp only [g48, decide_true, decide_false, Bool.true_and, Bool.false_and, Bool.true_or, Bool.false_or]; done) | (simp [-List.getD_eq_getElem?_getD, g48]; done) | (simp [-List.getD_eq_getElem?_getD, g48]; omega)), rfl, rfl, rfl, rfl, rfl, rfl, rfl, rfl, rfl, rfl, rfl, rfl, rfl, rfl, rfl, rfl, rfl, rfl, rfl, rfl, rfl, rfl, rfl, rfl, trivial⟩, H⟩
        · skip
          refine r_y S H (y_fieldAddr S rfl rfl fa35_1) rfl rfl rfl fun a S => ?_
          refine r_y S H (y_load 4 S rfl rfl Try.isAgg33 rfl rfl) rfl rfl rfl fun a S => ?_
          refine r_y S H (y_move S rfl rfl) rfl rfl rfl fun a S => ?_
          obtain ⟨b11, rfl⟩ := H.rowAt (i := 3) rfl (by first | omega | (simp <;> omega))
          refine r_y S H (y_index S rfl rfl rfl Try.underlying33 Try.sizeOf47 (by omega) (by omega)) rfl rfl rfl fun a S => ?_
          refine r_y S H (y_fieldAddr S rfl rfl fa47_1) rfl rfl rfl fun a S => ?_
          refine r_y S H (y_loadAt S rfl rfl Try.isAgg22 (fun w H => (SlOk.ofRow (i := 3) H rfl).cell w H (ecells_t (i := i) (by omega)))) rfl rfl rfl fun a S => ?_
          refine r_y S H (y_conv S rfl rfl Try.underlying22 Try.underlying3 (wi64 (by omega) (by omega))) rfl rfl rfl fun a S => ?_
          refine r_y S H (y_move S rfl rfl) rfl rfl rfl fun a S => ?_
          refine r_y S H (y_eq S rfl rfl rfl) rfl rfl rfl fun a S => ?_
          refine r_y S H (y_pickF S rfl rfl rfl) rfl rfl rfl fun a S => ?_
          refine r_y S H (y_assign S rfl rfl) rfl rfl rfl fun a S => ?_
          refine r_nil ?_
          refine x_then ?_
          exact ⟨S.sub ⟨rfl, rfl, rfl, rfl, rfl, rfl, rfl, (show lk _ _ = some (.bool (decide ((((gl.getD i e0).t : Nat) : Int) = ((q : Nat) : Int)))) from rfl).trans (by first | (simp only [g48, decide_true, decide_false, Bool.true_and, Bool.false_and, Bool.true_or, Bool.false_or]; done) | (simp [-List.getD_eq_getElem?_getD, g48]; done) | (simp [-List.getD_eq_getElem?_getD, g48]; omega)), rfl, rfl, rfl, rfl, rfl, rfl, rfl, rfl, rfl, rfl, rfl, rfl, rfl, rfl, rfl, rfl, rfl, rfl, rfl, rfl, rfl, rfl, rfl, rfl, trivial⟩, H⟩
      obtain ⟨S, H⟩ := hm
      refine x_blockEnd ?_
      refine x_then ?_
      refine r_region ?_
      refine r_y S H (y_move S rfl rfl) rfl rfl rfl fun a S => ?_
      refine r_y S H (y_add S rfl rfl rfl (wi64 (by omega) (by omega))) rfl rfl rfl fun a S => ?_
      refine r_y S H (y_assign S rfl rfl) rfl rfl rfl fun a S => ?_
      refine r_nil ?_
      refine x_then ?_
      exact ⟨i + 1, ⟨S.sub ⟨rfl, rfl, rfl, rfl, rfl, rfl, rfl, ((show lk _ _ = some _ from rfl).trans (congrArg (fun x => some (Value.bool x)) (Tr.ind_pos (by omega) q))), rfl, rfl, rfl, rfl, rfl, rfl, rfl, rfl, rfl, rfl, rfl, rfl, rfl, rfl, rfl, rfl, rfl, rfl, rfl, trivial⟩, H, by omega⟩, by omega⟩
    · skip
      refine wp_exit ?_
      refine x_thenExit ?_
      refine x_thenExit ?_
      refine x_blockHere ?_
      refine x_then ?_
      refine r_seq ?_
      refine wp_via (J := fun a w => Slots a 78 [(0, .agg #[.int .i64 n, .slice A es.length c]), (1, .int .i64 ((J + 1 : Nat) : Int)), (2, .pointer (some ⟨b1, 0, none⟩)), (5, .bool true), (6, .pointer (some ⟨b8, 0, none⟩)), (7, .int .i64 (Tr.err (Tr.may 4 0 ((m : Nat) : Int) gl && decide (0 ≤ ((J + 1 : Nat) : Int))))), (8, .int .i64 ((q : Nat) : Int)), (9, .bool (decide (0 < Tr.ind gl i q))), (10, .int .i64 ((i : Nat) : Int)), (11, .bool true), (12, .agg #[.int .i64 n, .slice A es.length c]), (13, .agg #[.int .i64 ((m : Nat) : Int), .slice A2 gl.length c3]), (14, .int .i64 j), (15, .int .i64 (j % 8)), (16, .int .i64 ((J + 1 : Nat) : Int)), (17, .tuple #[.agg #[.slice A4 ((C).1.length) c5, .slice A6 ((C).2.length) c7], .int .i64 (Tr.err (Tr.may 4 0 ((m : Nat) : Int) gl && decide (0 ≤ ((J + 1 : Nat) : Int))))]), (18, .agg #[.int .i64 4, .int .u32 0]), (19, .agg #[.int .i64 ((m : Nat) : Int), .slice A2 gl.length c3]), (20, .int .i64 ((J + 1 : Nat) : Int)), (21, .tuple #[.agg #[.slice A4 ((C).1.length) c5, .slice A6 ((C).2.length) c7], .int .i64 (Tr.err (Tr.may 4 0 ((m : Nat) : Int) gl && decide (0 ≤ ((J + 1 : Nat) : Int))))]), (22, .agg #[.slice A4 ((C).1.length) c5, .slice A6 ((C).2.length) c7]), (23, .int .i64 (Tr.err (Tr.may 4 0 ((m : Nat) : Int) gl && decide (0 ≤ ((J + 1 : Nat) : Int))))), (33, .bool false), (34, .int .i64 ((q : Nat) : Int)), (35, .pointer (some ⟨b1, 0, none⟩)), (36, .int .i64 ((m : Nat) : Int)), (37, .bool (decide (((q : Nat) : Int) < ((m : Nat) : Int)))), (40, .int .i64 ((i : Nat) : Int)), (41, .pointer (some ⟨b1, 1, none⟩)), (42, .slice A2 gl.length c3), (43, .int .i64 ((gl.length : Nat) : Int)), (44, .bool (decide (((i : Nat) : Int) < ((gl.length : Nat) : Int)))), (76, .bool ((decide (((((C).1).getD q 0 : Nat) : Int) < 157284)) || ((!(decide (0 < Tr.ind gl i q))) && (decide (((((C).1).getD q 0 : Nat) : Int) ≠ 157284)))))] ∧ Sat w (blk b8 (.cells #[.slice A4 ((C).1.length) c5, .slice A6 ((C).2.length) c7] 40) :: row 25 1 (.slice A4 ((C).1.length) c5) ((C).1.length) (u64s (C).1) :: row 4 1 (.slice A6 ((C).2.length) c7) ((C).2.length) (bools (C).2) :: row 47 3 (.slice A2 gl.length c3) gl.length (ecells gl) :: blk b1 (.cells #[.int .i64 ((m : Nat) : Int), .slice A2 gl.length c3] 35) :: fr)) ?_ (fun a w hm => ?_)
      · skip
        refine r_region ?_
        refine r_y S H (y_fieldAddr S rfl rfl fa40_0) rfl rfl rfl fun a S => ?_
        refine r_y S H (y_load 0 S rfl rfl Try.isAgg37 rfl rfl) rfl rfl rfl fun a S => ?_
        refine r_y S H (y_move S rfl rfl) rfl rfl rfl fun a S => ?_
        obtain ⟨b15, rfl⟩ := H.rowAt (i := 1) rfl (by first | omega | (simp <;> omega))
        refine r_y S H (y_index S rfl rfl rfl Try.underlying37 Try.sizeOf25 (by omega) (by omega)) rfl rfl rfl fun a S => ?_
        refine r_y S H (y_loadAt S rfl rfl Try.isAgg25 (fun w H => (SlOk.ofRow (i := 1) H rfl).cell w H (u64s_at (i := q) (by first | omega | (simp <;> omega))))) rfl rfl rfl fun a S => ?_
        refine r_y S H (y_lt S rfl rfl rfl) rfl rfl rfl fun a S => ?_
        refine r_y S H (y_move S rfl rfl) rfl rfl rfl fun a S => ?_
        refine splitP S (d := 65) rfl (fun g65 S => ?_) (fun g65 S => ?_)
        · skip
          refine r_skip S rfl rfl rfl fun a S => ?_
          refine r_skip S rfl rfl rfl fun a S => ?_
          refine r_skip S rfl rfl rfl fun a S => ?_
          refine r_skip S rfl rfl rfl fun a S => ?_
          refine r_skip S rfl rfl rfl fun a S => ?_
          refine r_skip S rfl rfl rfl fun a S => ?_
          refine r_skip S rfl rfl rfl fun a S => ?_
          refine r_skip S rfl rfl rfl fun a S => ?_
          refine r_skip S rfl rfl rfl fun a S => ?_
          refine r_skip S rfl rfl rfl fun a S => ?_
          refine r_y S H (y_pickT S rfl rfl rfl) rfl rfl rfl fun a S => ?_
          refine r_nil ?_
          refine x_then ?_
          exact ⟨S.sub ⟨rfl, rfl, rfl, rfl, rfl, rfl, rfl, rfl, rfl, rfl, rfl, rfl, rfl, rfl, rfl, rfl, rfl, rfl, rfl, rfl, rfl, rfl, rfl, rfl, rfl, rfl, rfl, rfl, rfl, rfl, rfl, rfl, (show lk _ _ = some (.bool true) from rfl).trans (by first | (simp only [g65, decide_true, decide_false, Bool.true_and, Bool.false_and, Bool.true_or, Bool.false_or]; done) | (simp [-List.getD_eq_getElem?_getD, g65]; done) | (simp [-List.getD_eq_getElem?_getD, g65]; omega)), trivial⟩, H⟩
        · skip
          refine r_y S H (y_move S rfl rfl) rfl rfl rfl fun a S => ?_
          refine r_y S H (y_not S rfl rfl) rfl rfl rfl fun a S => ?_
          refine r_y S H (y_move S rfl rfl) rfl rfl rfl fun a S => ?_
          refine splitB S (d := 68) rfl (fun g68 S => ?_) (fun g68 S => ?_)
          · skip
            refine r_y S H (y_fieldAddr S rfl rfl fa40_0) rfl rfl rfl fun a S => ?_
            refine r_y S H (y_load 0 S rfl rfl Try.isAgg37 rfl rfl) rfl rfl rfl fun a S => ?_
            refine r_y S H (y_move S rfl rfl) rfl rfl rfl fun a S => ?_
            refine r_y S H (y_index S rfl rfl rfl Try.underlying37 Try.sizeOf25 (by omega) (by omega)) rfl rfl rfl fun a S => ?_
            refine r_y S H (y_loadAt S rfl rfl Try.isAgg25 (fun w H => (SlOk.ofRow (i := 1) H rfl).cell w H (u64s_at (i := q) (by first | omega | (simp <;> omega))))) rfl rfl rfl fun a S => ?_
            refine r_y S H (y_ne S rfl rfl rfl) rfl rfl rfl fun a S => ?_
            refine r_y S H (y_pickT S rfl rfl rfl) rfl rfl rfl fun a S => ?_
            refine r_y S H (y_pickF S rfl rfl rfl) rfl rfl rfl fun a S => ?_
            refine r_nil ?_
            refine x_then ?_
            exact ⟨S.sub ⟨rfl, rfl, rfl, rfl, rfl, rfl, rfl, rfl, rfl, rfl, rfl, rfl, rfl, rfl, rfl, rfl, rfl, rfl, rfl, rfl, rfl, rfl, rfl, rfl, rfl, rfl, rfl, rfl, rfl, rfl, rfl, rfl, (show lk _ _ = some (.bool (decide (((((C).1).getD q 0 : Nat) : Int) ≠ 157284))) from rfl).trans (by first | (simp only [g65, g68, decide_true, decide_false, Bool.true_and, Bool.false_and, Bool.true_or, Bool.false_or]; done) | (simp [-List.getD_eq_getElem?_getD, g65, g68]; done) | (simp [-List.getD_eq_getElem?_getD, g65, g68]; omega)), trivial⟩, H⟩
          · skip
            refine r_skip S rfl rfl rfl fun a S => ?_
            refine r_skip S rfl rfl rfl fun a S => ?_
            refine r_skip S rfl rfl rfl fun a S => ?_
            refine r_skip S rfl rfl rfl fun a S => ?_
            refine r_skip S rfl rfl rfl fun a S => ?_
            refine r_skip S rfl rfl rfl fun a S => ?_
            refine r_y S H (y_pickF S rfl rfl rfl) rfl rfl rfl fun a S => ?_
            refine r_y S H (y_pickF S rfl rfl rfl) rfl rfl rfl fun a S => ?_
            refine r_nil ?_
            refine x_then ?_
            exact ⟨S.sub ⟨rfl, rfl, rfl, rfl, rfl, rfl, rfl, rfl, rfl, rfl, rfl, rfl, rfl, rfl, rfl, rfl, rfl, rfl, rfl, rfl, rfl, rfl, rfl, rfl, rfl, rfl, rfl, rfl, rfl, rfl, rfl, rfl, (show lk _ _ = some (.bool false) from rfl).trans (by first | (simp only [g65, g68, decide_true, decide_false, Bool.true_and, Bool.false_and, Bool.true_or, Bool.false_or]; done) | (simp [-List.getD_eq_getElem?_getD, g65, g68]; done) | (simp [-List.getD_eq_getElem?_getD, g65, g68]; omega)), trivial⟩, H⟩
      obtain ⟨S, H⟩ := hm
      refine x_then ?_
      refine r_cond S rfl (fun h76 => ?_) (fun h76 => ?_)
      · skip
        exfalso; have hr := hrank q (by omega); rw [← Tr.ind_all (i := i) (by omega)] at hr; simp [-List.getD_eq_getElem?_getD] at h76; omega
      · skip
        refine wp_skip ?_
        refine x_blockEnd ?_
        refine x_then ?_
        refine r_region ?_
        refine r_y S H (y_move S rfl rfl) rfl rfl rfl fun a S => ?_
        refine r_y S H (y_add S rfl rfl rfl (wi64 (by omega) (by omega))) rfl rfl rfl fun a S => ?_
        refine r_y S H (y_assign S rfl rfl) rfl rfl rfl fun a S => ?_
        refine r_nil ?_
        refine x_then ?_
        exact ⟨q + 1, ⟨S.sub ⟨rfl, rfl, rfl, rfl, rfl, rfl, rfl, rfl, rfl, rfl, rfl, rfl, rfl, rfl, rfl, rfl, rfl, rfl, rfl, rfl, rfl, trivial⟩, H, by omega⟩, by omega⟩
  · skip
    refine wp_exit ?_
    refine x_thenExit ?_
    refine x_thenExit ?_
    refine x_blockHere ?_
    refine x_then ?_
    refine r_seq ?_
    refine r_region ?_
    refine r_y S H (y_move S rfl rfl) rfl rfl rfl fun a S => ?_
    refine r_y S H (y_assign S rfl rfl) rfl rfl rfl fun a S => ?_
    refine r_nil ?_
    refine x_then ?_
    refine wp_ret ?_
    refine r_ret1 S H Try.results10 (ro_tmp S rfl) ?_
    exact ⟨rfl, H.drop.drop.drop.drop.drop⟩

set_option maxRecDepth 4000 in
theorem law_falls (w : World) (fr : List Res) (n : Int) (A : Option Addr) (c : Nat) (es : List E) (ok : SlOk fr 3 A es.length c (ecells es)) (hes : ∀ e ∈ es, e.f < 4294967296 ∧ e.t < 4294967296) (hew : ∀ e ∈ es, e.w < 4294967296) (wh : Int) (hwh : -9223372036854775808 ≤ wh ∧ wh ≤ 9223372036854775807) (s0 : Nat) (hs0 : s0 < 4294967296) (j : Int) (hj : -9223372036854775808 ≤ j ∧ j ≤ 9223372036854775807) (H : Sat w (fr)) :
    Rt Try.prog 9 #[.agg #[.int .i64 n, .slice A es.length c], .int .i64 wh, .int .u32 ((s0 : Nat) : Int), .int .i64 j] w fun v w' => v = .bool true ∧ Sat w' fr := by
  refine rt_enter Try.func9 rfl (n := 124) Try.ntmps9 rfl fun a S => ?_
  refine r_seq ?_
  refine r_region ?_
  refine r_box (c := #[.int .i64 n, .slice A es.length c]) S H rfl rfl rfl rfl rfl rfl fun a w b1 S H => ?_
  refine r_y S H (y_assign S rfl rfl) rfl rfl rfl fun a S => ?_
  refine r_nil ?_
  refine x_then ?_
  refine r_seq ?_
  refine r_region ?_
  refine r_call (args := #[]) S rfl rfl Try.call14 (shown_ct (H := H) _ _) rfl rfl rfl fun v a w hR S => ?_
  obtain ⟨rfl, H⟩ := hR
  refine r_y S H (y_assign S rfl rfl) rfl rfl rfl fun a S => ?_
  refine r_nil ?_
  refine x_then ?_
  refine r_seq ?_
  refine r_region ?_
  refine r_y S H (y_loadAgg [_, _] 0 S rfl rfl (fun w => ⟨Try.isAgg35 w, Try.sizeOf35 w⟩) rfl rfl ⟨rfl, rfl, trivial⟩) rfl rfl rfl fun a S => ?_
  refine r_call (args := #[.agg #[.int .i64 n, .slice A es.length c]]) S rfl rfl Try.call23 (few_ct2 (H := H) _ _ n _ _ es (ok.more _) hes) rfl rfl rfl fun v a w hR S => ?_
  obtain ⟨m, gl, A2, c3, hfew, rfl, H⟩ := hR
  have hm60 := hfew.hm
  have hgl := hfew.hl
  have hgs : ∀ e ∈ gl, e.f < 4294967296 ∧ e.t < 4294967296 := fun e he => hes e (hfew.sub e he)
  have hgw : ∀ e ∈ gl, e.w < 4294967296 := fun e he => hew e (hfew.sub e he)
  have hge := hfew.edges
  refine r_store (vs := [.int .i64 ((m : Nat) : Int), .slice A2 gl.length c3]) 1 S H rfl rfl rfl rfl Try.sizeOf35 rfl rfl (by simp [Value.oneCell']) rfl rfl rfl rfl rfl fun w H => ?_
  refine r_nil ?_
  refine x_then ?_
  refine r_seq ?_
  refine r_seq ?_
  refine r_region ?_
  refine r_y S H (y_fieldAddr S rfl rfl fa35_0) rfl rfl rfl fun a S => ?_
  refine r_y S H (y_load 1 S rfl rfl Try.isAgg3 rfl rfl) rfl rfl rfl fun a S => ?_
  refine r_y S H (y_eq S rfl rfl rfl) rfl rfl rfl fun a S => ?_
  refine r_nil ?_
  refine x_then ?_
  refine r_test S rfl (fun h22 => ?_) (fun h22 => ?_)
  · skip
    refine r_seq ?_
    refine r_region ?_
    refine r_y S H (y_move S rfl rfl) rfl rfl rfl fun a S => ?_
    refine r_y S H (y_assign S rfl rfl) rfl rfl rfl fun a S => ?_
    refine r_nil ?_
    refine x_then ?_
    refine wp_ret ?_
    refine x_thenRet ?_
    refine r_ret1 S H Try.results9 (ro_tmp S rfl) ?_
    exact ⟨rfl, H.drop.drop⟩
  · skip
    have hsm : s0 % m < m := Nat.mod_lt _ (by omega)
    refine wp_skip ?_
    refine x_then ?_
    refine r_seq ?_
    refine r_region ?_
    refine r_y S H (y_move S rfl rfl) rfl rfl rfl fun a S => ?_
    refine r_y S H (y_bitop S rfl rfl rfl (fun w => Tr.mask16 wh w)) rfl rfl rfl fun a S => ?_
    refine r_y S H (y_remN S rfl rfl rfl (by omega) (by omega)) rfl rfl rfl fun a S => ?_
    refine r_y S H (y_add S rfl rfl rfl (wi64 (by omega) (by omega))) rfl rfl rfl fun a S => ?_
    obtain ⟨k, hk⟩ : ∃ k : Int, k = 1 + wh % 65536 % 3 := ⟨_, rfl⟩
    have S := S.retell (v' := .int .i64 k) 27 rfl (int_eq (by omega))
    refine r_y S H (y_move S rfl rfl) rfl rfl rfl fun a S => ?_
    refine r_y S H (y_fieldAddr S rfl rfl fa35_0) rfl rfl rfl fun a S => ?_
    refine r_y S H (y_load 1 S rfl rfl Try.isAgg3 rfl rfl) rfl rfl rfl fun a S => ?_
    refine r_y S H (y_conv S rfl rfl Try.underlying3 Try.underlying22 (wu32 (by omega) (by omega))) rfl rfl rfl fun a S => ?_
    refine r_y S H (y_remN S rfl rfl rfl (by omega) (by omega)) rfl rfl rfl fun a S => ?_
    have S := S.retell (v' := .int .u32 ((s0 % m : Nat) : Int)) 32 rfl (int_eq rfl)
    refine r_y S H (y_build (vs := #[(0, .int .i64 k), (1, .int .u32 ((s0 % m : Nat) : Int))]) (v := .agg #[.int .i64 k, .int .u32 ((s0 % m : Nat) : Int)]) S rfl rfl (fun w => by kernel_rfl)) rfl rfl rfl fun a S => ?_
    refine r_alloc S H rfl Try.zeroValue24 rfl rfl rfl rfl fun a w b4 S H => ?_
    refine r_store (vs := [.int .i64 k, .int .u32 ((s0 % m : Nat) : Int)]) 0 S H rfl rfl rfl rfl Try.sizeOf24 rfl rfl (by simp [Value.oneCell']) rfl rfl rfl rfl rfl fun w H => ?_
    refine r_nil ?_
    refine x_then ?_
    refine r_seq ?_
    refine r_region ?_
    refine r_y S H (y_move S rfl rfl) rfl rfl rfl fun a S => ?_
    refine r_y S H (y_bitop S rfl rfl rfl (fun w => Tr.mask7 j w)) rfl rfl rfl fun a S => ?_
    obtain ⟨J, hJ, hJ8⟩ : ∃ J : Nat, j % 8 = J ∧ J < 8 := ⟨(j % 8).toNat, by omega, by omega⟩
    have S := S.retell (v' := .int .i64 ((J : Nat) : Int)) 35 rfl (int_eq (by omega))
    obtain ⟨hmay, hla, hlb, hlb2, hfall⟩ := Tr.falls_law hfew (k := k) (by omega) hsm J
    refine r_y S H (y_assign S rfl rfl) rfl rfl rfl fun a S => ?_
    refine r_nil ?_
    refine x_then ?_
    refine r_seq ?_
    refine r_region ?_
    refine r_y S H (y_loadAgg [_, _] 0 S rfl rfl (fun w => ⟨Try.isAgg24 w, Try.sizeOf24 w⟩) rfl rfl ⟨rfl, rfl, trivial⟩) rfl rfl rfl fun a S => ?_
    refine r_y S H (y_loadAgg [_, _] 2 S rfl rfl (fun w => ⟨Try.isAgg35 w, Try.sizeOf35 w⟩) rfl rfl ⟨rfl, rfl, trivial⟩) rfl rfl rfl fun a S => ?_
    refine r_y S H (y_move S rfl rfl) rfl rfl rfl fun a S => ?_
    refine r_call (args := #[.agg #[.int .i64 k, .int .u32 ((s0 % m : Nat) : Int)], .agg #[.int .i64 ((m : Nat) : Int), .slice A2 gl.length c3], .int .i64 ((J : Nat) : Int)]) S rfl rfl Try.call24 (trace_ct (H := H) _ _ k (s0 % m) (by omega) ((m : Nat) : Int) _ _ gl (SlOk.ofRow (i := 1) H rfl) hgs hgw ((J : Nat) : Int) (by omega)) rfl rfl rfl fun v a w hR S => ?_
    obtain ⟨A5, c6, A7, c8, rfl, H⟩ := hR
    generalize hgC : Tr.traceR k (s0 % m) ((m : Nat) : Int) gl ((J : Nat) : Int) = C at *
    refine r_y S H (y_move S rfl rfl) rfl rfl rfl fun a S => ?_
    refine r_y S H (y_extract (v := .agg #[.slice A5 ((C).1.length) c6, .slice A7 ((C).2.length) c8]) S rfl rfl rfl) rfl rfl rfl fun a S => ?_
    refine r_y S H (y_extract (v := .int .i64 (Tr.err (Tr.may k (s0 % m) ((m : Nat) : Int) gl && decide (0 ≤ ((J : Nat) : Int))))) S rfl rfl rfl) rfl rfl rfl fun a S => ?_
    refine r_alloc S H rfl Try.zeroValue40 rfl rfl rfl rfl fun a w b9 S H => ?_
    refine r_store (vs := [.slice A5 ((C).1.length) c6, .slice A7 ((C).2.length) c8]) 0 S H rfl rfl rfl rfl Try.sizeOf40 rfl rfl (by simp [Value.oneCell']) rfl rfl rfl rfl rfl fun w H => ?_
    refine r_y S H (y_assign S rfl rfl) rfl rfl rfl fun a S => ?_
    refine r_nil ?_
    refine x_then ?_
    refine r_seq ?_
    refine r_region ?_
    refine r_y S H (y_loadAgg [_, _] 3 S rfl rfl (fun w => ⟨Try.isAgg24 w, Try.sizeOf24 w⟩) rfl rfl ⟨rfl, rfl, trivial⟩) rfl rfl rfl fun a S => ?_
    refine r_y S H (y_loadAgg [_, _] 5 S rfl rfl (fun w => ⟨Try.isAgg35 w, Try.sizeOf35 w⟩) rfl rfl ⟨rfl, rfl, trivial⟩) rfl rfl rfl fun a S => ?_
    refine r_y S H (y_move S rfl rfl) rfl rfl rfl fun a S => ?_
    refine r_y S H (y_add S rfl rfl rfl (wi64 (by omega) (by omega))) rfl rfl rfl fun a S => ?_
    have S := S.retell (v' := .int .i64 ((J + 1 : Nat) : Int)) 47 rfl (int_eq (by omega))
    refine r_call (args := #[.agg #[.int .i64 k, .int .u32 ((s0 % m : Nat) : Int)], .agg #[.int .i64 ((m : Nat) : Int), .slice A2 gl.length c3], .int .i64 ((J + 1 : Nat) : Int)]) S rfl rfl Try.call24 (trace_ct (H := H) _ _ k (s0 % m) (by omega) ((m : Nat) : Int) _ _ gl (SlOk.ofRow (i := 4) H rfl) hgs hgw ((J + 1 : Nat) : Int) (by omega)) rfl rfl rfl fun v a w hR S => ?_
    obtain ⟨A10, c11, A12, c13, rfl, H⟩ := hR
    generalize hgD : Tr.traceR k (s0 % m) ((m : Nat) : Int) gl ((J + 1 : Nat) : Int) = D at *
    refine r_y S H (y_move S rfl rfl) rfl rfl rfl fun a S => ?_
    refine r_y S H (y_extract (v := .agg #[.slice A10 ((D).1.length) c11, .slice A12 ((D).2.length) c13]) S rfl rfl rfl) rfl rfl rfl fun a S => ?_
    refine r_y S H (y_extract (v := .int .i64 (Tr.err (Tr.may k (s0 % m) ((m : Nat) : Int) gl && decide (0 ≤ ((J + 1 : Nat) : Int))))) S rfl rfl rfl) rfl rfl rfl fun a S => ?_
    refine r_alloc S H rfl Try.zeroValue40 rfl rfl rfl rfl fun a w b14 S H => ?_
    refine r_store (vs := [.slice A10 ((D).1.length) c11, .slice A12 ((D).2.length) c13]) 0 S H rfl rfl rfl rfl Try.sizeOf40 rfl rfl (by simp [Value.oneCell']) rfl rfl rfl rfl rfl fun w H => ?_
    refine r_y S H (y_assign S rfl rfl) rfl rfl rfl fun a S => ?_
    refine r_nil ?_
    refine x_then ?_
    refine r_seq ?_
    refine r_seq ?_
    refine wp_via (J := fun a w => Slots a 124 [(0, .agg #[.int .i64 n, .slice A es.length c]), (1, .int .i64 wh), (2, .int .u32 ((s0 : Nat) : Int)), (3, .int .i64 ((J : Nat) : Int)), (4, .pointer (some ⟨b1, 0, none⟩)), (8, .bool false), (9, .bool true), (10, .pointer (some ⟨b4, 0, none⟩)), (11, .pointer (some ⟨b9, 0, none⟩)), (12, .int .i64 (Tr.err (Tr.may k (s0 % m) ((m : Nat) : Int) gl && decide (0 ≤ ((J : Nat) : Int))))), (13, .pointer (some ⟨b14, 0, none⟩)), (14, .int .i64 (Tr.err (Tr.may k (s0 % m) ((m : Nat) : Int) gl && decide (0 ≤ ((J + 1 : Nat) : Int))))), (17, .bool true), (18, .agg #[.int .i64 n, .slice A es.length c]), (19, .agg #[.int .i64 ((m : Nat) : Int), .slice A2 gl.length c3]), (20, .pointer (some ⟨b1, 0, none⟩)), (21, .int .i64 ((m : Nat) : Int)), (22, .bool (decide (((m : Nat) : Int) = 0))), (24, .int .i64 wh), (25, .int .i64 (wh % 65536)), (26, .int .i64 ((wh % 65536) % 3)), (27, .int .i64 k), (28, .int .u32 ((s0 : Nat) : Int)), (29, .pointer (some ⟨b1, 0, none⟩)), (30, .int .i64 ((m : Nat) : Int)), (31, .int .u32 ((m : Nat) : Int)), (32, .int .u32 ((s0 % m : Nat) : Int)), (33, .agg #[.int .i64 k, .int .u32 ((s0 % m : Nat) : Int)]), (34, .int .i64 j), (35, .int .i64 ((J : Nat) : Int)), (36, .tuple #[.agg #[.slice A5 ((C).1.length) c6, .slice A7 ((C).2.length) c8], .int .i64 (Tr.err (Tr.may k (s0 % m) ((m : Nat) : Int) gl && decide (0 ≤ ((J : Nat) : Int))))]), (37, .agg #[.int .i64 k, .int .u32 ((s0 % m : Nat) : Int)]), (38, .agg #[.int .i64 ((m : Nat) : Int), .slice A2 gl.length c3]), (39, .int .i64 ((J : Nat) : Int)), (40, .tuple #[.agg #[.slice A5 ((C).1.length) c6, .slice A7 ((C).2.length) c8], .int .i64 (Tr.err (Tr.may k (s0 % m) ((m : Nat) : Int) gl && decide (0 ≤ ((J : Nat) : Int))))]), (41, .agg #[.slice A5 ((C).1.length) c6, .slice A7 ((C).2.length) c8]), (42, .int .i64 (Tr.err (Tr.may k (s0 % m) ((m : Nat) : Int) gl && decide (0 ≤ ((J : Nat) : Int))))), (43, .tuple #[.agg #[.slice A10 ((D).1.length) c11, .slice A12 ((D).2.length) c13], .int .i64 (Tr.err (Tr.may k (s0 % m) ((m : Nat) : Int) gl && decide (0 ≤ ((J + 1 : Nat) : Int))))]), (44, .agg #[.int .i64 k, .int .u32 ((s0 % m : Nat) : Int)]), (45, .agg #[.int .i64 ((m : Nat) : Int), .slice A2 gl.length c3]), (46, .int .i64 ((J : Nat) : Int)), (47, .int .i64 ((J + 1 : Nat) : Int)), (48, .tuple #[.agg #[.slice A10 ((D).1.length) c11, .slice A12 ((D).2.length) c13], .int .i64 (Tr.err (Tr.may k (s0 % m) ((m : Nat) : Int) gl && decide (0 ≤ ((J + 1 : Nat) : Int))))]), (49, .agg #[.slice A10 ((D).1.length) c11, .slice A12 ((D).2.length) c13]), (50, .int .i64 (Tr.err (Tr.may k (s0 % m) ((m : Nat) : Int) gl && decide (0 ≤ ((J + 1 : Nat) : Int))))), (80, .bool false)] ∧ Sat w (blk b14 (.cells #[.slice A10 ((D).1.length) c11, .slice A12 ((D).2.length) c13] 40) :: row 25 1 (.slice A10 ((D).1.length) c11) ((D).1.length) (u64s (D).1) :: row 4 1 (.slice A12 ((D).2.length) c13) ((D).2.length) (bools (D).2) :: blk b9 (.cells #[.slice A5 ((C).1.length) c6, .slice A7 ((C).2.length) c8] 40) :: row 25 1 (.slice A5 ((C).1.length) c6) ((C).1.length) (u64s (C).1) :: row 4 1 (.slice A7 ((C).2.length) c8) ((C).2.length) (bools (C).2) :: blk b4 (.cells #[.int .i64 k, .int .u32 ((s0 % m : Nat) : Int)] 24) :: row 47 3 (.slice A2 gl.length c3) gl.length (ecells gl) :: blk b1 (.cells #[.int .i64 ((m : Nat) : Int), .slice A2 gl.length c3] 35) :: fr)) ?_ (fun a w hm => ?_)
    · skip
      refine r_region ?_
      refine r_y S H (y_move S rfl rfl) rfl rfl rfl fun a S => ?_
      refine r_y S H (y_ne S rfl rfl rfl) rfl rfl rfl fun a S => ?_
      have S := S.retell (v' := .bool false) 52 rfl (by rw [hmay, decide_eq_true (Int.natCast_nonneg _)]; rfl)
      refine r_y S H (y_move S rfl rfl) rfl rfl rfl fun a S => ?_
      refine r_y S H (y_move S rfl rfl) rfl rfl rfl fun a S => ?_
      refine r_y S H (y_ne S rfl rfl rfl) rfl rfl rfl fun a S => ?_
      have S := S.retell (v' := .bool false) 55 rfl (by rw [hmay, decide_eq_true (Int.natCast_nonneg _)]; rfl)
      refine r_y S H (y_pickF S rfl rfl rfl) rfl rfl rfl fun a S => ?_
      refine r_y S H (y_move S rfl rfl) rfl rfl rfl fun a S => ?_
      refine r_y S H (y_fieldAddr S rfl rfl fa40_0) rfl rfl rfl fun a S => ?_
      refine r_y S H (y_load 3 S rfl rfl Try.isAgg37 rfl rfl) rfl rfl rfl fun a S => ?_
      refine r_y S H (y_len S rfl rfl Try.underlying37) rfl rfl rfl fun a S => ?_
      refine r_y S H (y_fieldAddr S rfl rfl fa35_0) rfl rfl rfl fun a S => ?_
      refine r_y S H (y_load 8 S rfl rfl Try.isAgg3 rfl rfl) rfl rfl rfl fun a S => ?_
      refine r_y S H (y_ne S rfl rfl rfl) rfl rfl rfl fun a S => ?_
      have S := S.retell (v' := .bool false) 63 rfl (by rw [hla]; simp)
      refine r_y S H (y_pickF S rfl rfl rfl) rfl rfl rfl fun a S => ?_
      refine r_y S H (y_move S rfl rfl) rfl rfl rfl fun a S => ?_
      refine r_y S H (y_fieldAddr S rfl rfl fa40_0) rfl rfl rfl fun a S => ?_
      refine r_y S H (y_load 0 S rfl rfl Try.isAgg37 rfl rfl) rfl rfl rfl fun a S => ?_
      refine r_y S H (y_len S rfl rfl Try.underlying37) rfl rfl rfl fun a S => ?_
      refine r_y S H (y_fieldAddr S rfl rfl fa35_0) rfl rfl rfl fun a S => ?_
      refine r_y S H (y_load 8 S rfl rfl Try.isAgg3 rfl rfl) rfl rfl rfl fun a S => ?_
      refine r_y S H (y_ne S rfl rfl rfl) rfl rfl rfl fun a S => ?_
      have S := S.retell (v' := .bool false) 71 rfl (by rw [hlb]; simp)
      refine r_y S H (y_pickF S rfl rfl rfl) rfl rfl rfl fun a S => ?_
      refine r_y S H (y_move S rfl rfl) rfl rfl rfl fun a S => ?_
      refine r_y S H (y_fieldAddr S rfl rfl fa40_1) rfl rfl rfl fun a S => ?_
      refine r_y S H (y_load 0 S rfl rfl Try.isAgg38 rfl rfl) rfl rfl rfl fun a S => ?_
      refine r_y S H (y_len S rfl rfl Try.underlying38) rfl rfl rfl fun a S => ?_
      refine r_y S H (y_fieldAddr S rfl rfl fa35_0) rfl rfl rfl fun a S => ?_
      refine r_y S H (y_load 8 S rfl rfl Try.isAgg3 rfl rfl) rfl rfl rfl fun a S => ?_
      refine r_y S H (y_ne S rfl rfl rfl) rfl rfl rfl fun a S => ?_
      have S := S.retell (v' := .bool false) 79 rfl (by rw [hlb2]; simp)
      refine r_y S H (y_pickF S rfl rfl rfl) rfl rfl rfl fun a S => ?_
      refine r_nil ?_
      refine x_then ?_
      exact ⟨S.sub ⟨rfl, rfl, rfl, rfl, rfl, rfl, rfl, rfl, rfl, rfl, rfl, rfl, rfl, rfl, rfl, rfl, rfl, rfl, rfl, rfl, rfl, rfl, rfl, rfl, rfl, rfl, rfl, rfl, rfl, rfl, rfl, rfl, rfl, rfl, rfl, rfl, rfl, rfl, rfl, rfl, rfl, rfl, rfl, rfl, rfl, rfl, trivial⟩, H⟩
    obtain ⟨S, H⟩ := hm
    refine x_then ?_
    refine r_condF S rfl ?_
    refine wp_skip ?_
    refine x_then ?_
    refine r_seq ?_
    refine r_region ?_
    refine r_y S H (y_loadAgg [_, _] 3 S rfl rfl (fun w => ⟨Try.isAgg40 w, Try.sizeOf40 w⟩) rfl rfl ⟨rfl, rfl, trivial⟩) rfl rfl rfl fun a S => ?_
    refine r_call (args := #[.agg #[.slice A5 ((C).1.length) c6, .slice A7 ((C).2.length) c8]]) S rfl rfl Try.call25 (quiet_ct (H := H) _ _ _ _ ((C).1) (SlOk.ofRow (i := 4) H rfl) _ _ ((C).2) (SlOk.ofRow (i := 5) H rfl)) rfl rfl rfl fun v a w hR S => ?_
    obtain ⟨rfl, H⟩ := hR
    refine r_y S H (y_assign S rfl rfl) rfl rfl rfl fun a S => ?_
    refine r_nil ?_
    refine x_then ?_
    refine r_seq ?_
    refine r_seq ?_
    refine r_region ?_
    refine r_y S H (y_assign S rfl rfl) rfl rfl rfl fun a S => ?_
    refine r_nil ?_
    refine x_then ?_
    refine r_block ?_
    refine r_loop (ι := Nat) (fun q a w => Slots a 124 [(0, .agg #[.int .i64 n, .slice A es.length c]), (1, .int .i64 wh), (2, .int .u32 ((s0 : Nat) : Int)), (3, .int .i64 ((J : Nat) : Int)), (4, .pointer (some ⟨b1, 0, none⟩)), (9, .bool true), (10, .pointer (some ⟨b4, 0, none⟩)), (11, .pointer (some ⟨b9, 0, none⟩)), (12, .int .i64 (Tr.err (Tr.may k (s0 % m) ((m : Nat) : Int) gl && decide (0 ≤ ((J : Nat) : Int))))), (13, .pointer (some ⟨b14, 0, none⟩)), (14, .int .i64 (Tr.err (Tr.may k (s0 % m) ((m : Nat) : Int) gl && decide (0 ≤ ((J + 1 : Nat) : Int))))), (15, .bool (quiet ((C).2))), (16, .int .i64 ((q : Nat) : Int)), (17, .bool true), (18, .agg #[.int .i64 n, .slice A es.length c]), (19, .agg #[.int .i64 ((m : Nat) : Int), .slice A2 gl.length c3]), (20, .pointer (some ⟨b1, 0, none⟩)), (21, .int .i64 ((m : Nat) : Int)), (22, .bool (decide (((m : Nat) : Int) = 0))), (24, .int .i64 wh), (25, .int .i64 (wh % 65536)), (26, .int .i64 ((wh % 65536) % 3)), (27, .int .i64 k), (28, .int .u32 ((s0 : Nat) : Int)), (29, .pointer (some ⟨b1, 0, none⟩)), (30, .int .i64 ((m : Nat) : Int)), (31, .int .u32 ((m : Nat) : Int)), (32, .int .u32 ((s0 % m : Nat) : Int)), (33, .agg #[.int .i64 k, .int .u32 ((s0 % m : Nat) : Int)]), (34, .int .i64 j), (35, .int .i64 ((J : Nat) : Int)), (36, .tuple #[.agg #[.slice A5 ((C).1.length) c6, .slice A7 ((C).2.length) c8], .int .i64 (Tr.err (Tr.may k (s0 % m) ((m : Nat) : Int) gl && decide (0 ≤ ((J : Nat) : Int))))]), (37, .agg #[.int .i64 k, .int .u32 ((s0 % m : Nat) : Int)]), (38, .agg #[.int .i64 ((m : Nat) : Int), .slice A2 gl.length c3]), (39, .int .i64 ((J : Nat) : Int)), (40, .tuple #[.agg #[.slice A5 ((C).1.length) c6, .slice A7 ((C).2.length) c8], .int .i64 (Tr.err (Tr.may k (s0 % m) ((m : Nat) : Int) gl && decide (0 ≤ ((J : Nat) : Int))))]), (41, .agg #[.slice A5 ((C).1.length) c6, .slice A7 ((C).2.length) c8]), (42, .int .i64 (Tr.err (Tr.may k (s0 % m) ((m : Nat) : Int) gl && decide (0 ≤ ((J : Nat) : Int))))), (43, .tuple #[.agg #[.slice A10 ((D).1.length) c11, .slice A12 ((D).2.length) c13], .int .i64 (Tr.err (Tr.may k (s0 % m) ((m : Nat) : Int) gl && decide (0 ≤ ((J + 1 : Nat) : Int))))]), (44, .agg #[.int .i64 k, .int .u32 ((s0 % m : Nat) : Int)]), (45, .agg #[.int .i64 ((m : Nat) : Int), .slice A2 gl.length c3]), (46, .int .i64 ((J : Nat) : Int)), (47, .int .i64 ((J + 1 : Nat) : Int)), (48, .tuple #[.agg #[.slice A10 ((D).1.length) c11, .slice A12 ((D).2.length) c13], .int .i64 (Tr.err (Tr.may k (s0 % m) ((m : Nat) : Int) gl && decide (0 ≤ ((J + 1 : Nat) : Int))))]), (49, .agg #[.slice A10 ((D).1.length) c11, .slice A12 ((D).2.length) c13]), (50, .int .i64 (Tr.err (Tr.may k (s0 % m) ((m : Nat) : Int) gl && decide (0 ≤ ((J + 1 : Nat) : Int))))), (80, .bool false), (81, .agg #[.slice A5 ((C).1.length) c6, .slice A7 ((C).2.length) c8]), (82, .bool (quiet ((C).2)))] ∧ Sat w (blk b14 (.cells #[.slice A10 ((D).1.length) c11, .slice A12 ((D).2.length) c13] 40) :: row 25 1 (.slice A10 ((D).1.length) c11) ((D).1.length) (u64s (D).1) :: row 4 1 (.slice A12 ((D).2.length) c13) ((D).2.length) (bools (D).2) :: blk b9 (.cells #[.slice A5 ((C).1.length) c6, .slice A7 ((C).2.length) c8] 40) :: row 25 1 (.slice A5 ((C).1.length) c6) ((C).1.length) (u64s (C).1) :: row 4 1 (.slice A7 ((C).2.length) c8) ((C).2.length) (bools (C).2) :: blk b4 (.cells #[.int .i64 k, .int .u32 ((s0 % m : Nat) : Int)] 24) :: row 47 3 (.slice A2 gl.length c3) gl.length (ecells gl) :: blk b1 (.cells #[.int .i64 ((m : Nat) : Int), .slice A2 gl.length c3] 35) :: fr) ∧ (q ≤ m)) (fun q => m - q) 0 ⟨S.sub ⟨rfl, rfl, rfl, rfl, rfl, rfl, rfl, rfl, rfl, rfl, rfl, rfl, rfl, rfl, rfl, rfl, rfl, rfl, rfl, rfl, rfl, rfl, rfl, rfl, rfl, rfl, rfl, rfl, rfl, rfl, rfl, rfl, rfl, rfl, rfl, rfl, rfl, rfl, rfl, rfl, rfl, rfl, rfl, rfl, rfl, rfl, rfl, rfl, rfl, trivial⟩, H, Nat.zero_le _⟩ (fun q a w hI => ?_)
    obtain ⟨S, H, hI⟩ := hI
    have hq1 := hI
    refine r_seq ?_
    refine r_seq ?_
    refine r_region ?_
    refine r_y S H (y_move S rfl rfl) rfl rfl rfl fun a S => ?_
    refine r_y S H (y_fieldAddr S rfl rfl fa35_0) rfl rfl rfl fun a S => ?_
    refine r_y S H (y_load 8 S rfl rfl Try.isAgg3 rfl rfl) rfl rfl rfl fun a S => ?_
    refine r_y S H (y_lt S rfl rfl rfl) rfl rfl rfl fun a S => ?_
    refine r_nil ?_
    refine x_then ?_
    refine r_test S rfl (fun h86 => ?_) (fun h86 => ?_)
    · skip
      refine wp_skip ?_
      refine x_then ?_
      refine r_seq ?_
      refine r_block ?_
      refine r_seq ?_
      refine r_quiet (n := 124) (E' := [(0, .agg #[.int .i64 n, .slice A es.length c]), (1, .int .i64 wh), (2, .int .u32 ((s0 : Nat) : Int)), (3, .int .i64 ((J : Nat) : Int)), (4, .pointer (some ⟨b1, 0, none⟩)), (9, .bool true), (10, .pointer (some ⟨b4, 0, none⟩)), (11, .pointer (some ⟨b9, 0, none⟩)), (12, .int .i64 (Tr.err (Tr.may k (s0 % m) ((m : Nat) : Int) gl && decide (0 ≤ ((J : Nat) : Int))))), (13, .pointer (some ⟨b14, 0, none⟩)), (14, .int .i64 (Tr.err (Tr.may k (s0 % m) ((m : Nat) : Int) gl && decide (0 ≤ ((J + 1 : Nat) : Int))))), (15, .bool (quiet ((C).2))), (16, .int .i64 ((q : Nat) : Int)), (17, .bool true), (18, .agg #[.int .i64 n, .slice A es.length c]), (19, .agg #[.int .i64 ((m : Nat) : Int), .slice A2 gl.length c3]), (20, .pointer (some ⟨b1, 0, none⟩)), (21, .int .i64 ((m : Nat) : Int)), (22, .bool (decide (((m : Nat) : Int) = 0))), (24, .int .i64 wh), (25, .int .i64 (wh % 65536)), (26, .int .i64 ((wh % 65536) % 3)), (27, .int .i64 k), (28, .int .u32 ((s0 : Nat) : Int)), (29, .pointer (some ⟨b1, 0, none⟩)), (30, .int .i64 ((m : Nat) : Int)), (31, .int .u32 ((m : Nat) : Int)), (32, .int .u32 ((s0 % m : Nat) : Int)), (33, .agg #[.int .i64 k, .int .u32 ((s0 % m : Nat) : Int)]), (34, .int .i64 j), (35, .int .i64 ((J : Nat) : Int)), (36, .tuple #[.agg #[.slice A5 ((C).1.length) c6, .slice A7 ((C).2.length) c8], .int .i64 (Tr.err (Tr.may k (s0 % m) ((m : Nat) : Int) gl && decide (0 ≤ ((J : Nat) : Int))))]), (37, .agg #[.int .i64 k, .int .u32 ((s0 % m : Nat) : Int)]), (38, .agg #[.int .i64 ((m : Nat) : Int), .slice A2 gl.length c3]), (39, .int .i64 ((J : Nat) : Int)), (40, .tuple #[.agg #[.slice A5 ((C).1.length) c6, .slice A7 ((C).2.length) c8], .int .i64 (Tr.err (Tr.may k (s0 % m) ((m : Nat) : Int) gl && decide (0 ≤ ((J : Nat) : Int))))]), (41, .agg #[.slice A5 ((C).1.length) c6, .slice A7 ((C).2.length) c8]), (42, .int .i64 (Tr.err (Tr.may k (s0 % m) ((m : Nat) : Int) gl && decide (0 ≤ ((J : Nat) : Int))))), (43, .tuple #[.agg #[.slice A10 ((D).1.length) c11, .slice A12 ((D).2.length) c13], .int .i64 (Tr.err (Tr.may k (s0 % m) ((m : Nat) : Int) gl && decide (0 ≤ ((J + 1 : Nat) : Int))))]), (44, .agg #[.int .i64 k, .int .u32 ((s0 % m : Nat) : Int)]), (45, .agg #[.int .i64 ((m : Nat) : Int), .slice A2 gl.length c3]), (46, .int .i64 ((J : Nat) : Int)), (47, .int .i64 ((J + 1 : Nat) : Int)), (48, .tuple #[.agg #[.slice A10 ((D).1.length) c11, .slice A12 ((D).2.length) c13], .int .i64 (Tr.err (Tr.may k (s0 % m) ((m : Nat) : Int) gl && decide (0 ≤ ((J + 1 : Nat) : Int))))]), (49, .agg #[.slice A10 ((D).1.length) c11, .slice A12 ((D).2.length) c13]), (50, .int .i64 (Tr.err (Tr.may k (s0 % m) ((m : Nat) : Int) gl && decide (0 ≤ ((J + 1 : Nat) : Int))))), (80, .bool false), (81, .agg #[.slice A5 ((C).1.length) c6, .slice A7 ((C).2.length) c8]), (82, .bool (quiet ((C).2))), (83, .int .i64 ((q : Nat) : Int)), (84, .pointer (some ⟨b1, 0, none⟩)), (85, .int .i64 ((m : Nat) : Int)), (86, .bool (decide (((q : Nat) : Int) < ((m : Nat) : Int)))), (122, .bool ((decide (((((C).1).getD q 0 : Nat) : Int) < ((((D).1).getD q 0 : Nat) : Int))) || ((!(quiet ((C).2))) && ((((D).2).getD q false) != (decide (((((D).1).getD q 0 : Nat) : Int) < ((((C).1).getD q 0 : Nat) : Int)))))))]) H rfl (by kernel_rfl) ?_ (fun a w S H => ?_)
      · skip
        refine q_y S (y_fieldAddr S rfl rfl fa40_0) rfl rfl rfl fun a S => ?_
        refine q_y S (y_load 0 S rfl rfl Try.isAgg37 rfl rfl) rfl rfl rfl fun a S => ?_
        refine q_y S (y_move S rfl rfl) rfl rfl rfl fun a S => ?_
        obtain ⟨b21, rfl⟩ := H.rowAt (i := 1) rfl (by first | omega | (simp <;> omega))
        refine q_y S (y_index S rfl rfl rfl Try.underlying37 Try.sizeOf25 (by omega) (by omega)) rfl rfl rfl fun a S => ?_
        refine q_y S (y_loadAt S rfl rfl Try.isAgg25 (fun w H => (SlOk.ofRow (i := 1) H rfl).cell w H (u64s_at (i := q) (by first | omega | (simp <;> omega))))) rfl rfl rfl fun a S => ?_
        refine q_y S (y_fieldAddr S rfl rfl fa40_0) rfl rfl rfl fun a S => ?_
        refine q_y S (y_load 3 S rfl rfl Try.isAgg37 rfl rfl) rfl rfl rfl fun a S => ?_
        refine q_y S (y_move S rfl rfl) rfl rfl rfl fun a S => ?_
        obtain ⟨b23, rfl⟩ := H.rowAt (i := 4) rfl (by first | omega | (simp <;> omega))
        refine q_y S (y_index S rfl rfl rfl Try.underlying37 Try.sizeOf25 (by omega) (by omega)) rfl rfl rfl fun a S => ?_
        refine q_y S (y_loadAt S rfl rfl Try.isAgg25 (fun w H => (SlOk.ofRow (i := 4) H rfl).cell w H (u64s_at (i := q) (by first | omega | (simp <;> omega))))) rfl rfl rfl fun a S => ?_
        refine q_y S (y_gt S rfl rfl rfl) rfl rfl rfl fun a S => ?_
        refine q_y S (y_move S rfl rfl) rfl rfl rfl fun a S => ?_
        refine splitP S (d := 100) rfl (fun g100 S => ?_) (fun g100 S => ?_)
        · skip
          refine q_skip S rfl rfl rfl fun a S => ?_
          refine q_skip S rfl rfl rfl fun a S => ?_
          refine q_skip S rfl rfl rfl fun a S => ?_
          refine q_skip S rfl rfl rfl fun a S => ?_
          refine q_skip S rfl rfl rfl fun a S => ?_
          refine q_skip S rfl rfl rfl fun a S => ?_
          refine q_skip S rfl rfl rfl fun a S => ?_
          refine q_skip S rfl rfl rfl fun a S => ?_
          refine q_skip S rfl rfl rfl fun a S => ?_
          refine q_skip S rfl rfl rfl fun a S => ?_
          refine q_skip S rfl rfl rfl fun a S => ?_
          refine q_skip S rfl rfl rfl fun a S => ?_
          refine q_skip S rfl rfl rfl fun a S => ?_
          refine q_skip S rfl rfl rfl fun a S => ?_
          refine q_skip S rfl rfl rfl fun a S => ?_
          refine q_skip S rfl rfl rfl fun a S => ?_
          refine q_skip S rfl rfl rfl fun a S => ?_
          refine q_skip S rfl rfl rfl fun a S => ?_
          refine q_skip S rfl rfl rfl fun a S => ?_
          refine q_skip S rfl rfl rfl fun a S => ?_
          refine q_skip S rfl rfl rfl fun a S => ?_
          refine q_y S (y_pickT S rfl rfl rfl) rfl rfl rfl fun a S => ?_
          exact q_nil (S.sub ⟨rfl, rfl, rfl, rfl, rfl, rfl, rfl, rfl, rfl, rfl, rfl, rfl, rfl, rfl, rfl, rfl, rfl, rfl, rfl, rfl, rfl, rfl, rfl, rfl, rfl, rfl, rfl, rfl, rfl, rfl, rfl, (show lk _ _ = some (.tuple #[.agg #[.slice (some ⟨b23, 0, none⟩) ((C).1.length) c6, .slice A7 ((C).2.length) c8], .int .i64 (Tr.err (Tr.may k (s0 % m) ((m : Nat) : Int) gl && decide (0 ≤ ((J : Nat) : Int))))]) from rfl).trans (by first | (simp only [g100, decide_true, decide_false, Bool.true_and, Bool.false_and, Bool.true_or, Bool.false_or]; done) | (simp [-List.getD_eq_getElem?_getD, g100]; done) | (simp [-List.getD_eq_getElem?_getD, g100]; omega)), rfl, rfl, rfl, (show lk _ _ = some (.tuple #[.agg #[.slice (some ⟨b23, 0, none⟩) ((C).1.length) c6, .slice A7 ((C).2.length) c8], .int .i64 (Tr.err (Tr.may k (s0 % m) ((m : Nat) : Int) gl && decide (0 ≤ ((J : Nat) : Int))))]) from rfl).trans (by first | (simp only [g100, decide_true, decide_false, Bool.true_and, Bool.false_and, Bool.true_or, Bool.false_or]; done) | (simp [-List.getD_eq_getElem?_getD, g100]; done) | (simp [-List.getD_eq_getElem?_getD, g100]; omega)), (show lk _ _ = some (.agg #[.slice (some ⟨b23, 0, none⟩) ((C).1.length) c6, .slice A7 ((C).2.length) c8]) from rfl).trans (by first | (simp only [g100, decide_true, decide_false, Bool.true_and, Bool.false_and, Bool.true_or, Bool.false_or]; done) | (simp [-List.getD_eq_getElem?_getD, g100]; done) | (simp [-List.getD_eq_getElem?_getD, g100]; omega)), rfl, (show lk _ _ = some (.tuple #[.agg #[.slice (some ⟨b21, 0, none⟩) ((D).1.length) c11, .slice A12 ((D).2.length) c13], .int .i64 (Tr.err (Tr.may k (s0 % m) ((m : Nat) : Int) gl && decide (0 ≤ ((J + 1 : Nat) : Int))))]) from rfl).trans (by first | (simp only [g100, decide_true, decide_false, Bool.true_and, Bool.false_and, Bool.true_or, Bool.false_or]; done) | (simp [-List.getD_eq_getElem?_getD, g100]; done) | (simp [-List.getD_eq_getElem?_getD, g100]; omega)), rfl, rfl, rfl, rfl, (show lk _ _ = some (.tuple #[.agg #[.slice (some ⟨b21, 0, none⟩) ((D).1.length) c11, .slice A12 ((D).2.length) c13], .int .i64 (Tr.err (Tr.may k (s0 % m) ((m : Nat) : Int) gl && decide (0 ≤ ((J + 1 : Nat) : Int))))]) from rfl).trans (by first | (simp only [g100, decide_true, decide_false, Bool.true_and, Bool.false_and, Bool.true_or, Bool.false_or]; done) | (simp [-List.getD_eq_getElem?_getD, g100]; done) | (simp [-List.getD_eq_getElem?_getD, g100]; omega)), (show lk _ _ = some (.agg #[.slice (some ⟨b21, 0, none⟩) ((D).1.length) c11, .slice A12 ((D).2.length) c13]) from rfl).trans (by first | (simp only [g100, decide_true, decide_false, Bool.true_and, Bool.false_and, Bool.true_or, Bool.false_or]; done) | (simp [-List.getD_eq_getElem?_getD, g100]; done) | (simp [-List.getD_eq_getElem?_getD, g100]; omega)), rfl, rfl, (show lk _ _ = some (.agg #[.slice (some ⟨b23, 0, none⟩) ((C).1.length) c6, .slice A7 ((C).2.length) c8]) from rfl).trans (by first | (simp only [g100, decide_true, decide_false, Bool.true_and, Bool.false_and, Bool.true_or, Bool.false_or]; done) | (simp [-List.getD_eq_getElem?_getD, g100]; done) | (simp [-List.getD_eq_getElem?_getD, g100]; omega)), rfl, rfl, rfl, rfl, rfl, (show lk _ _ = some (.bool true) from rfl).trans (by first | (simp only [g100, decide_true, decide_false, Bool.true_and, Bool.false_and, Bool.true_or, Bool.false_or]; done) | (simp [-List.getD_eq_getElem?_getD, g100]; done) | (simp [-List.getD_eq_getElem?_getD, g100]; omega)), trivial⟩)
        · skip
          refine q_y S (y_move S rfl rfl) rfl rfl rfl fun a S => ?_
          refine q_y S (y_not S rfl rfl) rfl rfl rfl fun a S => ?_
          refine q_y S (y_move S rfl rfl) rfl rfl rfl fun a S => ?_
          refine splitB S (d := 103) rfl (fun g103 S => ?_) (fun g103 S => ?_)
          · skip
            refine q_y S (y_fieldAddr S rfl rfl fa40_1) rfl rfl rfl fun a S => ?_
            refine q_y S (y_load 0 S rfl rfl Try.isAgg38 rfl rfl) rfl rfl rfl fun a S => ?_
            refine q_y S (y_move S rfl rfl) rfl rfl rfl fun a S => ?_
            obtain ⟨b25, rfl⟩ := H.rowAt (i := 2) rfl (by first | omega | (simp <;> omega))
            refine q_y S (y_index S rfl rfl rfl Try.underlying38 Try.sizeOf4 (by omega) (by omega)) rfl rfl rfl fun a S => ?_
            refine q_y S (y_loadAt S rfl rfl Try.isAgg4 (fun w H => (SlOk.ofRow (i := 2) H rfl).cell w H (bools_at (i := q) (by first | omega | (simp <;> omega))))) rfl rfl rfl fun a S => ?_
            refine q_y S (y_fieldAddr S rfl rfl fa40_0) rfl rfl rfl fun a S => ?_
            refine q_y S (y_load 0 S rfl rfl Try.isAgg37 rfl rfl) rfl rfl rfl fun a S => ?_
            refine q_y S (y_move S rfl rfl) rfl rfl rfl fun a S => ?_
            refine q_y S (y_index S rfl rfl rfl Try.underlying37 Try.sizeOf25 (by omega) (by omega)) rfl rfl rfl fun a S => ?_
            refine q_y S (y_loadAt S rfl rfl Try.isAgg25 (fun w H => (SlOk.ofRow (i := 1) H rfl).cell w H (u64s_at (i := q) (by first | omega | (simp <;> omega))))) rfl rfl rfl fun a S => ?_
            refine q_y S (y_fieldAddr S rfl rfl fa40_0) rfl rfl rfl fun a S => ?_
            refine q_y S (y_load 3 S rfl rfl Try.isAgg37 rfl rfl) rfl rfl rfl fun a S => ?_
            refine q_y S (y_move S rfl rfl) rfl rfl rfl fun a S => ?_
            refine q_y S (y_index S rfl rfl rfl Try.underlying37 Try.sizeOf25 (by omega) (by omega)) rfl rfl rfl fun a S => ?_
            refine q_y S (y_loadAt S rfl rfl Try.isAgg25 (fun w H => (SlOk.ofRow (i := 4) H rfl).cell w H (u64s_at (i := q) (by first | omega | (simp <;> omega))))) rfl rfl rfl fun a S => ?_
            refine q_y S (y_lt S rfl rfl rfl) rfl rfl rfl fun a S => ?_
            refine q_y S (y_neB S rfl rfl rfl Try.underlying4) rfl rfl rfl fun a S => ?_
            refine q_y S (y_pickT S rfl rfl rfl) rfl rfl rfl fun a S => ?_
            refine q_y S (y_pickF S rfl rfl rfl) rfl rfl rfl fun a S => ?_
            exact q_nil (S.sub ⟨rfl, rfl, rfl, rfl, rfl, rfl, rfl, rfl, rfl, rfl, rfl, rfl, rfl, rfl, rfl, rfl, rfl, rfl, rfl, rfl, rfl, rfl, rfl, rfl, rfl, rfl, rfl, rfl, rfl, rfl, rfl, (show lk _ _ = some (.tuple #[.agg #[.slice (some ⟨b23, 0, none⟩) ((C).1.length) c6, .slice A7 ((C).2.length) c8], .int .i64 (Tr.err (Tr.may k (s0 % m) ((m : Nat) : Int) gl && decide (0 ≤ ((J : Nat) : Int))))]) from rfl).trans (by first | (simp only [g100, g103, decide_true, decide_false, Bool.true_and, Bool.false_and, Bool.true_or, Bool.false_or]; done) | (simp [-List.getD_eq_getElem?_getD, g100, g103]; done) | (simp [-List.getD_eq_getElem?_getD, g100, g103]; omega)), rfl, rfl, rfl, (show lk _ _ = some (.tuple #[.agg #[.slice (some ⟨b23, 0, none⟩) ((C).1.length) c6, .slice A7 ((C).2.length) c8], .int .i64 (Tr.err (Tr.may k (s0 % m) ((m : Nat) : Int) gl && decide (0 ≤ ((J : Nat) : Int))))]) from rfl).trans (by first | (simp only [g100, g103, decide_true, decide_false, Bool.true_and, Bool.false_and, Bool.true_or, Bool.false_or]; done) | (simp [-List.getD_eq_getElem?_getD, g100, g103]; done) | (simp [-List.getD_eq_getElem?_getD, g100, g103]; omega)), (show lk _ _ = some (.agg #[.slice (some ⟨b23, 0, none⟩) ((C).1.length) c6, .slice A7 ((C).2.length) c8]) from rfl).trans (by first | (simp only [g100, g103, decide_true, decide_false, Bool.true_and, Bool.false_and, Bool.true_or, Bool.false_or]; done) | (simp [-List.getD_eq_getElem?_getD, g100, g103]; done) | (simp [-List.getD_eq_getElem?_getD, g100, g103]; omega)), rfl, (show lk _ _ = some (.tuple #[.agg #[.slice (some ⟨b21, 0, none⟩) ((D).1.length) c11, .slice (some ⟨b25, 0, none⟩) ((D).2.length) c13], .int .i64 (Tr.err (Tr.may k (s0 % m) ((m : Nat) : Int) gl && decide (0 ≤ ((J + 1 : Nat) : Int))))]) from rfl).trans (by first | (simp only [g100, g103, decide_true, decide_false, Bool.true_and, Bool.false_and, Bool.true_or, Bool.false_or]; done) | (simp [-List.getD_eq_getElem?_getD, g100, g103]; done) | (simp [-List.getD_eq_getElem?_getD, g100, g103]; omega)), rfl, rfl, rfl, rfl, (show lk _ _ = some (.tuple #[.agg #[.slice (some ⟨b21, 0, none⟩) ((D).1.length) c11, .slice (some ⟨b25, 0, none⟩) ((D).2.length) c13], .int .i64 (Tr.err (Tr.may k (s0 % m) ((m : Nat) : Int) gl && decide (0 ≤ ((J + 1 : Nat) : Int))))]) from rfl).trans (by first | (simp only [g100, g103, decide_true, decide_false, Bool.true_and, Bool.false_and, Bool.true_or, Bool.false_or]; done) | (simp [-List.getD_eq_getElem?_getD, g100, g103]; done) | (simp [-List.getD_eq_getElem?_getD, g100, g103]; omega)), (show lk _ _ = some (.agg #[.slice (some ⟨b21, 0, none⟩) ((D).1.length) c11, .slice (some ⟨b25, 0, none⟩) ((D).2.length) c13]) from rfl).trans (by first | (simp only [g100, g103, decide_true, decide_false, Bool.true_and, Bool.false_and, Bool.true_or, Bool.false_or]; done) | (simp [-List.getD_eq_getElem?_getD, g100, g103]; done) | (simp [-List.getD_eq_getElem?_getD, g100, g103]; omega)), rfl, rfl, (show lk _ _ = some (.agg #[.slice (some ⟨b23, 0, none⟩) ((C).1.length) c6, .slice A7 ((C).2.length) c8]) from rfl).trans (by first | (simp only [g100, g103, decide_true, decide_false, Bool.true_and, Bool.false_and, Bool.true_or, Bool.false_or]; done) | (simp [-List.getD_eq_getElem?_getD, g100, g103]; done) | (simp [-List.getD_eq_getElem?_getD, g100, g103]; omega)), rfl, rfl, rfl, rfl, rfl, (show lk _ _ = some (.bool ((((D).2).getD q false) != (decide (((((D).1).getD q 0 : Nat) : Int) < ((((C).1).getD q 0 : Nat) : Int))))) from rfl).trans (by first | (simp only [g100, g103, decide_true, decide_false, Bool.true_and, Bool.false_and, Bool.true_or, Bool.false_or]; done) | (simp [-List.getD_eq_getElem?_getD, g100, g103]; done) | (simp [-List.getD_eq_getElem?_getD, g100, g103]; omega)), trivial⟩)
          · skip
            refine q_skip S rfl rfl rfl fun a S => ?_
            refine q_skip S rfl rfl rfl fun a S => ?_
            refine q_skip S rfl rfl rfl fun a S => ?_
            refine q_skip S rfl rfl rfl fun a S => ?_
            refine q_skip S rfl rfl rfl fun a S => ?_
            refine q_skip S rfl rfl rfl fun a S => ?_
            refine q_skip S rfl rfl rfl fun a S => ?_
            refine q_skip S rfl rfl rfl fun a S => ?_
            refine q_skip S rfl rfl rfl fun a S => ?_
            refine q_skip S rfl rfl rfl fun a S => ?_
            refine q_skip S rfl rfl rfl fun a S => ?_
            refine q_skip S rfl rfl rfl fun a S => ?_
            refine q_skip S rfl rfl rfl fun a S => ?_
            refine q_skip S rfl rfl rfl fun a S => ?_
            refine q_skip S rfl rfl rfl fun a S => ?_
            refine q_skip S rfl rfl rfl fun a S => ?_
            refine q_skip S rfl rfl rfl fun a S => ?_
            refine q_y S (y_pickF S rfl rfl rfl) rfl rfl rfl fun a S => ?_
            refine q_y S (y_pickF S rfl rfl rfl) rfl rfl rfl fun a S => ?_
            exact q_nil (S.sub ⟨rfl, rfl, rfl, rfl, rfl, rfl, rfl, rfl, rfl, rfl, rfl, rfl, rfl, rfl, rfl, rfl, rfl, rfl, rfl, rfl, rfl, rfl, rfl, rfl, rfl, rfl, rfl, rfl, rfl, rfl, rfl, (show lk _ _ = some (.tuple #[.agg #[.slice (some ⟨b23, 0, none⟩) ((C).1.length) c6, .slice A7 ((C).2.length) c8], .int .i64 (Tr.err (Tr.may k (s0 % m) ((m : Nat) : Int) gl && decide (0 ≤ ((J : Nat) : Int))))]) from rfl).trans (by first | (simp only [g100, g103, decide_true, decide_false, Bool.true_and, Bool.false_and, Bool.true_or, Bool.false_or]; done) | (simp [-List.getD_eq_getElem?_getD, g100, g103]; done) | (simp [-List.getD_eq_getElem?_getD, g100, g103]; omega)), rfl, rfl, rfl, (show lk _ _ = some (.tuple #[.agg #[.slice (some ⟨b23, 0, none⟩) ((C).1.length) c6, .slice A7 ((C).2.length) c8], .int .i64 (Tr.err (Tr.may k (s0 % m) ((m : Nat) : Int) gl && decide (0 ≤ ((J : Nat) : Int))))]) from rfl).trans (by first | (simp only [g100, g103, decide_true, decide_false, Bool.true_and, Bool.false_and, Bool.true_or, Bool.false_or]; done) | (simp [-List.getD_eq_getElem?_getD, g100, g103]; done) | (simp [-List.getD_eq_getElem?_getD, g100, g103]; omega)), (show lk _ _ = some (.agg #[.slice (some ⟨b23, 0, none⟩) ((C).1.length) c6, .slice A7 ((C).2.length) c8]) from rfl).trans (by first | (simp only [g100, g103, decide_true, decide_false, Bool.true_and, Bool.false_and, Bool.true_or, Bool.false_or]; done) | (simp [-List.getD_eq_getElem?_getD, g100, g103]; done) | (simp [-List.getD_eq_getElem?_getD, g100, g103]; omega)), rfl, (show lk _ _ = some (.tuple #[.agg #[.slice (some ⟨b21, 0, none⟩) ((D).1.length) c11, .slice A12 ((D).2.length) c13], .int .i64 (Tr.err (Tr.may k (s0 % m) ((m : Nat) : Int) gl && decide (0 ≤ ((J + 1 : Nat) : Int))))]) from rfl).trans (by first | (simp only [g100, g103, decide_true, decide_false, Bool.true_and, Bool.false_and, Bool.true_or, Bool.false_or]; done) | (simp [-List.getD_eq_getElem?_getD, g100, g103]; done) | (simp [-List.getD_eq_getElem?_getD, g100, g103]; omega)), rfl, rfl, rfl, rfl, (show lk _ _ = some (.tuple #[.agg #[.slice (some ⟨b21, 0, none⟩) ((D).1.length) c11, .slice A12 ((D).2.length) c13], .int .i64 (Tr.err (Tr.may k (s0 % m) ((m : Nat) : Int) gl && decide (0 ≤ ((J + 1 : Nat) : Int))))]) from rfl).trans (by first | (simp only [g100, g103, decide_true, decide_false, Bool.true_and, Bool.false_and, Bool.true_or, Bool.false_or]; done) | (simp [-List.getD_eq_getElem?_getD, g100, g103]; done) | (simp [-List.getD_eq_getElem?_getD, g100, g103]; omega)), (show lk _ _ = some (.agg #[.slice (some ⟨b21, 0, none⟩) ((D).1.length) c11, .slice A12 ((D).2.length) c13]) from rfl).trans (by first | (simp only [g100, g103, decide_true, decide_false, Bool.true_and, Bool.false_and, Bool.true_or, Bool.false_or]; done) | (simp [-List.getD_eq_getElem?_getD, g100, g103]; done) | (simp [-List.getD_eq_getElem?_getD, g100, g103]; omega)), rfl, rfl, (show lk _ _ = some (.agg #[.slice (some ⟨b23, 0, none⟩) ((C).1.length) c6, .slice A7 ((C).2.length) c8]) from rfl).trans (by first | (simp only [g100, g103, decide_true, decide_false, Bool.true_and, Bool.false_and, Bool.true_or, Bool.false_or]; done) | (simp [-List.getD_eq_getElem?_getD, g100, g103]; done) | (simp [-List.getD_eq_getElem?_getD, g100, g103]; omega)), rfl, rfl, rfl, rfl, rfl, (show lk _ _ = some (.bool false) from rfl).trans (by first | (simp only [g100, g103, decide_true, decide_false, Bool.true_and, Bool.false_and, Bool.true_or, Bool.false_or]; done) | (simp [-List.getD_eq_getElem?_getD, g100, g103]; done) | (simp [-List.getD_eq_getElem?_getD, g100, g103]; omega)), trivial⟩)
      · skip
        refine x_then ?_
        refine r_cond S rfl (fun h122 => ?_) (fun h122 => ?_)
        · skip
          exfalso; obtain ⟨hf1, hf2⟩ := hfall q (by omega); simp only [Bool.or_eq_true, decide_eq_true_eq, Bool.and_eq_true, Bool.not_eq_true'] at h122; rcases h122 with h | ⟨h, h'⟩; (omega); (rw [hf2 h] at h'; simp at h')
        · skip
          refine wp_skip ?_
          refine x_blockEnd ?_
          refine x_then ?_
          refine r_region ?_
          refine r_y S H (y_move S rfl rfl) rfl rfl rfl fun a S => ?_
          refine r_y S H (y_add S rfl rfl rfl (wi64 (by omega) (by omega))) rfl rfl rfl fun a S => ?_
          refine r_y S H (y_assign S rfl rfl) rfl rfl rfl fun a S => ?_
          refine r_nil ?_
          refine x_then ?_
          exact ⟨q + 1, ⟨S.sub ⟨rfl, rfl, rfl, rfl, rfl, rfl, rfl, rfl, rfl, rfl, rfl, rfl, rfl, rfl, rfl, rfl, rfl, rfl, rfl, rfl, rfl, rfl, rfl, rfl, rfl, rfl, rfl, rfl, rfl, rfl, rfl, rfl, rfl, rfl, rfl, rfl, rfl, rfl, rfl, rfl, rfl, rfl, rfl, rfl, rfl, rfl, rfl, rfl, rfl, trivial⟩, H, by omega⟩, by omega⟩
    · skip
      refine wp_exit ?_
      refine x_thenExit ?_
      refine x_thenExit ?_
      refine x_blockHere ?_
      refine x_then ?_
      refine r_seq ?_
      refine r_region ?_
      refine r_y S H (y_move S rfl rfl) rfl rfl rfl fun a S => ?_
      refine r_y S H (y_assign S rfl rfl) rfl rfl rfl fun a S => ?_
      refine r_nil ?_
      refine x_then ?_
      refine wp_ret ?_
      refine r_ret1 S H Try.results9 (ro_tmp S rfl) ?_
      exact ⟨rfl, H.drop.drop.drop.drop.drop.drop.drop.drop.drop⟩

end Go.Proofs.Ytfmpgdhmfjllnaa
