/- Walks of functions of the program, over slots and resources. No condition. -/
import Derived.Test.YtfmpgdhmfjllnaaW13g
namespace Go.Proofs.Ytfmpgdhmfjllnaa
open Go.RowKit Go.Cg
set_option linter.unusedVariables false
set_option linter.unusedSimpArgs false
open Go.Cg.Tr (E top right graph quiet msg comb nxt summed)
set_option maxRecDepth 4000 in
theorem law_degree (w : World) (fr : List Res) (n : Int) (A : Option Addr) (c : Nat) (es : List E) (ok : SlOk fr 3 A es.length c (ecells es)) (hes : ∀ e ∈ es, e.f < 4294967296 ∧ e.t < 4294967296) (hew : ∀ e ∈ es, e.w < 4294967296) (H : Sat w (fr)) :
    Rt Try.prog 7 #[.agg #[.int .i64 n, .slice A es.length c]] w fun v w' => v = .bool true ∧ Sat w' fr := by
  refine rt_enter Try.func7 rfl (n := 83) Try.ntmps7 rfl fun a S => ?_
  refine r_seq ?_
  refine r_region ?_
  refine r_box (c := #[.int .i64 n, .slice A es.length c]) S H rfl rfl rfl rfl rfl rfl fun a w b1 S H => ?_
  refine r_y S H (y_assign S rfl rfl) rfl rfl rfl fun a S => ?_
  refine r_nil ?_
  refine x_then ?_
  refine r_seq ?_
  refine r_region ?_
  refine r_call (args := #[]) S rfl rfl Try.call14 (shown_ct (H := H) _ _) rfl rfl rfl fun v a w hR S => ?_
  obtain ⟨rfl, H⟩ := hR
  refine r_y S H (y_assign S rfl rfl) rfl rfl rfl fun a S => ?_
  refine r_nil ?_
  refine x_then ?_
  refine r_seq ?_
  refine r_region ?_
  refine r_y S H (y_loadAgg [_, _] 0 S rfl rfl (fun w => ⟨Try.isAgg35 w, Try.sizeOf35 w⟩) rfl rfl ⟨rfl, rfl, trivial⟩) rfl rfl rfl fun a S => ?_
  refine r_call (args := #[.agg #[.int .i64 n, .slice A es.length c]]) S rfl rfl Try.call23 (few_ct2 (H := H) _ _ n _ _ es (ok.more _) hes) rfl rfl rfl fun v a w hR S => ?_
  obtain ⟨m, gl, A2, c3, hfew, rfl, H⟩ := hR
  have hm60 := hfew.hm
  have hgl := hfew.hl
  have hgs : ∀ e ∈ gl, e.f < 4294967296 ∧ e.t < 4294967296 := fun e he => hes e (hfew.sub e he)
  have hgw : ∀ e ∈ gl, e.w < 4294967296 := fun e he => hew e (hfew.sub e he)
  have hge := hfew.edges
  obtain ⟨hmay, hlen, hq, h7, hdeg⟩ := Tr.degree hfew
  refine r_store (vs := [.int .i64 ((m : Nat) : Int), .slice A2 gl.length c3]) 1 S H rfl rfl rfl rfl Try.sizeOf35 rfl rfl (by simp [Value.oneCell']) rfl rfl rfl rfl rfl fun w H => ?_
  refine r_nil ?_
  refine x_then ?_
  refine r_seq ?_
  refine r_region ?_
  refine r_y S H (y_build (vs := #[(0, .int .i64 5)]) (v := .agg #[.int .i64 5, .int .u32 0]) S rfl rfl (fun w => by kernel_rfl)) rfl rfl rfl fun a S => ?_
  refine r_y S H (y_loadAgg [_, _] 1 S rfl rfl (fun w => ⟨Try.isAgg35 w, Try.sizeOf35 w⟩) rfl rfl ⟨rfl, rfl, trivial⟩) rfl rfl rfl fun a S => ?_
  refine r_call (args := #[.agg #[.int .i64 5, .int .u32 0], .agg #[.int .i64 ((m : Nat) : Int), .slice A2 gl.length c3], .int .i64 1]) S rfl rfl Try.call24 (trace_ct (H := H) _ _ 5 0 (by omega) ((m : Nat) : Int) _ _ gl (SlOk.ofRow (i := 0) H rfl) hgs hgw 1 (by omega)) rfl rfl rfl fun v a w hR S => ?_
  obtain ⟨A4, c5, A6, c7, rfl, H⟩ := hR
  refine r_y S H (y_move S rfl rfl) rfl rfl rfl fun a S => ?_
  refine r_y S H (y_extract (v := .agg #[.slice A4 ((Tr.traceR 5 0 ((m : Nat) : Int) gl 1).1.length) c5, .slice A6 ((Tr.traceR 5 0 ((m : Nat) : Int) gl 1).2.length) c7]) S rfl rfl rfl) rfl rfl rfl fun a S => ?_
  refine r_y S H (y_extract (v := .int .i64 (Tr.err (Tr.may 5 0 ((m : Nat) : Int) gl && decide (0 ≤ 1)))) S rfl rfl rfl) rfl rfl rfl fun a S => ?_
  refine r_alloc S H rfl Try.zeroValue40 rfl rfl rfl rfl fun a w b8 S H => ?_
  refine r_store (vs := [.slice A4 ((Tr.traceR 5 0 ((m : Nat) : Int) gl 1).1.length) c5, .slice A6 ((Tr.traceR 5 0 ((m : Nat) : Int) gl 1).2.length) c7]) 0 S H rfl rfl rfl rfl Try.sizeOf40 rfl rfl (by simp [Value.oneCell']) rfl rfl rfl rfl rfl fun w H => ?_
  refine r_y S H (y_assign S rfl rfl) rfl rfl rfl fun a S => ?_
  refine r_nil ?_
  refine x_then ?_
  refine r_seq ?_
  refine r_region ?_
  refine r_y S H (y_build (vs := #[(0, .int .i64 5)]) (v := .agg #[.int .i64 5, .int .u32 0]) S rfl rfl (fun w => by kernel_rfl)) rfl rfl rfl fun a S => ?_
  refine r_y S H (y_loadAgg [_, _] 4 S rfl rfl (fun w => ⟨Try.isAgg35 w, Try.sizeOf35 w⟩) rfl rfl ⟨rfl, rfl, trivial⟩) rfl rfl rfl fun a S => ?_
  refine r_call (args := #[.agg #[.int .i64 5, .int .u32 0], .agg #[.int .i64 ((m : Nat) : Int), .slice A2 gl.length c3], .int .i64 7]) S rfl rfl Try.call24 (trace_ct (H := H) _ _ 5 0 (by omega) ((m : Nat) : Int) _ _ gl (SlOk.ofRow (i := 3) H rfl) hgs hgw 7 (by omega)) rfl rfl rfl fun v a w hR S => ?_
  obtain ⟨A9, c10, A11, c12, rfl, H⟩ := hR
  refine r_y S H (y_move S rfl rfl) rfl rfl rfl fun a S => ?_
  refine r_y S H (y_extract (v := .agg #[.slice A9 ((Tr.traceR 5 0 ((m : Nat) : Int) gl 7).1.length) c10, .slice A11 ((Tr.traceR 5 0 ((m : Nat) : Int) gl 7).2.length) c12]) S rfl rfl rfl) rfl rfl rfl fun a S => ?_
  refine r_y S H (y_extract (v := .int .i64 (Tr.err (Tr.may 5 0 ((m : Nat) : Int) gl && decide (0 ≤ 7)))) S rfl rfl rfl) rfl rfl rfl fun a S => ?_
  refine r_alloc S H rfl Try.zeroValue40 rfl rfl rfl rfl fun a w b13 S H => ?_
  refine r_store (vs := [.slice A9 ((Tr.traceR 5 0 ((m : Nat) : Int) gl 7).1.length) c10, .slice A11 ((Tr.traceR 5 0 ((m : Nat) : Int) gl 7).2.length) c12]) 0 S H rfl rfl rfl rfl Try.sizeOf40 rfl rfl (by simp [Value.oneCell']) rfl rfl rfl rfl rfl fun w H => ?_
  refine r_y S H (y_assign S rfl rfl) rfl rfl rfl fun a S => ?_
  refine r_nil ?_
  refine x_then ?_
  refine r_seq ?_
  refine r_seq ?_
  refine wp_via (J := fun a w => Slots a 83 [(0, .agg #[.int .i64 n, .slice A es.length c]), (1, .pointer (some ⟨b1, 0, none⟩)), (2, .bool false), (3, .bool true), (4, .pointer (some ⟨b8, 0, none⟩)), (5, .int .i64 (Tr.err (Tr.may 5 0 ((m : Nat) : Int) gl && decide (0 ≤ 1)))), (6, .pointer (some ⟨b13, 0, none⟩)), (7, .int .i64 (Tr.err (Tr.may 5 0 ((m : Nat) : Int) gl && decide (0 ≤ 7)))), (11, .bool true), (12, .agg #[.int .i64 n, .slice A es.length c]), (13, .agg #[.int .i64 ((m : Nat) : Int), .slice A2 gl.length c3]), (14, .tuple #[.agg #[.slice A4 ((Tr.traceR 5 0 ((m : Nat) : Int) gl 1).1.length) c5, .slice A6 ((Tr.traceR 5 0 ((m : Nat) : Int) gl 1).2.length) c7], .int .i64 (Tr.err (Tr.may 5 0 ((m : Nat) : Int) gl && decide (0 ≤ 1)))]), (15, .agg #[.int .i64 5, .int .u32 0]), (16, .agg #[.int .i64 ((m : Nat) : Int), .slice A2 gl.length c3]), (17, .tuple #[.agg #[.slice A4 ((Tr.traceR 5 0 ((m : Nat) : Int) gl 1).1.length) c5, .slice A6 ((Tr.traceR 5 0 ((m : Nat) : Int) gl 1).2.length) c7], .int .i64 (Tr.err (Tr.may 5 0 ((m : Nat) : Int) gl && decide (0 ≤ 1)))]), (18, .agg #[.slice A4 ((Tr.traceR 5 0 ((m : Nat) : Int) gl 1).1.length) c5, .slice A6 ((Tr.traceR 5 0 ((m : Nat) : Int) gl 1).2.length) c7]), (19, .int .i64 (Tr.err (Tr.may 5 0 ((m : Nat) : Int) gl && decide (0 ≤ 1)))), (20, .tuple #[.agg #[.slice A9 ((Tr.traceR 5 0 ((m : Nat) : Int) gl 7).1.length) c10, .slice A11 ((Tr.traceR 5 0 ((m : Nat) : Int) gl 7).2.length) c12], .int .i64 (Tr.err (Tr.may 5 0 ((m : Nat) : Int) gl && decide (0 ≤ 7)))]), (21, .agg #[.int .i64 5, .int .u32 0]), (22, .agg #[.int .i64 ((m : Nat) : Int), .slice A2 gl.length c3]), (23, .tuple #[.agg #[.slice A9 ((Tr.traceR 5 0 ((m : Nat) : Int) gl 7).1.length) c10, .slice A11 ((Tr.traceR 5 0 ((m : Nat) : Int) gl 7).2.length) c12], .int .i64 (Tr.err (Tr.may 5 0 ((m : Nat) : Int) gl && decide (0 ≤ 7)))]), (24, .agg #[.slice A9 ((Tr.traceR 5 0 ((m : Nat) : Int) gl 7).1.length) c10, .slice A11 ((Tr.traceR 5 0 ((m : Nat) : Int) gl 7).2.length) c12]), (25, .int .i64 (Tr.err (Tr.may 5 0 ((m : Nat) : Int) gl && decide (0 ≤ 7)))), (50, .bool false)] ∧ Sat w (blk b13 (.cells #[.slice A9 ((Tr.traceR 5 0 ((m : Nat) : Int) gl 7).1.length) c10, .slice A11 ((Tr.traceR 5 0 ((m : Nat) : Int) gl 7).2.length) c12] 40) :: row 25 1 (.slice A9 ((Tr.traceR 5 0 ((m : Nat) : Int) gl 7).1.length) c10) ((Tr.traceR 5 0 ((m : Nat) : Int) gl 7).1.length) (u64s (Tr.traceR 5 0 ((m : Nat) : Int) gl 7).1) :: row 4 1 (.slice A11 ((Tr.traceR 5 0 ((m : Nat) : Int) gl 7).2.length) c12) ((Tr.traceR 5 0 ((m : Nat) : Int) gl 7).2.length) (bools (Tr.traceR 5 0 ((m : Nat) : Int) gl 7).2) :: blk b8 (.cells #[.slice A4 ((Tr.traceR 5 0 ((m : Nat) : Int) gl 1).1.length) c5, .slice A6 ((Tr.traceR 5 0 ((m : Nat) : Int) gl 1).2.length) c7] 40) :: row 25 1 (.slice A4 ((Tr.traceR 5 0 ((m : Nat) : Int) gl 1).1.length) c5) ((Tr.traceR 5 0 ((m : Nat) : Int) gl 1).1.length) (u64s (Tr.traceR 5 0 ((m : Nat) : Int) gl 1).1) :: row 4 1 (.slice A6 ((Tr.traceR 5 0 ((m : Nat) : Int) gl 1).2.length) c7) ((Tr.traceR 5 0 ((m : Nat) : Int) gl 1).2.length) (bools (Tr.traceR 5 0 ((m : Nat) : Int) gl 1).2) :: row 47 3 (.slice A2 gl.length c3) gl.length (ecells gl) :: blk b1 (.cells #[.int .i64 ((m : Nat) : Int), .slice A2 gl.length c3] 35) :: fr)) ?_ (fun a w hm => ?_)
  · skip
    refine r_region ?_
    refine r_y S H (y_move S rfl rfl) rfl rfl rfl fun a S => ?_
    refine r_y S H (y_ne S rfl rfl rfl) rfl rfl rfl fun a S => ?_
    have S := S.retell (v' := .bool false) 27 rfl (by simp [*, Tr.err])
    refine r_y S H (y_move S rfl rfl) rfl rfl rfl fun a S => ?_
    refine r_y S H (y_move S rfl rfl) rfl rfl rfl fun a S => ?_
    refine r_y S H (y_ne S rfl rfl rfl) rfl rfl rfl fun a S => ?_
    have S := S.retell (v' := .bool false) 30 rfl (by simp [*, Tr.err])
    refine r_y S H (y_pickF S rfl rfl rfl) rfl rfl rfl fun a S => ?_
    refine r_y S H (y_move S rfl rfl) rfl rfl rfl fun a S => ?_
    refine r_y S H (y_fieldAddr S rfl rfl fa40_0) rfl rfl rfl fun a S => ?_
    refine r_y S H (y_load 3 S rfl rfl Try.isAgg37 rfl rfl) rfl rfl rfl fun a S => ?_
    refine r_y S H (y_len S rfl rfl Try.underlying37) rfl rfl rfl fun a S => ?_
    refine r_y S H (y_fieldAddr S rfl rfl fa35_0) rfl rfl rfl fun a S => ?_
    refine r_y S H (y_load 7 S rfl rfl Try.isAgg3 rfl rfl) rfl rfl rfl fun a S => ?_
    refine r_y S H (y_ne S rfl rfl rfl) rfl rfl rfl fun a S => ?_
    have S := S.retell (v' := .bool false) 38 rfl (by simp [*, Tr.err])
    refine r_y S H (y_pickF S rfl rfl rfl) rfl rfl rfl fun a S => ?_
    refine r_y S H (y_move S rfl rfl) rfl rfl rfl fun a S => ?_
    refine r_y S H (y_loadAgg [_, _] 3 S rfl rfl (fun w => ⟨Try.isAgg40 w, Try.sizeOf40 w⟩) rfl rfl ⟨rfl, rfl, trivial⟩) rfl rfl rfl fun a S => ?_
    refine r_call (args := #[.agg #[.slice A4 ((Tr.traceR 5 0 ((m : Nat) : Int) gl 1).1.length) c5, .slice A6 ((Tr.traceR 5 0 ((m : Nat) : Int) gl 1).2.length) c7]]) S rfl rfl Try.call25 (quiet_ct (H := H) _ _ _ _ ((Tr.traceR 5 0 ((m : Nat) : Int) gl 1).1) (SlOk.ofRow (i := 4) H rfl) _ _ ((Tr.traceR 5 0 ((m : Nat) : Int) gl 1).2) (SlOk.ofRow (i := 5) H rfl)) rfl rfl rfl fun v a w hR S => ?_
    obtain ⟨rfl, H⟩ := hR
    refine r_y S H (y_not S rfl rfl) rfl rfl rfl fun a S => ?_
    have S := S.retell (v' := .bool false) 43 rfl (by simp [*, Tr.err])
    refine r_y S H (y_pickF S rfl rfl rfl) rfl rfl rfl fun a S => ?_
    refine r_y S H (y_move S rfl rfl) rfl rfl rfl fun a S => ?_
    refine r_y S H (y_loadAgg [_, _] 3 S rfl rfl (fun w => ⟨Try.isAgg40 w, Try.sizeOf40 w⟩) rfl rfl ⟨rfl, rfl, trivial⟩) rfl rfl rfl fun a S => ?_
    refine r_y S H (y_loadAgg [_, _] 0 S rfl rfl (fun w => ⟨Try.isAgg40 w, Try.sizeOf40 w⟩) rfl rfl ⟨rfl, rfl, trivial⟩) rfl rfl rfl fun a S => ?_
    refine r_call (args := #[.agg #[.slice A4 ((Tr.traceR 5 0 ((m : Nat) : Int) gl 1).1.length) c5, .slice A6 ((Tr.traceR 5 0 ((m : Nat) : Int) gl 1).2.length) c7], .agg #[.slice A9 ((Tr.traceR 5 0 ((m : Nat) : Int) gl 7).1.length) c10, .slice A11 ((Tr.traceR 5 0 ((m : Nat) : Int) gl 7).2.length) c12]]) S rfl rfl Try.call26 (same_ct (H := H) _ _ _ _ ((Tr.traceR 5 0 ((m : Nat) : Int) gl 1).1) (SlOk.ofRow (i := 4) H rfl) _ _ ((Tr.traceR 5 0 ((m : Nat) : Int) gl 1).2) (SlOk.ofRow (i := 5) H rfl) _ _ ((Tr.traceR 5 0 ((m : Nat) : Int) gl 7).1) (SlOk.ofRow (i := 1) H rfl) _ _ ((Tr.traceR 5 0 ((m : Nat) : Int) gl 7).2) (SlOk.ofRow (i := 2) H rfl)) rfl rfl rfl fun v a w hR S => ?_
    obtain ⟨rfl, H⟩ := hR
    refine r_y S H (y_not S rfl rfl) rfl rfl rfl fun a S => ?_
    have S := S.retell (v' := .bool false) 49 rfl (by simp [*, Tr.err])
    refine r_y S H (y_pickF S rfl rfl rfl) rfl rfl rfl fun a S => ?_
    refine r_nil ?_
    refine x_then ?_
    exact ⟨S.sub ⟨rfl, rfl, rfl, rfl, rfl, rfl, rfl, rfl, rfl, rfl, rfl, rfl, rfl, rfl, rfl, rfl, rfl, rfl, rfl, rfl, rfl, rfl, rfl, rfl, trivial⟩, H⟩
  obtain ⟨S, H⟩ := hm
  refine x_then ?_
  refine r_condF S rfl ?_
  refine wp_skip ?_
  refine x_then ?_
  refine r_seq ?_
  refine r_seq ?_
  refine r_region ?_
  refine r_y S H (y_assign S rfl rfl) rfl rfl rfl fun a S => ?_
  refine r_nil ?_
  refine x_then ?_
  refine r_block ?_
  refine r_loop (ι := Nat) (fun q a w => Slots a 83 [(0, .agg #[.int .i64 n, .slice A es.length c]), (1, .pointer (some ⟨b1, 0, none⟩)), (3, .bool true), (4, .pointer (some ⟨b8, 0, none⟩)), (5, .int .i64 (Tr.err (Tr.may 5 0 ((m : Nat) : Int) gl && decide (0 ≤ 1)))), (6, .pointer (some ⟨b13, 0, none⟩)), (7, .int .i64 (Tr.err (Tr.may 5 0 ((m : Nat) : Int) gl && decide (0 ≤ 7)))), (8, .int .i64 ((q : Nat) : Int)), (11, .bool true), (12, .agg #[.int .i64 n, .slice A es.length c]), (13, .agg #[.int .i64 ((m : Nat) : Int), .slice A2 gl.length c3]), (14, .tuple #[.agg #[.slice A4 ((Tr.traceR 5 0 ((m : Nat) : Int) gl 1).1.length) c5, .slice A6 ((Tr.traceR 5 0 ((m : Nat) : Int) gl 1).2.length) c7], .int .i64 (Tr.err (Tr.may 5 0 ((m : Nat) : Int) gl && decide (0 ≤ 1)))]), (15, .agg #[.int .i64 5, .int .u32 0]), (16, .agg #[.int .i64 ((m : Nat) : Int), .slice A2 gl.length c3]), (17, .tuple #[.agg #[.slice A4 ((Tr.traceR 5 0 ((m : Nat) : Int) gl 1).1.length) c5, .slice A6 ((Tr.traceR 5 0 ((m : Nat) : Int) gl 1).2.length) c7], .int .i64 (Tr.err (Tr.may 5 0 ((m : Nat) : Int) gl && decide (0 ≤ 1)))]), (18, .agg #[.slice A4 ((Tr.traceR 5 0 ((m : Nat) : Int) gl 1).1.length) c5, .slice A6 ((Tr.traceR 5 0 ((m : Nat) : Int) gl 1).2.length) c7]), (19, .int .i64 (Tr.err (Tr.may 5 0 ((m : Nat) : Int) gl && decide (0 ≤ 1)))), (20, .tuple #[.agg #[.slice A9 ((Tr.traceR 5 0 ((m : Nat) : Int) gl 7).1.length) c10, .slice A11 ((Tr.traceR 5 0 ((m : Nat) : Int) gl 7).2.length) c12], .int .i64 (Tr.err (Tr.may 5 0 ((m : Nat) : Int) gl && decide (0 ≤ 7)))]), (21, .agg #[.int .i64 5, .int .u32 0]), (22, .agg #[.int .i64 ((m : Nat) : Int), .slice A2 gl.length c3]), (23, .tuple #[.agg #[.slice A9 ((Tr.traceR 5 0 ((m : Nat) : Int) gl 7).1.length) c10, .slice A11 ((Tr.traceR 5 0 ((m : Nat) : Int) gl 7).2.length) c12], .int .i64 (Tr.err (Tr.may 5 0 ((m : Nat) : Int) gl && decide (0 ≤ 7)))]), (24, .agg #[.slice A9 ((Tr.traceR 5 0 ((m : Nat) : Int) gl 7).1.length) c10, .slice A11 ((Tr.traceR 5 0 ((m : Nat) : Int) gl 7).2.length) c12]), (25, .int .i64 (Tr.err (Tr.may 5 0 ((m : Nat) : Int) gl && decide (0 ≤ 7)))), (50, .bool false)] ∧ Sat w (blk b13 (.cells #[.slice A9 ((Tr.traceR 5 0 ((m : Nat) : Int) gl 7).1.length) c10, .slice A11 ((Tr.traceR 5 0 ((m : Nat) : Int) gl 7).2.length) c12] 40) :: row 25 1 (.slice A9 ((Tr.traceR 5 0 ((m : Nat) : Int) gl 7).1.length) c10) ((Tr.traceR 5 0 ((m : Nat) : Int) gl 7).1.length) (u64s (Tr.traceR 5 0 ((m : Nat) : Int) gl 7).1) :: row 4 1 (.slice A11 ((Tr.traceR 5 0 ((m : Nat) : Int) gl 7).2.length) c12) ((Tr.traceR 5 0 ((m : Nat) : Int) gl 7).2.length) (bools (Tr.traceR 5 0 ((m : Nat) : Int) gl 7).2) :: blk b8 (.cells #[.slice A4 ((Tr.traceR 5 0 ((m : Nat) : Int) gl 1).1.length) c5, .slice A6 ((Tr.traceR 5 0 ((m : Nat) : Int) gl 1).2.length) c7] 40) :: row 25 1 (.slice A4 ((Tr.traceR 5 0 ((m : Nat) : Int) gl 1).1.length) c5) ((Tr.traceR 5 0 ((m : Nat) : Int) gl 1).1.length) (u64s (Tr.traceR 5 0 ((m : Nat) : Int) gl 1).1) :: row 4 1 (.slice A6 ((Tr.traceR 5 0 ((m : Nat) : Int) gl 1).2.length) c7) ((Tr.traceR 5 0 ((m : Nat) : Int) gl 1).2.length) (bools (Tr.traceR 5 0 ((m : Nat) : Int) gl 1).2) :: row 47 3 (.slice A2 gl.length c3) gl.length (ecells gl) :: blk b1 (.cells #[.int .i64 ((m : Nat) : Int), .slice A2 gl.length c3] 35) :: fr) ∧ (q ≤ m)) (fun q => m - q) 0 ⟨S.sub ⟨rfl, rfl, rfl, rfl, rfl, rfl, rfl, rfl, rfl, rfl, rfl, rfl, rfl, rfl, rfl, rfl, rfl, rfl, rfl, rfl, rfl, rfl, rfl, rfl, trivial⟩, H, Nat.zero_le _⟩ (fun q a w hI => ?_)
  obtain ⟨S, H, hI⟩ := hI
  have hq1 := hI
  refine r_seq ?_
  refine r_seq ?_
  refine r_region ?_
  refine r_y S H (y_move S rfl rfl) rfl rfl rfl fun a S => ?_
  refine r_y S H (y_fieldAddr S rfl rfl fa35_0) rfl rfl rfl fun a S => ?_
  refine r_y S H (y_load 7 S rfl rfl Try.isAgg3 rfl rfl) rfl rfl rfl fun a S => ?_
  refine r_y S H (y_lt S rfl rfl rfl) rfl rfl rfl fun a S => ?_
  refine r_nil ?_
  refine x_then ?_
  refine r_test S rfl (fun h54 => ?_) (fun h54 => ?_)
  · skip
    refine wp_skip ?_
    refine x_then ?_
    refine r_seq ?_
    refine r_block ?_
    refine r_seq ?_
    refine r_region ?_
    refine r_y S H (y_assign S rfl rfl) rfl rfl rfl fun a S => ?_
    refine r_nil ?_
    refine x_then ?_
    refine r_seq ?_
    refine r_seq ?_
    refine r_region ?_
    refine r_y S H (y_assign S rfl rfl) rfl rfl rfl fun a S => ?_
    refine r_nil ?_
    refine x_then ?_
    refine r_block ?_
    refine r_loop (ι := Nat) (fun i a w => Slots a 83 [(0, .agg #[.int .i64 n, .slice A es.length c]), (1, .pointer (some ⟨b1, 0, none⟩)), (3, .bool true), (4, .pointer (some ⟨b8, 0, none⟩)), (5, .int .i64 (Tr.err (Tr.may 5 0 ((m : Nat) : Int) gl && decide (0 ≤ 1)))), (6, .pointer (some ⟨b13, 0, none⟩)), (7, .int .i64 (Tr.err (Tr.may 5 0 ((m : Nat) : Int) gl && decide (0 ≤ 7)))), (8, .int .i64 ((q : Nat) : Int)), (9, .int .u64 ((Tr.ind gl i q : Nat) : Int)), (10, .int .i64 ((i : Nat) : Int)), (11, .bool true), (12, .agg #[.int .i64 n, .slice A es.length c]), (13, .agg #[.int .i64 ((m : Nat) : Int), .slice A2 gl.length c3]), (14, .tuple #[.agg #[.slice A4 ((Tr.traceR 5 0 ((m : Nat) : Int) gl 1).1.length) c5, .slice A6 ((Tr.traceR 5 0 ((m : Nat) : Int) gl 1).2.length) c7], .int .i64 (Tr.err (Tr.may 5 0 ((m : Nat) : Int) gl && decide (0 ≤ 1)))]), (15, .agg #[.int .i64 5, .int .u32 0]), (16, .agg #[.int .i64 ((m : Nat) : Int), .slice A2 gl.length c3]), (17, .tuple #[.agg #[.slice A4 ((Tr.traceR 5 0 ((m : Nat) : Int) gl 1).1.length) c5, .slice A6 ((Tr.traceR 5 0 ((m : Nat) : Int) gl 1).2.length) c7], .int .i64 (Tr.err (Tr.may 5 0 ((m : Nat) : Int) gl && decide (0 ≤ 1)))]), (18, .agg #[.slice A4 ((Tr.traceR 5 0 ((m : Nat) : Int) gl 1).1.length) c5, .slice A6 ((Tr.traceR 5 0 ((m : Nat) : Int) gl 1).2.length) c7]), (19, .int .i64 (Tr.err (Tr.may 5 0 ((m : Nat) : Int) gl && decide (0 ≤ 1)))), (20, .tuple #[.agg #[.slice A9 ((Tr.traceR 5 0 ((m : Nat) : Int) gl 7).1.length) c10, .slice A11 ((Tr.traceR 5 0 ((m : Nat) : Int) gl 7).2.length) c12], .int .i64 (Tr.err (Tr.may 5 0 ((m : Nat) : Int) gl && decide (0 ≤ 7)))]), (21, .agg #[.int .i64 5, .int .u32 0]), (22, .agg #[.int .i64 ((m : Nat) : Int), .slice A2 gl.length c3]), (23, .tuple #[.agg #[.slice A9 ((Tr.traceR 5 0 ((m : Nat) : Int) gl 7).1.length) c10, .slice A11 ((Tr.traceR 5 0 ((m : Nat) : Int) gl 7).2.length) c12], .int .i64 (Tr.err (Tr.may 5 0 ((m : Nat) : Int) gl && decide (0 ≤ 7)))]), (24, .agg #[.slice A9 ((Tr.traceR 5 0 ((m : Nat) : Int) gl 7).1.length) c10, .slice A11 ((Tr.traceR 5 0 ((m : Nat) : Int) gl 7).2.length) c12]), (25, .int .i64 (Tr.err (Tr.may 5 0 ((m : Nat) : Int) gl && decide (0 ≤ 7)))), (50, .bool false), (51, .int .i64 ((q : Nat) : Int)), (52, .pointer (some ⟨b1, 0, none⟩)), (53, .int .i64 ((m : Nat) : Int)), (54, .bool (decide (((q : Nat) : Int) < ((m : Nat) : Int))))] ∧ Sat w (blk b13 (.cells #[.slice A9 ((Tr.traceR 5 0 ((m : Nat) : Int) gl 7).1.length) c10, .slice A11 ((Tr.traceR 5 0 ((m : Nat) : Int) gl 7).2.length) c12] 40) :: row 25 1 (.slice A9 ((Tr.traceR 5 0 ((m : Nat) : Int) gl 7).1.length) c10) ((Tr.traceR 5 0 ((m : Nat) : Int) gl 7).1.length) (u64s (Tr.traceR 5 0 ((m : Nat) : Int) gl 7).1) :: row 4 1 (.slice A11 ((Tr.traceR 5 0 ((m : Nat) : Int) gl 7).2.length) c12) ((Tr.traceR 5 0 ((m : Nat) : Int) gl 7).2.length) (bools (Tr.traceR 5 0 ((m : Nat) : Int) gl 7).2) :: blk b8 (.cells #[.slice A4 ((Tr.traceR 5 0 ((m : Nat) : Int) gl 1).1.length) c5, .slice A6 ((Tr.traceR 5 0 ((m : Nat) : Int) gl 1).2.length) c7] 40) :: row 25 1 (.slice A4 ((Tr.traceR 5 0 ((m : Nat) : Int) gl 1).1.length) c5) ((Tr.traceR 5 0 ((m : Nat) : Int) gl 1).1.length) (u64s (Tr.traceR 5 0 ((m : Nat) : Int) gl 1).1) :: row 4 1 (.slice A6 ((Tr.traceR 5 0 ((m : Nat) : Int) gl 1).2.length) c7) ((Tr.traceR 5 0 ((m : Nat) : Int) gl 1).2.length) (bools (Tr.traceR 5 0 ((m : Nat) : Int) gl 1).2) :: row 47 3 (.slice A2 gl.length c3) gl.length (ecells gl) :: blk b1 (.cells #[.int .i64 ((m : Nat) : Int), .slice A2 gl.length c3] 35) :: fr) ∧ (i ≤ gl.length)) (fun i => gl.length - i) 0 ⟨S.sub ⟨rfl, rfl, rfl, rfl, rfl, rfl, rfl, rfl, ((show lk _ _ = some _ from rfl).trans (congrArg (fun x => some (Value.int .u64 x)) (by simp [Tr.ind]))), rfl, rfl, rfl, rfl, rfl, rfl, rfl, rfl, rfl, rfl, rfl, rfl, rfl, rfl, rfl, rfl, rfl, rfl, rfl, rfl, rfl, trivial⟩, H, Nat.zero_le _⟩ (fun i a w hI => ?_)
    obtain ⟨S, H, hI⟩ := hI
    have hi := hI
    have hind := Tr.ind_le gl i q
    refine r_seq ?_
    refine r_seq ?_
    refine r_region ?_
    refine r_y S H (y_move S rfl rfl) rfl rfl rfl fun a S => ?_
    refine r_y S H (y_fieldAddr S rfl rfl fa35_1) rfl rfl rfl fun a S => ?_
    refine r_y S H (y_load 7 S rfl rfl Try.isAgg33 rfl rfl) rfl rfl rfl fun a S => ?_
    refine r_y S H (y_len S rfl rfl Try.underlying33) rfl rfl rfl fun a S => ?_
    refine r_y S H (y_lt S rfl rfl rfl) rfl rfl rfl fun a S => ?_
    refine r_nil ?_
    refine x_then ?_
    refine r_test S rfl (fun h61 => ?_) (fun h61 => ?_)
    · skip
      have hb := hge _ (getD_mem (by omega : i < gl.length))
      refine wp_skip ?_
      refine x_then ?_
      refine r_seq ?_
      refine r_block ?_
      refine r_seq ?_
      refine r_region ?_
      refine r_y S H (y_fieldAddr S rfl rfl fa35_1) rfl rfl rfl fun a S => ?_
      refine r_y S H (y_load 7 S rfl rfl Try.isAgg33 rfl rfl) rfl rfl rfl fun a S => ?_
      refine r_y S H (y_move S rfl rfl) rfl rfl rfl fun a S => ?_
      obtain ⟨b14, rfl⟩ := H.rowAt (i := 6) rfl (by first | omega | (simp <;> omega))
      refine r_y S H (y_index S rfl rfl rfl Try.underlying33 Try.sizeOf47 (by omega) (by omega)) rfl rfl rfl fun a S => ?_
      refine r_y S H (y_fieldAddr S rfl rfl fa47_1) rfl rfl rfl fun a S => ?_
      refine r_y S H (y_loadAt S rfl rfl Try.isAgg22 (fun w H => (SlOk.ofRow (i := 6) H rfl).cell w H (ecells_t (i := i) (by omega)))) rfl rfl rfl fun a S => ?_
      refine r_y S H (y_conv S rfl rfl Try.underlying22 Try.underlying3 (wi64 (by omega) (by omega))) rfl rfl rfl fun a S => ?_
      refine r_y S H (y_move S rfl rfl) rfl rfl rfl fun a S => ?_
      refine r_y S H (y_eq S rfl rfl rfl) rfl rfl rfl fun a S => ?_
      refine r_nil ?_
      refine x_then ?_
      refine r_test S rfl (fun h72 => ?_) (fun h72 => ?_)
      · skip
        refine r_region ?_
        refine r_y S H (y_move S rfl rfl) rfl rfl rfl fun a S => ?_
        refine r_y S H (y_add S rfl rfl rfl (wu64 (by omega) (by omega))) rfl rfl rfl fun a S => ?_
        refine r_y S H (y_assign S rfl rfl) rfl rfl rfl fun a S => ?_
        refine r_nil ?_
        refine x_blockEnd ?_
        refine x_then ?_
        refine r_region ?_
        refine r_y S H (y_move S rfl rfl) rfl rfl rfl fun a S => ?_
        refine r_y S H (y_add S rfl rfl rfl (wi64 (by omega) (by omega))) rfl rfl rfl fun a S => ?_
        refine r_y S H (y_assign S rfl rfl) rfl rfl rfl fun a S => ?_
        refine r_nil ?_
        refine x_then ?_
        have hs := Tr.ind_snoc (l := gl) (i := i) (by omega) q
        rw [if_pos (by omega)] at hs
        exact ⟨i + 1, ⟨S.sub ⟨rfl, rfl, rfl, rfl, rfl, rfl, rfl, rfl, ((show lk _ _ = some _ from rfl).trans (congrArg (fun x => some (Value.int .u64 x)) (by omega))), rfl, rfl, rfl, rfl, rfl, rfl, rfl, rfl, rfl, rfl, rfl, rfl, rfl, rfl, rfl, rfl, rfl, rfl, rfl, rfl, rfl, trivial⟩, H, by omega⟩, by omega⟩
      · skip
        refine wp_skip ?_
        refine x_blockEnd ?_
        refine x_then ?_
        refine r_region ?_
        refine r_y S H (y_move S rfl rfl) rfl rfl rfl fun a S => ?_
        refine r_y S H (y_add S rfl rfl rfl (wi64 (by omega) (by omega))) rfl rfl rfl fun a S => ?_
        refine r_y S H (y_assign S rfl rfl) rfl rfl rfl fun a S => ?_
        refine r_nil ?_
        refine x_then ?_
        have hs := Tr.ind_snoc (l := gl) (i := i) (by omega) q
        rw [if_neg (by omega)] at hs
        exact ⟨i + 1, ⟨S.sub ⟨rfl, rfl, rfl, rfl, rfl, rfl, rfl, rfl, ((show lk _ _ = some _ from rfl).trans (congrArg (fun x => some (Value.int .u64 x)) (by omega))), rfl, rfl, rfl, rfl, rfl, rfl, rfl, rfl, rfl, rfl, rfl, rfl, rfl, rfl, rfl, rfl, rfl, rfl, rfl, rfl, rfl, trivial⟩, H, by omega⟩, by omega⟩
    · skip
      refine wp_exit ?_
      refine x_thenExit ?_
      refine x_thenExit ?_
      refine x_blockHere ?_
      refine x_then ?_
      refine r_seq ?_
      refine r_region ?_
      refine r_y S H (y_fieldAddr S rfl rfl fa40_0) rfl rfl rfl fun a S => ?_
      refine r_y S H (y_load 3 S rfl rfl Try.isAgg37 rfl rfl) rfl rfl rfl fun a S => ?_
      refine r_y S H (y_move S rfl rfl) rfl rfl rfl fun a S => ?_
      obtain ⟨b16, rfl⟩ := H.rowAt (i := 4) rfl (by first | omega | (simp <;> omega))
      refine r_y S H (y_index S rfl rfl rfl Try.underlying37 Try.sizeOf25 (by omega) (by omega)) rfl rfl rfl fun a S => ?_
      refine r_y S H (y_loadAt S rfl rfl Try.isAgg25 (fun w H => (SlOk.ofRow (i := 4) H rfl).cell w H (u64s_at (i := q) (by first | omega | (simp <;> omega))))) rfl rfl rfl fun a S => ?_
      refine r_y S H (y_move S rfl rfl) rfl rfl rfl fun a S => ?_
      refine r_y S H (y_ne S rfl rfl rfl) rfl rfl rfl fun a S => ?_
      refine r_nil ?_
      refine x_then ?_
      refine r_test S rfl (fun h81 => ?_) (fun h81 => ?_)
      · skip
        exfalso; rw [hdeg q (by omega), ← Tr.ind_all (i := i) (by omega)] at h81; omega
      · skip
        refine wp_skip ?_
        refine x_blockEnd ?_
        refine x_then ?_
        refine r_region ?_
        refine r_y S H (y_move S rfl rfl) rfl rfl rfl fun a S => ?_
        refine r_y S H (y_add S rfl rfl rfl (wi64 (by omega) (by omega))) rfl rfl rfl fun a S => ?_
        refine r_y S H (y_assign S rfl rfl) rfl rfl rfl fun a S => ?_
        refine r_nil ?_
        refine x_then ?_
        exact ⟨q + 1, ⟨S.sub ⟨rfl, rfl, rfl, rfl, rfl, rfl, rfl, rfl, rfl, rfl, rfl, rfl, rfl, rfl, rfl, rfl, rfl, rfl, rfl, rfl, rfl, rfl, rfl, rfl, trivial⟩, H, by omega⟩, by omega⟩
  · skip
    refine wp_exit ?_
    refine x_thenExit ?_
    refine x_thenExit ?_
    refine x_blockHere ?_
    refine x_then ?_
    refine r_seq ?_
    refine r_region ?_
    refine r_y S H (y_move S rfl rfl) rfl rfl rfl fun a S => ?_
    refine r_y S H (y_assign S rfl rfl) rfl rfl rfl fun a S => ?_
    refine r_nil ?_
    refine x_then ?_
    refine wp_ret ?_
    refine r_ret1 S H Try.results7 (ro_tmp S rfl) ?_
    exact ⟨rfl, H.drop.drop.drop.drop.drop.drop.drop.drop⟩

end Go.Proofs.Ytfmpgdhmfjllnaa
