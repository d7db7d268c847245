/- Walks of functions of the program, over slots and resources. No condition. -/
import Derived.Test.YtfmpgdhmfjllnaaW13g
import Derived.Test.YtfmpgdhmfjllnaaTx
namespace Go.Proofs.Ytfmpgdhmfjllnaa
open Go.RowKit Go.Cg
set_option linter.unusedVariables false
set_option linter.unusedSimpArgs false
open Go.Cg.Tr (E top right graph quiet msg comb nxt summed)
set_option maxRecDepth 4000 in
theorem law_stays (w : World) (fr : List Res) (k : Int) (s : Nat) (hs : s < 4294967296) (n : Int) (A : Option Addr) (c : Nat) (es : List E) (ok : SlOk fr 3 A es.length c (ecells es)) (hes : ∀ e ∈ es, e.f < 4294967296 ∧ e.t < 4294967296) (hew : ∀ e ∈ es, e.w < 4294967296) (j : Int) (hj : -9223372036854775808 ≤ j ∧ j ≤ 9223372036854775807) (H : Sat w (fr)) :
    Rt Try.prog 11 #[.agg #[.int .i64 k, .int .u32 ((s : Nat) : Int)], .agg #[.int .i64 n, .slice A es.length c], .int .i64 j] w fun v w' => v = .bool true ∧ Sat w' fr := by
  refine rt_enter Try.func11 rfl (n := 78) Try.ntmps11 rfl fun a S => ?_
  refine r_seq ?_
  refine r_region ?_
  refine r_box (c := #[.int .i64 k, .int .u32 ((s : Nat) : Int)]) S H rfl rfl rfl rfl rfl rfl fun a w b1 S H => ?_
  refine r_box (c := #[.int .i64 n, .slice A es.length c]) S H rfl rfl rfl rfl rfl rfl fun a w b2 S H => ?_
  refine r_y S H (y_assign S rfl rfl) rfl rfl rfl fun a S => ?_
  refine r_nil ?_
  refine x_then ?_
  refine r_seq ?_
  refine r_region ?_
  refine r_call (args := #[]) S rfl rfl Try.call14 (shown_ct (H := H) _ _) rfl rfl rfl fun v a w hR S => ?_
  obtain ⟨rfl, H⟩ := hR
  refine r_y S H (y_assign S rfl rfl) rfl rfl rfl fun a S => ?_
  refine r_nil ?_
  refine x_then ?_
  refine r_seq ?_
  refine r_region ?_
  refine r_y S H (y_loadAgg [_, _] 0 S rfl rfl (fun w => ⟨Try.isAgg35 w, Try.sizeOf35 w⟩) rfl rfl ⟨rfl, rfl, trivial⟩) rfl rfl rfl fun a S => ?_
  refine r_call (args := #[.agg #[.int .i64 n, .slice A es.length c]]) S rfl rfl Try.call23 (few_ct2 (H := H) _ _ n _ _ es ((ok.more _).more _) hes) rfl rfl rfl fun v a w hR S => ?_
  obtain ⟨m, gl, A3, c4, hfew, rfl, H⟩ := hR
  have hm60 := hfew.hm
  have hgl := hfew.hl
  have hgs : ∀ e ∈ gl, e.f < 4294967296 ∧ e.t < 4294967296 := fun e he => hes e (hfew.sub e he)
  have hgw : ∀ e ∈ gl, e.w < 4294967296 := fun e he => hew e (hfew.sub e he)
  have hge := hfew.edges
  refine r_store (vs := [.int .i64 ((m : Nat) : Int), .slice A3 gl.length c4]) 1 S H rfl rfl rfl rfl Try.sizeOf35 rfl rfl (by simp [Value.oneCell']) rfl rfl rfl rfl rfl fun w H => ?_
  refine r_nil ?_
  refine x_then ?_
  refine r_seq ?_
  refine r_region ?_
  refine r_y S H (y_move S rfl rfl) rfl rfl rfl fun a S => ?_
  refine r_y S H (y_bitop S rfl rfl rfl (fun w => Tr.mask16 j w)) rfl rfl rfl fun a S => ?_
  refine r_y S H (y_remN S rfl rfl rfl (by omega) (by omega)) rfl rfl rfl fun a S => ?_
  obtain ⟨J, hJ, hJ8⟩ : ∃ J : Nat, j % 65536 % 13 = J ∧ J < 13 := ⟨(j % 65536 % 13).toNat, by omega, by omega⟩
  have S := S.retell (v' := .int .i64 ((J : Nat) : Int)) 19 rfl (int_eq (by omega))
  obtain ⟨hyes, hno⟩ := Tr.stays_law hfew k s J
  have htopC := Tr.traceR_top k s m gl J
  refine r_y S H (y_assign S rfl rfl) rfl rfl rfl fun a S => ?_
  refine r_nil ?_
  refine x_then ?_
  refine r_seq ?_
  refine r_region ?_
  refine r_y S H (y_loadAgg [_, _] 2 S rfl rfl (fun w => ⟨Try.isAgg24 w, Try.sizeOf24 w⟩) rfl rfl ⟨rfl, rfl, trivial⟩) rfl rfl rfl fun a S => ?_
  refine r_y S H (y_loadAgg [_, _] 1 S rfl rfl (fun w => ⟨Try.isAgg35 w, Try.sizeOf35 w⟩) rfl rfl ⟨rfl, rfl, trivial⟩) rfl rfl rfl fun a S => ?_
  refine r_y S H (y_move S rfl rfl) rfl rfl rfl fun a S => ?_
  refine r_call (args := #[.agg #[.int .i64 k, .int .u32 ((s : Nat) : Int)], .agg #[.int .i64 ((m : Nat) : Int), .slice A3 gl.length c4], .int .i64 ((J : Nat) : Int)]) S rfl rfl Try.call24 (trace_ct (H := H) _ _ k s (by omega) ((m : Nat) : Int) _ _ gl (SlOk.ofRow (i := 0) H rfl) hgs hgw ((J : Nat) : Int) (by omega)) rfl rfl rfl fun v a w hR S => ?_
  obtain ⟨A5, c6, A7, c8, rfl, H⟩ := hR
  generalize hgC : Tr.traceR k s ((m : Nat) : Int) gl ((J : Nat) : Int) = C at *
  refine r_y S H (y_move S rfl rfl) rfl rfl rfl fun a S => ?_
  refine r_y S H (y_extract (v := .agg #[.slice A5 ((C).1.length) c6, .slice A7 ((C).2.length) c8]) S rfl rfl rfl) rfl rfl rfl fun a S => ?_
  refine r_y S H (y_extract (v := .int .i64 (Tr.err (Tr.may k s ((m : Nat) : Int) gl && decide (0 ≤ ((J : Nat) : Int))))) S rfl rfl rfl) rfl rfl rfl fun a S => ?_
  refine r_alloc S H rfl Try.zeroValue40 rfl rfl rfl rfl fun a w b9 S H => ?_
  refine r_store (vs := [.slice A5 ((C).1.length) c6, .slice A7 ((C).2.length) c8]) 0 S H rfl rfl rfl rfl Try.sizeOf40 rfl rfl (by simp [Value.oneCell']) rfl rfl rfl rfl rfl fun w H => ?_
  refine r_y S H (y_assign S rfl rfl) rfl rfl rfl fun a S => ?_
  refine r_nil ?_
  refine x_then ?_
  refine r_seq ?_
  refine r_region ?_
  refine r_y S H (y_loadAgg [_, _] 5 S rfl rfl (fun w => ⟨Try.isAgg24 w, Try.sizeOf24 w⟩) rfl rfl ⟨rfl, rfl, trivial⟩) rfl rfl rfl fun a S => ?_
  refine r_y S H (y_loadAgg [_, _] 4 S rfl rfl (fun w => ⟨Try.isAgg35 w, Try.sizeOf35 w⟩) rfl rfl ⟨rfl, rfl, trivial⟩) rfl rfl rfl fun a S => ?_
  refine r_y S H (y_move S rfl rfl) rfl rfl rfl fun a S => ?_
  refine r_y S H (y_add S rfl rfl rfl (wi64 (by omega) (by omega))) rfl rfl rfl fun a S => ?_
  have S := S.retell (v' := .int .i64 ((J + 1 : Nat) : Int)) 31 rfl (int_eq (by omega))
  refine r_call (args := #[.agg #[.int .i64 k, .int .u32 ((s : Nat) : Int)], .agg #[.int .i64 ((m : Nat) : Int), .slice A3 gl.length c4], .int .i64 ((J + 1 : Nat) : Int)]) S rfl rfl Try.call24 (trace_ct (H := H) _ _ k s (by omega) ((m : Nat) : Int) _ _ gl (SlOk.ofRow (i := 3) H rfl) hgs hgw ((J + 1 : Nat) : Int) (by omega)) rfl rfl rfl fun v a w hR S => ?_
  obtain ⟨A10, c11, A12, c13, rfl, H⟩ := hR
  generalize hgD : Tr.traceR k s ((m : Nat) : Int) gl ((J + 1 : Nat) : Int) = D at *
  refine r_y S H (y_move S rfl rfl) rfl rfl rfl fun a S => ?_
  refine r_y S H (y_extract (v := .agg #[.slice A10 ((D).1.length) c11, .slice A12 ((D).2.length) c13]) S rfl rfl rfl) rfl rfl rfl fun a S => ?_
  refine r_y S H (y_extract (v := .int .i64 (Tr.err (Tr.may k s ((m : Nat) : Int) gl && decide (0 ≤ ((J + 1 : Nat) : Int))))) S rfl rfl rfl) rfl rfl rfl fun a S => ?_
  refine r_alloc S H rfl Try.zeroValue40 rfl rfl rfl rfl fun a w b14 S H => ?_
  refine r_store (vs := [.slice A10 ((D).1.length) c11, .slice A12 ((D).2.length) c13]) 0 S H rfl rfl rfl rfl Try.sizeOf40 rfl rfl (by simp [Value.oneCell']) rfl rfl rfl rfl rfl fun w H => ?_
  refine r_y S H (y_assign S rfl rfl) rfl rfl rfl fun a S => ?_
  refine r_nil ?_
  refine x_then ?_
  refine r_seq ?_
  refine r_region ?_
  refine r_y S H (y_loadAgg [_, _] 8 S rfl rfl (fun w => ⟨Try.isAgg24 w, Try.sizeOf24 w⟩) rfl rfl ⟨rfl, rfl, trivial⟩) rfl rfl rfl fun a S => ?_
  refine r_y S H (y_loadAgg [_, _] 7 S rfl rfl (fun w => ⟨Try.isAgg35 w, Try.sizeOf35 w⟩) rfl rfl ⟨rfl, rfl, trivial⟩) rfl rfl rfl fun a S => ?_
  refine r_y S H (y_loadAgg [_, _] 3 S rfl rfl (fun w => ⟨Try.isAgg40 w, Try.sizeOf40 w⟩) rfl rfl ⟨rfl, rfl, trivial⟩) rfl rfl rfl fun a S => ?_
  refine r_call (args := #[.agg #[.int .i64 k, .int .u32 ((s : Nat) : Int)], .agg #[.int .i64 ((m : Nat) : Int), .slice A3 gl.length c4], .agg #[.slice A5 ((C).1.length) c6, .slice A7 ((C).2.length) c8]]) S rfl rfl Try.call27 (onestep_ct (H := H) _ _ k s (by omega) ((m : Nat) : Int) _ _ gl (SlOk.ofRow (i := 6) H rfl) hgs _ _ ((C).1) (SlOk.ofRow (i := 4) H rfl) _ _ ((C).2) (SlOk.ofRow (i := 5) H rfl) hgw htopC) rfl rfl rfl fun v a w hR S => ?_
  obtain ⟨A15, c16, A17, c18, rfl, H⟩ := hR
  generalize hgG : Tr.stepR k s ((m : Nat) : Int) gl ((C).1, (C).2) = G at *
  refine r_y S H (y_move S rfl rfl) rfl rfl rfl fun a S => ?_
  refine r_y S H (y_extract (v := .agg #[.slice A15 ((G).1.length) c16, .slice A17 ((G).2.length) c18]) S rfl rfl rfl) rfl rfl rfl fun a S => ?_
  refine r_y S H (y_extract (v := .int .i64 (Tr.err (Tr.stepOk k s ((m : Nat) : Int) gl ((C).1, (C).2)))) S rfl rfl rfl) rfl rfl rfl fun a S => ?_
  refine r_alloc S H rfl Try.zeroValue40 rfl rfl rfl rfl fun a w b19 S H => ?_
  refine r_store (vs := [.slice A15 ((G).1.length) c16, .slice A17 ((G).2.length) c18]) 0 S H rfl rfl rfl rfl Try.sizeOf40 rfl rfl (by simp [Value.oneCell']) rfl rfl rfl rfl rfl fun w H => ?_
  refine r_y S H (y_assign S rfl rfl) rfl rfl rfl fun a S => ?_
  refine r_nil ?_
  refine x_then ?_
  refine r_seq ?_
  refine r_seq ?_
  refine r_region ?_
  refine r_y S H (y_move S rfl rfl) rfl rfl rfl fun a S => ?_
  refine r_y S H (y_ne S rfl rfl rfl) rfl rfl rfl fun a S => ?_
  refine r_nil ?_
  refine x_then ?_
  refine r_test S rfl (fun h43 => ?_) (fun h43 => ?_)
  · skip
    have hM : Tr.may k s m gl = false := by
      cases hM : Tr.may k s m gl with
      | false => rfl
      | true => rw [hM, decide_eq_true (Int.natCast_nonneg _)] at h43; exact absurd rfl h43
    have hso := hno hM
    refine r_seq ?_
    refine wp_via (J := fun a w => Slots a 78 [(0, .agg #[.int .i64 k, .int .u32 ((s : Nat) : Int)]), (1, .agg #[.int .i64 n, .slice A es.length c]), (2, .int .i64 ((J : Nat) : Int)), (3, .pointer (some ⟨b1, 0, none⟩)), (4, .pointer (some ⟨b2, 0, none⟩)), (6, .bool true), (7, .bool true), (8, .pointer (some ⟨b9, 0, none⟩)), (9, .int .i64 (Tr.err (Tr.may k s ((m : Nat) : Int) gl && decide (0 ≤ ((J : Nat) : Int))))), (10, .pointer (some ⟨b14, 0, none⟩)), (11, .int .i64 (Tr.err (Tr.may k s ((m : Nat) : Int) gl && decide (0 ≤ ((J + 1 : Nat) : Int))))), (12, .pointer (some ⟨b19, 0, none⟩)), (13, .int .i64 (Tr.err (Tr.stepOk k s ((m : Nat) : Int) gl ((C).1, (C).2)))), (14, .bool true), (15, .agg #[.int .i64 n, .slice A es.length c]), (16, .agg #[.int .i64 ((m : Nat) : Int), .slice A3 gl.length c4]), (17, .int .i64 j), (18, .int .i64 (j % 65536)), (19, .int .i64 ((J : Nat) : Int)), (20, .tuple #[.agg #[.slice A5 ((C).1.length) c6, .slice A7 ((C).2.length) c8], .int .i64 (Tr.err (Tr.may k s ((m : Nat) : Int) gl && decide (0 ≤ ((J : Nat) : Int))))]), (21, .agg #[.int .i64 k, .int .u32 ((s : Nat) : Int)]), (22, .agg #[.int .i64 ((m : Nat) : Int), .slice A3 gl.length c4]), (23, .int .i64 ((J : Nat) : Int)), (24, .tuple #[.agg #[.slice A5 ((C).1.length) c6, .slice A7 ((C).2.length) c8], .int .i64 (Tr.err (Tr.may k s ((m : Nat) : Int) gl && decide (0 ≤ ((J : Nat) : Int))))]), (25, .agg #[.slice A5 ((C).1.length) c6, .slice A7 ((C).2.length) c8]), (26, .int .i64 (Tr.err (Tr.may k s ((m : Nat) : Int) gl && decide (0 ≤ ((J : Nat) : Int))))), (27, .tuple #[.agg #[.slice A10 ((D).1.length) c11, .slice A12 ((D).2.length) c13], .int .i64 (Tr.err (Tr.may k s ((m : Nat) : Int) gl && decide (0 ≤ ((J + 1 : Nat) : Int))))]), (28, .agg #[.int .i64 k, .int .u32 ((s : Nat) : Int)]), (29, .agg #[.int .i64 ((m : Nat) : Int), .slice A3 gl.length c4]), (30, .int .i64 ((J : Nat) : Int)), (31, .int .i64 ((J + 1 : Nat) : Int)), (32, .tuple #[.agg #[.slice A10 ((D).1.length) c11, .slice A12 ((D).2.length) c13], .int .i64 (Tr.err (Tr.may k s ((m : Nat) : Int) gl && decide (0 ≤ ((J + 1 : Nat) : Int))))]), (33, .agg #[.slice A10 ((D).1.length) c11, .slice A12 ((D).2.length) c13]), (34, .int .i64 (Tr.err (Tr.may k s ((m : Nat) : Int) gl && decide (0 ≤ ((J + 1 : Nat) : Int))))), (35, .tuple #[.agg #[.slice A15 ((G).1.length) c16, .slice A17 ((G).2.length) c18], .int .i64 (Tr.err (Tr.stepOk k s ((m : Nat) : Int) gl ((C).1, (C).2)))]), (36, .agg #[.int .i64 k, .int .u32 ((s : Nat) : Int)]), (37, .agg #[.int .i64 ((m : Nat) : Int), .slice A3 gl.length c4]), (38, .agg #[.slice A5 ((C).1.length) c6, .slice A7 ((C).2.length) c8]), (39, .tuple #[.agg #[.slice A15 ((G).1.length) c16, .slice A17 ((G).2.length) c18], .int .i64 (Tr.err (Tr.stepOk k s ((m : Nat) : Int) gl ((C).1, (C).2)))]), (40, .agg #[.slice A15 ((G).1.length) c16, .slice A17 ((G).2.length) c18]), (41, .int .i64 (Tr.err (Tr.stepOk k s ((m : Nat) : Int) gl ((C).1, (C).2)))), (42, .int .i64 (Tr.err (Tr.may k s ((m : Nat) : Int) gl && decide (0 ≤ ((J : Nat) : Int))))), (43, .bool (decide (Tr.err (Tr.may k s ((m : Nat) : Int) gl && decide (0 ≤ ((J : Nat) : Int))) ≠ 0)))] ∧ Sat w (blk b19 (.cells #[.slice A15 ((G).1.length) c16, .slice A17 ((G).2.length) c18] 40) :: row 25 1 (.slice A15 ((G).1.length) c16) ((G).1.length) (u64s (G).1) :: row 4 1 (.slice A17 ((G).2.length) c18) ((G).2.length) (bools (G).2) :: blk b14 (.cells #[.slice A10 ((D).1.length) c11, .slice A12 ((D).2.length) c13] 40) :: row 25 1 (.slice A10 ((D).1.length) c11) ((D).1.length) (u64s (D).1) :: row 4 1 (.slice A12 ((D).2.length) c13) ((D).2.length) (bools (D).2) :: blk b9 (.cells #[.slice A5 ((C).1.length) c6, .slice A7 ((C).2.length) c8] 40) :: row 25 1 (.slice A5 ((C).1.length) c6) ((C).1.length) (u64s (C).1) :: row 4 1 (.slice A7 ((C).2.length) c8) ((C).2.length) (bools (C).2) :: row 47 3 (.slice A3 gl.length c4) gl.length (ecells gl) :: blk b2 (.cells #[.int .i64 ((m : Nat) : Int), .slice A3 gl.length c4] 35) :: blk b1 (.cells #[.int .i64 k, .int .u32 ((s : Nat) : Int)] 24) :: fr)) ?_ (fun a w hm => ?_)
    · skip
      refine r_region ?_
      refine r_y S H (y_move S rfl rfl) rfl rfl rfl fun a S => ?_
      refine r_y S H (y_move S rfl rfl) rfl rfl rfl fun a S => ?_
      refine r_y S H (y_move S rfl rfl) rfl rfl rfl fun a S => ?_
      refine r_y S H (y_move S rfl rfl) rfl rfl rfl fun a S => ?_
      refine r_y S H (y_eq S rfl rfl rfl) rfl rfl rfl fun a S => ?_
      have S := S.retell (v' := .bool true) 48 rfl (by rw [hM]; rfl)
      refine r_y S H (y_pickT S rfl rfl rfl) rfl rfl rfl fun a S => ?_
      refine r_y S H (y_move S rfl rfl) rfl rfl rfl fun a S => ?_
      refine r_y S H (y_move S rfl rfl) rfl rfl rfl fun a S => ?_
      refine r_y S H (y_move S rfl rfl) rfl rfl rfl fun a S => ?_
      refine r_y S H (y_eq S rfl rfl rfl) rfl rfl rfl fun a S => ?_
      have S := S.retell (v' := .bool true) 53 rfl (by rw [hM, hso]; rfl)
      refine r_y S H (y_pickT S rfl rfl rfl) rfl rfl rfl fun a S => ?_
      refine r_y S H (y_assign S rfl rfl) rfl rfl rfl fun a S => ?_
      refine r_nil ?_
      refine x_then ?_
      exact ⟨S.sub ⟨rfl, rfl, rfl, rfl, rfl, rfl, rfl, rfl, rfl, rfl, rfl, rfl, rfl, rfl, rfl, rfl, rfl, rfl, rfl, rfl, rfl, rfl, rfl, rfl, rfl, rfl, rfl, rfl, rfl, rfl, rfl, rfl, rfl, rfl, rfl, rfl, rfl, rfl, rfl, rfl, rfl, rfl, rfl, trivial⟩, H⟩
    obtain ⟨S, H⟩ := hm
    refine x_then ?_
    refine wp_ret ?_
    refine x_thenRet ?_
    refine r_ret1 S H Try.results11 (ro_tmp S rfl) ?_
    exact ⟨rfl, H.drop.drop.drop.drop.drop.drop.drop.drop.drop.drop.drop.drop⟩
  · skip
    have hM : Tr.may k s m gl = true := by
      cases hM : Tr.may k s m gl with
      | false => exact absurd (by rw [hM]; show (1 : Int) ≠ 0; decide) h43
      | true => rfl
    obtain ⟨hso, hde, hcd⟩ := hyes hM
    refine wp_skip ?_
    refine x_then ?_
    refine r_seq ?_
    refine r_seq ?_
    refine wp_via (J := fun a w => Slots a 78 [(0, .agg #[.int .i64 k, .int .u32 ((s : Nat) : Int)]), (1, .agg #[.int .i64 n, .slice A es.length c]), (2, .int .i64 ((J : Nat) : Int)), (3, .pointer (some ⟨b1, 0, none⟩)), (4, .pointer (some ⟨b2, 0, none⟩)), (6, .bool false), (7, .bool true), (8, .pointer (some ⟨b9, 0, none⟩)), (9, .int .i64 (Tr.err (Tr.may k s ((m : Nat) : Int) gl && decide (0 ≤ ((J : Nat) : Int))))), (10, .pointer (some ⟨b14, 0, none⟩)), (11, .int .i64 (Tr.err (Tr.may k s ((m : Nat) : Int) gl && decide (0 ≤ ((J + 1 : Nat) : Int))))), (12, .pointer (some ⟨b19, 0, none⟩)), (13, .int .i64 (Tr.err (Tr.stepOk k s ((m : Nat) : Int) gl ((C).1, (C).2)))), (14, .bool true), (15, .agg #[.int .i64 n, .slice A es.length c]), (16, .agg #[.int .i64 ((m : Nat) : Int), .slice A3 gl.length c4]), (17, .int .i64 j), (18, .int .i64 (j % 65536)), (19, .int .i64 ((J : Nat) : Int)), (20, .tuple #[.agg #[.slice A5 ((C).1.length) c6, .slice A7 ((C).2.length) c8], .int .i64 (Tr.err (Tr.may k s ((m : Nat) : Int) gl && decide (0 ≤ ((J : Nat) : Int))))]), (21, .agg #[.int .i64 k, .int .u32 ((s : Nat) : Int)]), (22, .agg #[.int .i64 ((m : Nat) : Int), .slice A3 gl.length c4]), (23, .int .i64 ((J : Nat) : Int)), (24, .tuple #[.agg #[.slice A5 ((C).1.length) c6, .slice A7 ((C).2.length) c8], .int .i64 (Tr.err (Tr.may k s ((m : Nat) : Int) gl && decide (0 ≤ ((J : Nat) : Int))))]), (25, .agg #[.slice A5 ((C).1.length) c6, .slice A7 ((C).2.length) c8]), (26, .int .i64 (Tr.err (Tr.may k s ((m : Nat) : Int) gl && decide (0 ≤ ((J : Nat) : Int))))), (27, .tuple #[.agg #[.slice A10 ((D).1.length) c11, .slice A12 ((D).2.length) c13], .int .i64 (Tr.err (Tr.may k s ((m : Nat) : Int) gl && decide (0 ≤ ((J + 1 : Nat) : Int))))]), (28, .agg #[.int .i64 k, .int .u32 ((s : Nat) : Int)]), (29, .agg #[.int .i64 ((m : Nat) : Int), .slice A3 gl.length c4]), (30, .int .i64 ((J : Nat) : Int)), (31, .int .i64 ((J + 1 : Nat) : Int)), (32, .tuple #[.agg #[.slice A10 ((D).1.length) c11, .slice A12 ((D).2.length) c13], .int .i64 (Tr.err (Tr.may k s ((m : Nat) : Int) gl && decide (0 ≤ ((J + 1 : Nat) : Int))))]), (33, .agg #[.slice A10 ((D).1.length) c11, .slice A12 ((D).2.length) c13]), (34, .int .i64 (Tr.err (Tr.may k s ((m : Nat) : Int) gl && decide (0 ≤ ((J + 1 : Nat) : Int))))), (35, .tuple #[.agg #[.slice A15 ((G).1.length) c16, .slice A17 ((G).2.length) c18], .int .i64 (Tr.err (Tr.stepOk k s ((m : Nat) : Int) gl ((C).1, (C).2)))]), (36, .agg #[.int .i64 k, .int .u32 ((s : Nat) : Int)]), (37, .agg #[.int .i64 ((m : Nat) : Int), .slice A3 gl.length c4]), (38, .agg #[.slice A5 ((C).1.length) c6, .slice A7 ((C).2.length) c8]), (39, .tuple #[.agg #[.slice A15 ((G).1.length) c16, .slice A17 ((G).2.length) c18], .int .i64 (Tr.err (Tr.stepOk k s ((m : Nat) : Int) gl ((C).1, (C).2)))]), (40, .agg #[.slice A15 ((G).1.length) c16, .slice A17 ((G).2.length) c18]), (41, .int .i64 (Tr.err (Tr.stepOk k s ((m : Nat) : Int) gl ((C).1, (C).2)))), (42, .int .i64 (Tr.err (Tr.may k s ((m : Nat) : Int) gl && decide (0 ≤ ((J : Nat) : Int))))), (43, .bool (decide (Tr.err (Tr.may k s ((m : Nat) : Int) gl && decide (0 ≤ ((J : Nat) : Int))) ≠ 0))), (66, .bool false)] ∧ Sat w (blk b19 (.cells #[.slice A15 ((G).1.length) c16, .slice A17 ((G).2.length) c18] 40) :: row 25 1 (.slice A15 ((G).1.length) c16) ((G).1.length) (u64s (G).1) :: row 4 1 (.slice A17 ((G).2.length) c18) ((G).2.length) (bools (G).2) :: blk b14 (.cells #[.slice A10 ((D).1.length) c11, .slice A12 ((D).2.length) c13] 40) :: row 25 1 (.slice A10 ((D).1.length) c11) ((D).1.length) (u64s (D).1) :: row 4 1 (.slice A12 ((D).2.length) c13) ((D).2.length) (bools (D).2) :: blk b9 (.cells #[.slice A5 ((C).1.length) c6, .slice A7 ((C).2.length) c8] 40) :: row 25 1 (.slice A5 ((C).1.length) c6) ((C).1.length) (u64s (C).1) :: row 4 1 (.slice A7 ((C).2.length) c8) ((C).2.length) (bools (C).2) :: row 47 3 (.slice A3 gl.length c4) gl.length (ecells gl) :: blk b2 (.cells #[.int .i64 ((m : Nat) : Int), .slice A3 gl.length c4] 35) :: blk b1 (.cells #[.int .i64 k, .int .u32 ((s : Nat) : Int)] 24) :: fr)) ?_ (fun a w hm => ?_)
    · skip
      refine r_region ?_
      refine r_y S H (y_move S rfl rfl) rfl rfl rfl fun a S => ?_
      refine r_y S H (y_ne S rfl rfl rfl) rfl rfl rfl fun a S => ?_
      have S := S.retell (v' := .bool false) 56 rfl (by rw [hM, decide_eq_true (Int.natCast_nonneg _)]; rfl)
      refine r_y S H (y_move S rfl rfl) rfl rfl rfl fun a S => ?_
      refine r_y S H (y_move S rfl rfl) rfl rfl rfl fun a S => ?_
      refine r_y S H (y_ne S rfl rfl rfl) rfl rfl rfl fun a S => ?_
      have S := S.retell (v' := .bool false) 59 rfl (by rw [hso]; rfl)
      refine r_y S H (y_pickF S rfl rfl rfl) rfl rfl rfl fun a S => ?_
      refine r_y S H (y_move S rfl rfl) rfl rfl rfl fun a S => ?_
      refine r_y S H (y_loadAgg [_, _] 3 S rfl rfl (fun w => ⟨Try.isAgg40 w, Try.sizeOf40 w⟩) rfl rfl ⟨rfl, rfl, trivial⟩) rfl rfl rfl fun a S => ?_
      refine r_y S H (y_loadAgg [_, _] 0 S rfl rfl (fun w => ⟨Try.isAgg40 w, Try.sizeOf40 w⟩) rfl rfl ⟨rfl, rfl, trivial⟩) rfl rfl rfl fun a S => ?_
      refine r_call (args := #[.agg #[.slice A10 ((D).1.length) c11, .slice A12 ((D).2.length) c13], .agg #[.slice A15 ((G).1.length) c16, .slice A17 ((G).2.length) c18]]) S rfl rfl Try.call26 (same_ct (H := H) _ _ _ _ ((D).1) (SlOk.ofRow (i := 4) H rfl) _ _ ((D).2) (SlOk.ofRow (i := 5) H rfl) _ _ ((G).1) (SlOk.ofRow (i := 1) H rfl) _ _ ((G).2) (SlOk.ofRow (i := 2) H rfl)) rfl rfl rfl fun v a w hR S => ?_
      obtain ⟨rfl, H⟩ := hR
      refine r_y S H (y_not S rfl rfl) rfl rfl rfl fun a S => ?_
      have S := S.retell (v' := .bool false) 65 rfl (by rw [hde]; simp)
      refine r_y S H (y_pickF S rfl rfl rfl) rfl rfl rfl fun a S => ?_
      refine r_nil ?_
      refine x_then ?_
      exact ⟨S.sub ⟨rfl, rfl, rfl, rfl, rfl, rfl, rfl, rfl, rfl, rfl, rfl, rfl, rfl, rfl, rfl, rfl, rfl, rfl, rfl, rfl, rfl, rfl, rfl, rfl, rfl, rfl, rfl, rfl, rfl, rfl, rfl, rfl, rfl, rfl, rfl, rfl, rfl, rfl, rfl, rfl, rfl, rfl, rfl, rfl, trivial⟩, H⟩
    obtain ⟨S, H⟩ := hm
    refine x_then ?_
    refine r_condF S rfl ?_
    refine wp_skip ?_
    refine x_then ?_
    refine r_seq ?_
    refine wp_via (J := fun a w => Slots a 78 [(0, .agg #[.int .i64 k, .int .u32 ((s : Nat) : Int)]), (1, .agg #[.int .i64 n, .slice A es.length c]), (2, .int .i64 ((J : Nat) : Int)), (3, .pointer (some ⟨b1, 0, none⟩)), (4, .pointer (some ⟨b2, 0, none⟩)), (6, .bool ((!(quiet ((C).2))) || (decide (((C).1, (C).2) = ((D).1, (D).2))))), (7, .bool true), (8, .pointer (some ⟨b9, 0, none⟩)), (9, .int .i64 (Tr.err (Tr.may k s ((m : Nat) : Int) gl && decide (0 ≤ ((J : Nat) : Int))))), (10, .pointer (some ⟨b14, 0, none⟩)), (11, .int .i64 (Tr.err (Tr.may k s ((m : Nat) : Int) gl && decide (0 ≤ ((J + 1 : Nat) : Int))))), (12, .pointer (some ⟨b19, 0, none⟩)), (13, .int .i64 (Tr.err (Tr.stepOk k s ((m : Nat) : Int) gl ((C).1, (C).2)))), (14, .bool true), (15, .agg #[.int .i64 n, .slice A es.length c]), (16, .agg #[.int .i64 ((m : Nat) : Int), .slice A3 gl.length c4]), (17, .int .i64 j), (18, .int .i64 (j % 65536)), (19, .int .i64 ((J : Nat) : Int)), (20, .tuple #[.agg #[.slice A5 ((C).1.length) c6, .slice A7 ((C).2.length) c8], .int .i64 (Tr.err (Tr.may k s ((m : Nat) : Int) gl && decide (0 ≤ ((J : Nat) : Int))))]), (21, .agg #[.int .i64 k, .int .u32 ((s : Nat) : Int)]), (22, .agg #[.int .i64 ((m : Nat) : Int), .slice A3 gl.length c4]), (23, .int .i64 ((J : Nat) : Int)), (24, .tuple #[.agg #[.slice A5 ((C).1.length) c6, .slice A7 ((C).2.length) c8], .int .i64 (Tr.err (Tr.may k s ((m : Nat) : Int) gl && decide (0 ≤ ((J : Nat) : Int))))]), (25, .agg #[.slice A5 ((C).1.length) c6, .slice A7 ((C).2.length) c8]), (26, .int .i64 (Tr.err (Tr.may k s ((m : Nat) : Int) gl && decide (0 ≤ ((J : Nat) : Int))))), (27, .tuple #[.agg #[.slice A10 ((D).1.length) c11, .slice A12 ((D).2.length) c13], .int .i64 (Tr.err (Tr.may k s ((m : Nat) : Int) gl && decide (0 ≤ ((J + 1 : Nat) : Int))))]), (28, .agg #[.int .i64 k, .int .u32 ((s : Nat) : Int)]), (29, .agg #[.int .i64 ((m : Nat) : Int), .slice A3 gl.length c4]), (30, .int .i64 ((J : Nat) : Int)), (31, .int .i64 ((J + 1 : Nat) : Int)), (32, .tuple #[.agg #[.slice A10 ((D).1.length) c11, .slice A12 ((D).2.length) c13], .int .i64 (Tr.err (Tr.may k s ((m : Nat) : Int) gl && decide (0 ≤ ((J + 1 : Nat) : Int))))]), (33, .agg #[.slice A10 ((D).1.length) c11, .slice A12 ((D).2.length) c13]), (34, .int .i64 (Tr.err (Tr.may k s ((m : Nat) : Int) gl && decide (0 ≤ ((J + 1 : Nat) : Int))))), (35, .tuple #[.agg #[.slice A15 ((G).1.length) c16, .slice A17 ((G).2.length) c18], .int .i64 (Tr.err (Tr.stepOk k s ((m : Nat) : Int) gl ((C).1, (C).2)))]), (36, .agg #[.int .i64 k, .int .u32 ((s : Nat) : Int)]), (37, .agg #[.int .i64 ((m : Nat) : Int), .slice A3 gl.length c4]), (38, .agg #[.slice A5 ((C).1.length) c6, .slice A7 ((C).2.length) c8]), (39, .tuple #[.agg #[.slice A15 ((G).1.length) c16, .slice A17 ((G).2.length) c18], .int .i64 (Tr.err (Tr.stepOk k s ((m : Nat) : Int) gl ((C).1, (C).2)))]), (40, .agg #[.slice A15 ((G).1.length) c16, .slice A17 ((G).2.length) c18]), (41, .int .i64 (Tr.err (Tr.stepOk k s ((m : Nat) : Int) gl ((C).1, (C).2)))), (42, .int .i64 (Tr.err (Tr.may k s ((m : Nat) : Int) gl && decide (0 ≤ ((J : Nat) : Int))))), (43, .bool (decide (Tr.err (Tr.may k s ((m : Nat) : Int) gl && decide (0 ≤ ((J : Nat) : Int))) ≠ 0))), (66, .bool false)] ∧ Sat w (blk b19 (.cells #[.slice A15 ((G).1.length) c16, .slice A17 ((G).2.length) c18] 40) :: row 25 1 (.slice A15 ((G).1.length) c16) ((G).1.length) (u64s (G).1) :: row 4 1 (.slice A17 ((G).2.length) c18) ((G).2.length) (bools (G).2) :: blk b14 (.cells #[.slice A10 ((D).1.length) c11, .slice A12 ((D).2.length) c13] 40) :: row 25 1 (.slice A10 ((D).1.length) c11) ((D).1.length) (u64s (D).1) :: row 4 1 (.slice A12 ((D).2.length) c13) ((D).2.length) (bools (D).2) :: blk b9 (.cells #[.slice A5 ((C).1.length) c6, .slice A7 ((C).2.length) c8] 40) :: row 25 1 (.slice A5 ((C).1.length) c6) ((C).1.length) (u64s (C).1) :: row 4 1 (.slice A7 ((C).2.length) c8) ((C).2.length) (bools (C).2) :: row 47 3 (.slice A3 gl.length c4) gl.length (ecells gl) :: blk b2 (.cells #[.int .i64 ((m : Nat) : Int), .slice A3 gl.length c4] 35) :: blk b1 (.cells #[.int .i64 k, .int .u32 ((s : Nat) : Int)] 24) :: fr)) ?_ (fun a w hm => ?_)
    · skip
      refine r_region ?_
      refine r_y S H (y_move S rfl rfl) rfl rfl rfl fun a S => ?_
      refine r_y S H (y_move S rfl rfl) rfl rfl rfl fun a S => ?_
      refine r_y S H (y_loadAgg [_, _] 6 S rfl rfl (fun w => ⟨Try.isAgg40 w, Try.sizeOf40 w⟩) rfl rfl ⟨rfl, rfl, trivial⟩) rfl rfl rfl fun a S => ?_
      refine r_call (args := #[.agg #[.slice A5 ((C).1.length) c6, .slice A7 ((C).2.length) c8]]) S rfl rfl Try.call25 (quiet_ct (H := H) _ _ _ _ ((C).1) (SlOk.ofRow (i := 7) H rfl) _ _ ((C).2) (SlOk.ofRow (i := 8) H rfl)) rfl rfl rfl fun v a w hR S => ?_
      obtain ⟨rfl, H⟩ := hR
      refine r_y S H (y_not S rfl rfl) rfl rfl rfl fun a S => ?_
      refine r_y S H (y_move S rfl rfl) rfl rfl rfl fun a S => ?_
      refine splitB S (d := 72) rfl (fun g72 S => ?_) (fun g72 S => ?_)
      · skip
        refine r_skip S rfl rfl rfl fun a S => ?_
        refine r_skip S rfl rfl rfl fun a S => ?_
        refine r_skip S rfl rfl rfl fun a S => ?_
        refine r_y S H (y_pickT S rfl rfl rfl) rfl rfl rfl fun a S => ?_
        refine r_y S H (y_pickT S rfl rfl rfl) rfl rfl rfl fun a S => ?_
        refine r_y S H (y_assign S rfl rfl) rfl rfl rfl fun a S => ?_
        refine r_nil ?_
        refine x_then ?_
        exact ⟨S.sub ⟨rfl, rfl, rfl, rfl, rfl, (show lk _ _ = some (.bool true) from rfl).trans (by first | (simp only [g72, decide_true, decide_false, Bool.true_and, Bool.false_and, Bool.true_or, Bool.false_or]; done) | (simp [-List.getD_eq_getElem?_getD, g72]; done) | (simp [-List.getD_eq_getElem?_getD, g72]; omega)), rfl, rfl, rfl, rfl, rfl, rfl, rfl, rfl, rfl, rfl, rfl, rfl, rfl, rfl, rfl, rfl, rfl, rfl, rfl, rfl, rfl, rfl, rfl, rfl, rfl, rfl, rfl, rfl, rfl, rfl, rfl, rfl, rfl, rfl, rfl, rfl, rfl, rfl, trivial⟩, H⟩
      · skip
        refine r_y S H (y_loadAgg [_, _] 6 S rfl rfl (fun w => ⟨Try.isAgg40 w, Try.sizeOf40 w⟩) rfl rfl ⟨rfl, rfl, trivial⟩) rfl rfl rfl fun a S => ?_
        refine r_y S H (y_loadAgg [_, _] 3 S rfl rfl (fun w => ⟨Try.isAgg40 w, Try.sizeOf40 w⟩) rfl rfl ⟨rfl, rfl, trivial⟩) rfl rfl rfl fun a S => ?_
        refine r_call (args := #[.agg #[.slice A5 ((C).1.length) c6, .slice A7 ((C).2.length) c8], .agg #[.slice A10 ((D).1.length) c11, .slice A12 ((D).2.length) c13]]) S rfl rfl Try.call26 (same_ct (H := H) _ _ _ _ ((C).1) (SlOk.ofRow (i := 7) H rfl) _ _ ((C).2) (SlOk.ofRow (i := 8) H rfl) _ _ ((D).1) (SlOk.ofRow (i := 4) H rfl) _ _ ((D).2) (SlOk.ofRow (i := 5) H rfl)) rfl rfl rfl fun v a w hR S => ?_
        obtain ⟨rfl, H⟩ := hR
        refine r_y S H (y_pickF S rfl rfl rfl) rfl rfl rfl fun a S => ?_
        refine r_y S H (y_pickT S rfl rfl rfl) rfl rfl rfl fun a S => ?_
        refine r_y S H (y_assign S rfl rfl) rfl rfl rfl fun a S => ?_
        refine r_nil ?_
        refine x_then ?_
        exact ⟨S.sub ⟨rfl, rfl, rfl, rfl, rfl, (show lk _ _ = some (.bool (decide (((C).1, (C).2) = ((D).1, (D).2)))) from rfl).trans (by first | (simp only [g72, decide_true, decide_false, Bool.true_and, Bool.false_and, Bool.true_or, Bool.false_or]; done) | (simp [-List.getD_eq_getElem?_getD, g72]; done) | (simp [-List.getD_eq_getElem?_getD, g72]; omega)), rfl, rfl, rfl, rfl, rfl, rfl, rfl, rfl, rfl, rfl, rfl, rfl, rfl, rfl, rfl, rfl, rfl, rfl, rfl, rfl, rfl, rfl, rfl, rfl, rfl, rfl, rfl, rfl, rfl, rfl, rfl, rfl, rfl, rfl, rfl, rfl, rfl, rfl, trivial⟩, H⟩
    obtain ⟨S, H⟩ := hm
    refine x_then ?_
    refine wp_ret ?_
    refine r_ret1 S H Try.results11 (ro_tmp S rfl) ?_
    refine ⟨congrArg Value.bool ?_, H.drop.drop.drop.drop.drop.drop.drop.drop.drop.drop.drop.drop⟩
    cases hqc : quiet C.2 with
    | false => simp
    | true => simp [hcd hqc]

end Go.Proofs.Ytfmpgdhmfjllnaa
