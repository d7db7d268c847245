/- Walks of functions of the program, over slots and resources. No condition. -/
import Derived.Test.YtfmpgdhmfjllnaaW13g
import Derived.Test.YtfmpgdhmfjllnaaTy
namespace Go.Proofs.Ytfmpgdhmfjllnaa
open Go.RowKit Go.Cg
set_option linter.unusedVariables false
set_option linter.unusedSimpArgs false
open Go.Cg.Tr (E top right graph quiet msg comb nxt summed)
set_option maxRecDepth 4000 in
theorem law_order (w : World) (fr : List Res) (k : Int) (s : Nat) (hs : s < 4294967296) (n : Int) (A : Option Addr) (c : Nat) (es : List E) (ok : SlOk fr 3 A es.length c (ecells es)) (hes : ∀ e ∈ es, e.f < 4294967296 ∧ e.t < 4294967296) (hew : ∀ e ∈ es, e.w < 4294967296) (j : Int) (hj : -9223372036854775808 ≤ j ∧ j ≤ 9223372036854775807) (H : Sat w (fr)) :
    Rt Try.prog 8 #[.agg #[.int .i64 k, .int .u32 ((s : Nat) : Int)], .agg #[.int .i64 n, .slice A es.length c], .int .i64 j] w fun v w' => v = .bool true ∧ Sat w' fr := by
  refine rt_enter Try.func8 rfl (n := 65) Try.ntmps8 rfl fun a S => ?_
  refine r_seq ?_
  refine r_region ?_
  refine r_box (c := #[.int .i64 k, .int .u32 ((s : Nat) : Int)]) S H rfl rfl rfl rfl rfl rfl fun a w b1 S H => ?_
  refine r_box (c := #[.int .i64 n, .slice A es.length c]) S H rfl rfl rfl rfl rfl rfl fun a w b2 S H => ?_
  refine r_y S H (y_assign S rfl rfl) rfl rfl rfl fun a S => ?_
  refine r_nil ?_
  refine x_then ?_
  refine r_seq ?_
  refine r_region ?_
  refine r_call (args := #[]) S rfl rfl Try.call14 (shown_ct (H := H) _ _) rfl rfl rfl fun v a w hR S => ?_
  obtain ⟨rfl, H⟩ := hR
  refine r_y S H (y_assign S rfl rfl) rfl rfl rfl fun a S => ?_
  refine r_nil ?_
  refine x_then ?_
  refine r_seq ?_
  refine r_region ?_
  refine r_y S H (y_loadAgg [_, _] 0 S rfl rfl (fun w => ⟨Try.isAgg35 w, Try.sizeOf35 w⟩) rfl rfl ⟨rfl, rfl, trivial⟩) rfl rfl rfl fun a S => ?_
  refine r_call (args := #[.agg #[.int .i64 n, .slice A es.length c]]) S rfl rfl Try.call23 (few_ct2 (H := H) _ _ n _ _ es ((ok.more _).more _) hes) rfl rfl rfl fun v a w hR S => ?_
  obtain ⟨m, gl, A3, c4, hfew, rfl, H⟩ := hR
  have hm60 := hfew.hm
  have hgl := hfew.hl
  have hgs : ∀ e ∈ gl, e.f < 4294967296 ∧ e.t < 4294967296 := fun e he => hes e (hfew.sub e he)
  have hgw : ∀ e ∈ gl, e.w < 4294967296 := fun e he => hew e (hfew.sub e he)
  have hge := hfew.edges
  refine r_store (vs := [.int .i64 ((m : Nat) : Int), .slice A3 gl.length c4]) 1 S H rfl rfl rfl rfl Try.sizeOf35 rfl rfl (by simp [Value.oneCell']) rfl rfl rfl rfl rfl fun w H => ?_
  refine r_nil ?_
  refine x_then ?_
  refine r_seq ?_
  refine r_region ?_
  refine r_y S H (y_move S rfl rfl) rfl rfl rfl fun a S => ?_
  refine r_y S H (y_bitop S rfl rfl rfl (fun w => Tr.mask7 j w)) rfl rfl rfl fun a S => ?_
  obtain ⟨J, hJ, hJ8⟩ : ∃ J : Nat, j % 8 = J ∧ J < 8 := ⟨(j % 8).toNat, by omega, by omega⟩
  have S := S.retell (v' := .int .i64 ((J : Nat) : Int)) 18 rfl (int_eq (by omega))
  refine r_y S H (y_assign S rfl rfl) rfl rfl rfl fun a S => ?_
  refine r_nil ?_
  refine x_then ?_
  refine r_seq ?_
  refine r_region ?_
  refine r_y S H (y_fieldAddr S rfl rfl fa35_0) rfl rfl rfl fun a S => ?_
  refine r_y S H (y_load 1 S rfl rfl Try.isAgg3 rfl rfl) rfl rfl rfl fun a S => ?_
  refine r_y S H (y_build (vs := #[(0, .int .i64 ((m : Nat) : Int))]) (v := .agg #[.int .i64 ((m : Nat) : Int), .slice none 0 0]) S rfl rfl (fun w => by kernel_rfl)) rfl rfl rfl fun a S => ?_
  refine r_alloc S H rfl Try.zeroValue35 rfl rfl rfl rfl fun a w b5 S H => ?_
  refine r_store (vs := [.int .i64 ((m : Nat) : Int), .slice none 0 0]) 0 S H rfl rfl rfl rfl Try.sizeOf35 rfl rfl (by simp [Value.oneCell']) rfl rfl rfl rfl rfl fun w H => ?_
  refine r_nil ?_
  refine x_then ?_
  refine r_seq ?_
  refine r_seq ?_
  refine r_region ?_
  refine r_y S H (y_fieldAddr S rfl rfl fa35_1) rfl rfl rfl fun a S => ?_
  refine r_y S H (y_load 2 S rfl rfl Try.isAgg33 rfl rfl) rfl rfl rfl fun a S => ?_
  refine r_y S H (y_len S rfl rfl Try.underlying33) rfl rfl rfl fun a S => ?_
  refine r_y S H (y_assign S rfl rfl) rfl rfl rfl fun a S => ?_
  refine r_nil ?_
  refine x_then ?_
  refine r_block ?_
  refine r_loop (ι := Nat × List E × Option Addr × Nat) (fun ⟨i, hl, Ah, ch⟩ a w => Slots a 65 [(0, .agg #[.int .i64 k, .int .u32 ((s : Nat) : Int)]), (1, .agg #[.int .i64 n, .slice A es.length c]), (2, .int .i64 ((J : Nat) : Int)), (3, .pointer (some ⟨b1, 0, none⟩)), (4, .pointer (some ⟨b2, 0, none⟩)), (6, .bool false), (7, .bool true), (8, .pointer (some ⟨b5, 0, none⟩)), (9, .int .i64 ((i : Nat) : Int)), (14, .bool true), (15, .agg #[.int .i64 n, .slice A es.length c]), (16, .agg #[.int .i64 ((m : Nat) : Int), .slice A3 gl.length c4]), (17, .int .i64 j), (18, .int .i64 ((J : Nat) : Int)), (19, .pointer (some ⟨b2, 0, none⟩)), (20, .int .i64 ((m : Nat) : Int)), (21, .agg #[.int .i64 ((m : Nat) : Int), .slice none 0 0]), (22, .pointer (some ⟨b2, 1, none⟩)), (23, .slice A3 gl.length c4), (24, .int .i64 ((gl.length : Nat) : Int))] ∧ Sat w (row 47 3 (.slice Ah hl.length ch) hl.length (ecells hl) :: blk b5 (.cells #[.int .i64 ((m : Nat) : Int), .slice Ah hl.length ch] 35) :: row 47 3 (.slice A3 gl.length c4) gl.length (ecells gl) :: blk b2 (.cells #[.int .i64 ((m : Nat) : Int), .slice A3 gl.length c4] 35) :: blk b1 (.cells #[.int .i64 k, .int .u32 ((s : Nat) : Int)] 24) :: fr) ∧ (i ≤ gl.length ∧ hl = (gl.drop i).reverse)) (fun ⟨i, hl, Ah, ch⟩ => i) (gl.length, [], none, 0) ⟨S.sub ⟨rfl, rfl, rfl, rfl, rfl, rfl, rfl, rfl, rfl, rfl, rfl, rfl, rfl, rfl, rfl, rfl, rfl, rfl, rfl, rfl, trivial⟩, (H.nilRow 47 3), ⟨Nat.le_refl _, by simp⟩⟩ (fun ⟨i, hl, Ah, ch⟩ a w hI => ?_)
  obtain ⟨S, H, hI⟩ := hI
  obtain ⟨hi, hhl⟩ := hI
  have hrl : hl.length ≤ 40 := by rw [hhl]; simp; omega
  refine r_seq ?_
  refine r_seq ?_
  refine r_region ?_
  refine r_y S H (y_move S rfl rfl) rfl rfl rfl fun a S => ?_
  refine r_y S H (y_gt S rfl rfl rfl) rfl rfl rfl fun a S => ?_
  refine r_nil ?_
  refine x_then ?_
  refine r_test S rfl (fun h26 => ?_) (fun h26 => ?_)
  · skip
    refine wp_skip ?_
    refine x_then ?_
    refine r_seq ?_
    refine r_block ?_
    obtain ⟨b6, rfl⟩ := H.rowAt (i := 2) rfl (by first | omega | (simp <;> omega))
    refine wp_via (J := fun a w => ∃ b26 : Nat, ∃ A27 : Option Addr, ∃ c28 : Nat, Slots a 65 [(0, .agg #[.int .i64 k, .int .u32 ((s : Nat) : Int)]), (1, .agg #[.int .i64 n, .slice A es.length c]), (2, .int .i64 ((J : Nat) : Int)), (3, .pointer (some ⟨b1, 0, none⟩)), (4, .pointer (some ⟨b2, 0, none⟩)), (6, .bool false), (7, .bool true), (8, .pointer (some ⟨b5, 0, none⟩)), (9, .int .i64 ((i : Nat) : Int)), (14, .bool true), (15, .agg #[.int .i64 n, .slice A es.length c]), (16, .agg #[.int .i64 ((m : Nat) : Int), .slice (some ⟨b6, 0, none⟩) gl.length c4]), (17, .int .i64 j), (18, .int .i64 ((J : Nat) : Int)), (19, .pointer (some ⟨b2, 0, none⟩)), (20, .int .i64 ((m : Nat) : Int)), (21, .agg #[.int .i64 ((m : Nat) : Int), .slice none 0 0]), (22, .pointer (some ⟨b2, 1, none⟩)), (23, .slice (some ⟨b6, 0, none⟩) gl.length c4), (24, .int .i64 ((gl.length : Nat) : Int)), (25, .int .i64 ((i : Nat) : Int)), (26, .bool (decide (0 < ((i : Nat) : Int))))] ∧ Sat w (row 47 3 (.slice (some ⟨b26, 0, none⟩) 1 1) 1 (ecells [(gl.getD (i - 1) e0)]) :: row 47 3 (.slice A27 ((hl ++ [(gl.getD (i - 1) e0)]).length) c28) ((hl ++ [(gl.getD (i - 1) e0)]).length) (ecells (hl ++ ([(gl.getD (i - 1) e0)]))) :: blk b5 (.cells #[.int .i64 ((m : Nat) : Int), .slice A27 ((hl ++ [(gl.getD (i - 1) e0)]).length) c28] 35) :: row 47 3 (.slice (some ⟨b6, 0, none⟩) gl.length c4) gl.length (ecells gl) :: blk b2 (.cells #[.int .i64 ((m : Nat) : Int), .slice (some ⟨b6, 0, none⟩) gl.length c4] 35) :: blk b1 (.cells #[.int .i64 k, .int .u32 ((s : Nat) : Int)] 24) :: fr)) ?_ (fun a w hm => ?_)
    · skip
      refine h_start (row 47 3 (.slice (some ⟨b6, 0, none⟩) gl.length c4) gl.length (ecells gl) :: blk b2 (.cells #[.int .i64 ((m : Nat) : Int), .slice (some ⟨b6, 0, none⟩) gl.length c4] 35) :: blk b1 (.cells #[.int .i64 k, .int .u32 ((s : Nat) : Int)] 24) :: fr) (ls := [false, false, false, false, false, false, false, false, false, false, false, false]) H rfl rfl fun w H => ?_
      have HS : Sat _ (row 47 3 (.slice (some ⟨b6, 0, none⟩) gl.length c4) gl.length (ecells gl) :: blk b2 (.cells #[.int .i64 ((m : Nat) : Int), .slice (some ⟨b6, 0, none⟩) gl.length c4] 35) :: blk b1 (.cells #[.int .i64 k, .int .u32 ((s : Nat) : Int)] 24) :: fr) := ((((H.fetch (i := 4) rfl).fetch (i := 4) rfl).fetch (i := 4) rfl).sub (.cons_cons _ (.cons_cons _ (.cons_cons _ (.cons _ (.cons _ (List.Sublist.refl _)))))))
      refine h_y 0 S HS rfl (y_fieldAddr S rfl rfl fa35_1) rfl rfl rfl (by kernel_rfl) (by kernel_rfl) (by kernel_rfl) (ls' := [true, false, false, false, false, false, false, false, false, false, false, false]) rfl (fun _ _ _ h => h) fun a S => ?_
      refine h_y 2 S HS rfl (y_fieldAddr S rfl rfl fa35_1) rfl rfl rfl (by kernel_rfl) (by kernel_rfl) (by kernel_rfl) (ls' := [true, false, true, false, false, false, false, false, false, false, false, false]) rfl (fun _ _ _ h => h) fun a S => ?_
      refine h_y 3 S HS rfl (y_load 1 S rfl rfl Try.isAgg33 rfl rfl) rfl rfl rfl (by kernel_rfl) (by kernel_rfl) (by kernel_rfl) (ls' := [true, false, true, true, false, false, false, false, false, false, false, false]) rfl (fun _ _ _ h => h) fun a S => ?_
      refine h_y 4 S HS rfl (y_move S rfl rfl) rfl rfl rfl (by kernel_rfl) (by kernel_rfl) (by kernel_rfl) (ls' := [true, false, true, true, true, false, false, false, false, false, false, false]) rfl (fun _ _ _ h => h) fun a S => ?_
      refine h_y 5 S HS rfl (y_sub S rfl rfl rfl (wi64 (by omega) (by omega))) rfl rfl rfl (by kernel_rfl) (by kernel_rfl) (by kernel_rfl) (ls' := [true, false, true, true, true, true, false, false, false, false, false, false]) rfl (fun _ _ _ h => h) fun a S => ?_
      have S := S.retell (v' := .int .i64 ((i - 1 : Nat) : Int)) 34 rfl (int_eq (by omega))
      refine h_y 6 S HS rfl (y_index S rfl rfl rfl Try.underlying33 Try.sizeOf47 (by omega) (by omega)) rfl rfl rfl (by kernel_rfl) (by kernel_rfl) (by kernel_rfl) (ls' := [true, false, true, true, true, true, true, false, false, false, false, false]) rfl (fun _ _ _ h => h) fun a S => ?_
      refine h_y 7 S HS rfl (y_loadAggAt [.int .u32 (((gl.getD (i - 1) e0).f : Nat) : Int), .int .u32 (((gl.getD (i - 1) e0).t : Nat) : Int), .int .u32 (((gl.getD (i - 1) e0).w : Nat) : Int)] S rfl rfl (fun w => ⟨Try.isAgg47 w, Try.sizeOf47 w⟩) rfl (fun w H => (SlOk.ofRow (i := 0) HS rfl).cells w H (ecells_from (i := (i - 1)) (by first | omega | (simp <;> omega))))) rfl rfl rfl (by kernel_rfl) (by kernel_rfl) (by kernel_rfl) (ls' := [true, false, true, true, true, true, true, true, false, false, false, false]) rfl (fun _ _ _ h => h) fun a S => ?_
      refine h_all (r := 1) (rs := [8]) (by kernel_rfl) ⟨h_op (ls' := [true, true, true, true, true, true, true, true, false, false, false, false]) rfl rfl ?_, h_op (ls' := [true, false, true, true, true, true, true, true, true, false, false, false]) rfl rfl ?_, trivial⟩
      · skip
        refine r_y S H (y_load 1 S rfl rfl Try.isAgg33 rfl rfl) rfl rfl rfl fun a S => ?_
        refine r_nil ?_
        refine x_then ?_
        have HS : Sat _ (row 47 3 (.slice (some ⟨b6, 0, none⟩) gl.length c4) gl.length (ecells gl) :: blk b2 (.cells #[.int .i64 ((m : Nat) : Int), .slice (some ⟨b6, 0, none⟩) gl.length c4] 35) :: blk b1 (.cells #[.int .i64 k, .int .u32 ((s : Nat) : Int)] 24) :: fr) := ((((H.fetch (i := 4) rfl).fetch (i := 4) rfl).fetch (i := 4) rfl).sub (.cons_cons _ (.cons_cons _ (.cons_cons _ (.cons _ (.cons _ (List.Sublist.refl _)))))))
        refine ⟨HS, ?_⟩
        refine h_all (r := 8) (rs := []) (by kernel_rfl) ⟨h_op (ls' := [true, true, true, true, true, true, true, true, true, false, false, false]) rfl rfl ?_, trivial⟩
        refine r_lit (vs := #[(0, .agg #[.int .u32 (((gl.getD (i - 1) e0).f : Nat) : Int), .int .u32 (((gl.getD (i - 1) e0).t : Nat) : Int), .int .u32 (((gl.getD (i - 1) e0).w : Nat) : Int)])]) (cs := ecells [(gl.getD (i - 1) e0)]) S H rfl rfl el33 (by kernel_rfl) (by decide) (by rfl) rfl rfl rfl fun a w b26 S H => ?_
        refine r_nil ?_
        refine x_then ?_
        have HS : Sat _ (row 47 3 (.slice (some ⟨b6, 0, none⟩) gl.length c4) gl.length (ecells gl) :: blk b2 (.cells #[.int .i64 ((m : Nat) : Int), .slice (some ⟨b6, 0, none⟩) gl.length c4] 35) :: blk b1 (.cells #[.int .i64 k, .int .u32 ((s : Nat) : Int)] 24) :: fr) := ((((H.fetch (i := 5) rfl).fetch (i := 5) rfl).fetch (i := 5) rfl).sub (.cons_cons _ (.cons_cons _ (.cons_cons _ (.cons _ (.cons _ (.cons _ (List.Sublist.refl _))))))))
        refine ⟨HS, ?_⟩
        refine h_all (r := 9) (rs := []) (by kernel_rfl) ⟨h_op (ls' := [true, true, true, true, true, true, true, true, true, true, false, false]) rfl rfl ?_, trivial⟩
        refine r_appendS (L' := fun A27 c28 => row 47 3 (.slice (some ⟨b26, 0, none⟩) 1 1) 1 (ecells [(gl.getD (i - 1) e0)]) :: row 47 3 (.slice A27 ((hl ++ [(gl.getD (i - 1) e0)]).length) c28) ((hl ++ [(gl.getD (i - 1) e0)]).length) (ecells (hl ++ ([(gl.getD (i - 1) e0)]))) :: blk b5 (.cells #[.int .i64 ((m : Nat) : Int), .slice Ah hl.length ch] 35) :: row 47 3 (.slice (some ⟨b6, 0, none⟩) gl.length c4) gl.length (ecells gl) :: blk b2 (.cells #[.int .i64 ((m : Nat) : Int), .slice (some ⟨b6, 0, none⟩) gl.length c4] 35) :: blk b1 (.cells #[.int .i64 k, .int .u32 ((s : Nat) : Int)] 24) :: fr) (xs' := ecells (hl ++ ([(gl.getD (i - 1) e0)]))) 1 S H rfl rfl rfl rfl el33 (SlOk.ofRow (i := 0) H rfl) (one_ecells _) (by simp only [maxLen]; first | omega | (simp <;> omega)) (by first | omega | (simp <;> omega)) (ecells_app hl ([(gl.getD (i - 1) e0)])) (by first | omega | (simp <;> omega)) (fun _ _ => rfl) rfl rfl rfl fun a w A27 c28 hA27 S H => ?_
        refine r_nil ?_
        refine x_then ?_
        have HS : Sat _ (row 47 3 (.slice (some ⟨b6, 0, none⟩) gl.length c4) gl.length (ecells gl) :: blk b2 (.cells #[.int .i64 ((m : Nat) : Int), .slice (some ⟨b6, 0, none⟩) gl.length c4] 35) :: blk b1 (.cells #[.int .i64 k, .int .u32 ((s : Nat) : Int)] 24) :: fr) := ((((H.fetch (i := 5) rfl).fetch (i := 5) rfl).fetch (i := 5) rfl).sub (.cons_cons _ (.cons_cons _ (.cons_cons _ (.cons _ (.cons _ (.cons _ (List.Sublist.refl _))))))))
        refine ⟨HS, ?_⟩
        refine h_y 10 S HS rfl (y_fieldAddr S rfl rfl fa35_1) rfl rfl rfl (by kernel_rfl) (by kernel_rfl) (by kernel_rfl) (ls' := [true, true, true, true, true, true, true, true, true, true, true, false]) rfl (fun _ _ _ h => h) fun a S => ?_
        refine h_all (r := 11) (rs := []) (by kernel_rfl) ⟨h_op (ls' := [true, true, true, true, true, true, true, true, true, true, true, true]) rfl rfl ?_, trivial⟩
        refine r_store (vs := [.slice A27 ((hl ++ [(gl.getD (i - 1) e0)]).length) c28]) 2 S H rfl rfl rfl rfl Try.sizeOf33 rfl rfl (by simp [Value.oneCell']) rfl rfl rfl rfl rfl fun w H => ?_
        refine r_nil ?_
        refine x_then ?_
        have HS : Sat _ (row 47 3 (.slice (some ⟨b6, 0, none⟩) gl.length c4) gl.length (ecells gl) :: blk b2 (.cells #[.int .i64 ((m : Nat) : Int), .slice (some ⟨b6, 0, none⟩) gl.length c4] 35) :: blk b1 (.cells #[.int .i64 k, .int .u32 ((s : Nat) : Int)] 24) :: fr) := ((((H.fetch (i := 5) rfl).fetch (i := 5) rfl).fetch (i := 5) rfl).sub (.cons_cons _ (.cons_cons _ (.cons_cons _ (.cons _ (.cons _ (.cons _ (List.Sublist.refl _))))))))
        refine ⟨HS, ?_⟩
        refine h_done (by kernel_rfl) ?_
        refine x_then ?_
        exact ⟨_, _, _, S.sub ⟨rfl, rfl, rfl, rfl, rfl, rfl, rfl, rfl, rfl, rfl, rfl, rfl, rfl, rfl, rfl, rfl, rfl, rfl, rfl, rfl, rfl, rfl, trivial⟩, ((((((H.fetch (i := 5) rfl).fetch (i := 5) rfl).fetch (i := 5) rfl).fetch (i := 5) rfl).fetch (i := 5) rfl).fetch (i := 5) rfl)⟩
      · skip
        refine r_lit (vs := #[(0, .agg #[.int .u32 (((gl.getD (i - 1) e0).f : Nat) : Int), .int .u32 (((gl.getD (i - 1) e0).t : Nat) : Int), .int .u32 (((gl.getD (i - 1) e0).w : Nat) : Int)])]) (cs := ecells [(gl.getD (i - 1) e0)]) S H rfl rfl el33 (by kernel_rfl) (by decide) (by rfl) rfl rfl rfl fun a w b29 S H => ?_
        refine r_nil ?_
        refine x_then ?_
        have HS : Sat _ (row 47 3 (.slice (some ⟨b6, 0, none⟩) gl.length c4) gl.length (ecells gl) :: blk b2 (.cells #[.int .i64 ((m : Nat) : Int), .slice (some ⟨b6, 0, none⟩) gl.length c4] 35) :: blk b1 (.cells #[.int .i64 k, .int .u32 ((s : Nat) : Int)] 24) :: fr) := ((((H.fetch (i := 5) rfl).fetch (i := 5) rfl).fetch (i := 5) rfl).sub (.cons_cons _ (.cons_cons _ (.cons_cons _ (.cons _ (.cons _ (.cons _ (List.Sublist.refl _))))))))
        refine ⟨HS, ?_⟩
        refine h_all (r := 1) (rs := []) (by kernel_rfl) ⟨h_op (ls' := [true, true, true, true, true, true, true, true, true, false, false, false]) rfl rfl ?_, trivial⟩
        refine r_y S H (y_load 2 S rfl rfl Try.isAgg33 rfl rfl) rfl rfl rfl fun a S => ?_
        refine r_nil ?_
        refine x_then ?_
        have HS : Sat _ (row 47 3 (.slice (some ⟨b6, 0, none⟩) gl.length c4) gl.length (ecells gl) :: blk b2 (.cells #[.int .i64 ((m : Nat) : Int), .slice (some ⟨b6, 0, none⟩) gl.length c4] 35) :: blk b1 (.cells #[.int .i64 k, .int .u32 ((s : Nat) : Int)] 24) :: fr) := ((((H.fetch (i := 5) rfl).fetch (i := 5) rfl).fetch (i := 5) rfl).sub (.cons_cons _ (.cons_cons _ (.cons_cons _ (.cons _ (.cons _ (.cons _ (List.Sublist.refl _))))))))
        refine ⟨HS, ?_⟩
        refine h_all (r := 9) (rs := []) (by kernel_rfl) ⟨h_op (ls' := [true, true, true, true, true, true, true, true, true, true, false, false]) rfl rfl ?_, trivial⟩
        refine r_appendS (L' := fun A30 c31 => row 47 3 (.slice (some ⟨b29, 0, none⟩) 1 1) 1 (ecells [(gl.getD (i - 1) e0)]) :: row 47 3 (.slice A30 ((hl ++ [(gl.getD (i - 1) e0)]).length) c31) ((hl ++ [(gl.getD (i - 1) e0)]).length) (ecells (hl ++ ([(gl.getD (i - 1) e0)]))) :: blk b5 (.cells #[.int .i64 ((m : Nat) : Int), .slice Ah hl.length ch] 35) :: row 47 3 (.slice (some ⟨b6, 0, none⟩) gl.length c4) gl.length (ecells gl) :: blk b2 (.cells #[.int .i64 ((m : Nat) : Int), .slice (some ⟨b6, 0, none⟩) gl.length c4] 35) :: blk b1 (.cells #[.int .i64 k, .int .u32 ((s : Nat) : Int)] 24) :: fr) (xs' := ecells (hl ++ ([(gl.getD (i - 1) e0)]))) 1 S H rfl rfl rfl rfl el33 (SlOk.ofRow (i := 0) H rfl) (one_ecells _) (by simp only [maxLen]; first | omega | (simp <;> omega)) (by first | omega | (simp <;> omega)) (ecells_app hl ([(gl.getD (i - 1) e0)])) (by first | omega | (simp <;> omega)) (fun _ _ => rfl) rfl rfl rfl fun a w A30 c31 hA30 S H => ?_
        refine r_nil ?_
        refine x_then ?_
        have HS : Sat _ (row 47 3 (.slice (some ⟨b6, 0, none⟩) gl.length c4) gl.length (ecells gl) :: blk b2 (.cells #[.int .i64 ((m : Nat) : Int), .slice (some ⟨b6, 0, none⟩) gl.length c4] 35) :: blk b1 (.cells #[.int .i64 k, .int .u32 ((s : Nat) : Int)] 24) :: fr) := ((((H.fetch (i := 5) rfl).fetch (i := 5) rfl).fetch (i := 5) rfl).sub (.cons_cons _ (.cons_cons _ (.cons_cons _ (.cons _ (.cons _ (.cons _ (List.Sublist.refl _))))))))
        refine ⟨HS, ?_⟩
        refine h_y 10 S HS rfl (y_fieldAddr S rfl rfl fa35_1) rfl rfl rfl (by kernel_rfl) (by kernel_rfl) (by kernel_rfl) (ls' := [true, true, true, true, true, true, true, true, true, true, true, false]) rfl (fun _ _ _ h => h) fun a S => ?_
        refine h_all (r := 11) (rs := []) (by kernel_rfl) ⟨h_op (ls' := [true, true, true, true, true, true, true, true, true, true, true, true]) rfl rfl ?_, trivial⟩
        refine r_store (vs := [.slice A30 ((hl ++ [(gl.getD (i - 1) e0)]).length) c31]) 2 S H rfl rfl rfl rfl Try.sizeOf33 rfl rfl (by simp [Value.oneCell']) rfl rfl rfl rfl rfl fun w H => ?_
        refine r_nil ?_
        refine x_then ?_
        have HS : Sat _ (row 47 3 (.slice (some ⟨b6, 0, none⟩) gl.length c4) gl.length (ecells gl) :: blk b2 (.cells #[.int .i64 ((m : Nat) : Int), .slice (some ⟨b6, 0, none⟩) gl.length c4] 35) :: blk b1 (.cells #[.int .i64 k, .int .u32 ((s : Nat) : Int)] 24) :: fr) := ((((H.fetch (i := 5) rfl).fetch (i := 5) rfl).fetch (i := 5) rfl).sub (.cons_cons _ (.cons_cons _ (.cons_cons _ (.cons _ (.cons _ (.cons _ (List.Sublist.refl _))))))))
        refine ⟨HS, ?_⟩
        refine h_done (by kernel_rfl) ?_
        refine x_then ?_
        exact ⟨_, _, _, S.sub ⟨rfl, rfl, rfl, rfl, rfl, rfl, rfl, rfl, rfl, rfl, rfl, rfl, rfl, rfl, rfl, rfl, rfl, rfl, rfl, rfl, rfl, rfl, trivial⟩, ((((((H.fetch (i := 5) rfl).fetch (i := 5) rfl).fetch (i := 5) rfl).fetch (i := 5) rfl).fetch (i := 5) rfl).fetch (i := 5) rfl)⟩
    obtain ⟨b26, A27, c28, S, H⟩ := hm
    refine x_blockEnd ?_
    refine x_then ?_
    refine r_region ?_
    refine r_y S H (y_move S rfl rfl) rfl rfl rfl fun a S => ?_
    refine r_y S H (y_sub S rfl rfl rfl (wi64 (by omega) (by omega))) rfl rfl rfl fun a S => ?_
    refine r_y S H (y_assign S rfl rfl) rfl rfl rfl fun a S => ?_
    refine r_nil ?_
    refine x_then ?_
    exact ⟨(i - 1, hl ++ [(gl.getD (i - 1) e0)], A27, c28), ⟨S.sub ⟨rfl, rfl, rfl, rfl, rfl, rfl, rfl, rfl, ((show lk _ _ = some _ from rfl).trans (congrArg (fun x => some (Value.int .i64 x)) (by omega))), rfl, rfl, rfl, rfl, rfl, rfl, rfl, rfl, rfl, rfl, rfl, trivial⟩, ((((((H.fetch (i := 5) rfl).fetch (i := 5) rfl).fetch (i := 5) rfl).fetch (i := 5) rfl).fetch (i := 5) rfl).sub (.cons_cons _ (.cons_cons _ (.cons_cons _ (.cons_cons _ (.cons_cons _ (.cons _ (List.Sublist.refl _)))))))), ⟨by omega, Tr.rev_snoc hhl (by omega) (by omega)⟩⟩, by show i - 1 < i; omega⟩
  · skip
    have hi0 : i = 0 := by omega
    have hlr : hl = gl.reverse := by rw [hhl, hi0]; simp
    have hhs : ∀ e ∈ hl, e.f < 4294967296 ∧ e.t < 4294967296 := fun e he => hgs e (by rw [hlr] at he; simpa using he)
    have hhw : ∀ e ∈ hl, e.w < 4294967296 := fun e he => hgw e (by rw [hlr] at he; simpa using he)
    have hord : Tr.traceR k s ((m : Nat) : Int) hl ((J : Nat) : Int) = Tr.traceR k s ((m : Nat) : Int) gl ((J : Nat) : Int) := by rw [hlr]; exact Tr.order_law _ _ _ _ _
    have hmo : Tr.may k s ((m : Nat) : Int) hl = Tr.may k s ((m : Nat) : Int) gl := by rw [hlr]; exact Tr.may_rev _ _ _ _
    refine wp_exit ?_
    refine x_thenExit ?_
    refine x_thenExit ?_
    refine x_blockHere ?_
    refine x_then ?_
    refine r_seq ?_
    refine r_region ?_
    refine r_y S H (y_loadAgg [_, _] 4 S rfl rfl (fun w => ⟨Try.isAgg24 w, Try.sizeOf24 w⟩) rfl rfl ⟨rfl, rfl, trivial⟩) rfl rfl rfl fun a S => ?_
    refine r_y S H (y_loadAgg [_, _] 3 S rfl rfl (fun w => ⟨Try.isAgg35 w, Try.sizeOf35 w⟩) rfl rfl ⟨rfl, rfl, trivial⟩) rfl rfl rfl fun a S => ?_
    refine r_y S H (y_move S rfl rfl) rfl rfl rfl fun a S => ?_
    refine r_call (args := #[.agg #[.int .i64 k, .int .u32 ((s : Nat) : Int)], .agg #[.int .i64 ((m : Nat) : Int), .slice A3 gl.length c4], .int .i64 ((J : Nat) : Int)]) S rfl rfl Try.call24 (trace_ct (H := H) _ _ k s (by omega) ((m : Nat) : Int) _ _ gl (SlOk.ofRow (i := 2) H rfl) hgs hgw ((J : Nat) : Int) (by omega)) rfl rfl rfl fun v a w hR S => ?_
    obtain ⟨A32, c33, A34, c35, rfl, H⟩ := hR
    generalize hgC : Tr.traceR k s ((m : Nat) : Int) gl ((J : Nat) : Int) = C at *
    refine r_y S H (y_move S rfl rfl) rfl rfl rfl fun a S => ?_
    refine r_y S H (y_extract (v := .agg #[.slice A32 ((C).1.length) c33, .slice A34 ((C).2.length) c35]) S rfl rfl rfl) rfl rfl rfl fun a S => ?_
    refine r_y S H (y_extract (v := .int .i64 (Tr.err (Tr.may k s ((m : Nat) : Int) gl && decide (0 ≤ ((J : Nat) : Int))))) S rfl rfl rfl) rfl rfl rfl fun a S => ?_
    refine r_alloc S H rfl Try.zeroValue40 rfl rfl rfl rfl fun a w b36 S H => ?_
    refine r_store (vs := [.slice A32 ((C).1.length) c33, .slice A34 ((C).2.length) c35]) 0 S H rfl rfl rfl rfl Try.sizeOf40 rfl rfl (by simp [Value.oneCell']) rfl rfl rfl rfl rfl fun w H => ?_
    refine r_y S H (y_assign S rfl rfl) rfl rfl rfl fun a S => ?_
    refine r_nil ?_
    refine x_then ?_
    refine r_seq ?_
    refine r_region ?_
    refine r_y S H (y_loadAgg [_, _] 7 S rfl rfl (fun w => ⟨Try.isAgg24 w, Try.sizeOf24 w⟩) rfl rfl ⟨rfl, rfl, trivial⟩) rfl rfl rfl fun a S => ?_
    refine r_y S H (y_loadAgg [_, _] 4 S rfl rfl (fun w => ⟨Try.isAgg35 w, Try.sizeOf35 w⟩) rfl rfl ⟨rfl, rfl, trivial⟩) rfl rfl rfl fun a S => ?_
    refine r_y S H (y_move S rfl rfl) rfl rfl rfl fun a S => ?_
    refine r_call (args := #[.agg #[.int .i64 k, .int .u32 ((s : Nat) : Int)], .agg #[.int .i64 ((m : Nat) : Int), .slice Ah hl.length ch], .int .i64 ((J : Nat) : Int)]) S rfl rfl Try.call24 (trace_ct (H := H) _ _ k s (by omega) ((m : Nat) : Int) _ _ hl (SlOk.ofRow (i := 3) H rfl) hhs hhw ((J : Nat) : Int) (by omega)) rfl rfl rfl fun v a w hR S => ?_
    obtain ⟨A37, c38, A39, c40, rfl, H⟩ := hR
    generalize hgD : Tr.traceR k s ((m : Nat) : Int) hl ((J : Nat) : Int) = D at *
    refine r_y S H (y_move S rfl rfl) rfl rfl rfl fun a S => ?_
    refine r_y S H (y_extract (v := .agg #[.slice A37 ((D).1.length) c38, .slice A39 ((D).2.length) c40]) S rfl rfl rfl) rfl rfl rfl fun a S => ?_
    refine r_y S H (y_extract (v := .int .i64 (Tr.err (Tr.may k s ((m : Nat) : Int) hl && decide (0 ≤ ((J : Nat) : Int))))) S rfl rfl rfl) rfl rfl rfl fun a S => ?_
    refine r_alloc S H rfl Try.zeroValue40 rfl rfl rfl rfl fun a w b41 S H => ?_
    refine r_store (vs := [.slice A37 ((D).1.length) c38, .slice A39 ((D).2.length) c40]) 0 S H rfl rfl rfl rfl Try.sizeOf40 rfl rfl (by simp [Value.oneCell']) rfl rfl rfl rfl rfl fun w H => ?_
    refine r_y S H (y_assign S rfl rfl) rfl rfl rfl fun a S => ?_
    refine r_nil ?_
    refine x_then ?_
    refine r_seq ?_
    refine wp_via (J := fun a w => Slots a 65 [(0, .agg #[.int .i64 k, .int .u32 ((s : Nat) : Int)]), (1, .agg #[.int .i64 n, .slice A es.length c]), (2, .int .i64 ((J : Nat) : Int)), (3, .pointer (some ⟨b1, 0, none⟩)), (4, .pointer (some ⟨b2, 0, none⟩)), (6, .bool true), (7, .bool true), (8, .pointer (some ⟨b5, 0, none⟩)), (9, .int .i64 ((i : Nat) : Int)), (10, .pointer (some ⟨b36, 0, none⟩)), (11, .int .i64 (Tr.err (Tr.may k s ((m : Nat) : Int) gl && decide (0 ≤ ((J : Nat) : Int))))), (12, .pointer (some ⟨b41, 0, none⟩)), (13, .int .i64 (Tr.err (Tr.may k s ((m : Nat) : Int) hl && decide (0 ≤ ((J : Nat) : Int))))), (14, .bool true), (15, .agg #[.int .i64 n, .slice A es.length c]), (16, .agg #[.int .i64 ((m : Nat) : Int), .slice A3 gl.length c4]), (17, .int .i64 j), (18, .int .i64 ((J : Nat) : Int)), (19, .pointer (some ⟨b2, 0, none⟩)), (20, .int .i64 ((m : Nat) : Int)), (21, .agg #[.int .i64 ((m : Nat) : Int), .slice none 0 0]), (22, .pointer (some ⟨b2, 1, none⟩)), (23, .slice A3 gl.length c4), (24, .int .i64 ((gl.length : Nat) : Int)), (25, .int .i64 ((i : Nat) : Int)), (26, .bool (decide (0 < ((i : Nat) : Int)))), (40, .tuple #[.agg #[.slice A32 ((C).1.length) c33, .slice A34 ((C).2.length) c35], .int .i64 (Tr.err (Tr.may k s ((m : Nat) : Int) gl && decide (0 ≤ ((J : Nat) : Int))))]), (41, .agg #[.int .i64 k, .int .u32 ((s : Nat) : Int)]), (42, .agg #[.int .i64 ((m : Nat) : Int), .slice A3 gl.length c4]), (43, .int .i64 ((J : Nat) : Int)), (44, .tuple #[.agg #[.slice A32 ((C).1.length) c33, .slice A34 ((C).2.length) c35], .int .i64 (Tr.err (Tr.may k s ((m : Nat) : Int) gl && decide (0 ≤ ((J : Nat) : Int))))]), (45, .agg #[.slice A32 ((C).1.length) c33, .slice A34 ((C).2.length) c35]), (46, .int .i64 (Tr.err (Tr.may k s ((m : Nat) : Int) gl && decide (0 ≤ ((J : Nat) : Int))))), (47, .tuple #[.agg #[.slice A37 ((D).1.length) c38, .slice A39 ((D).2.length) c40], .int .i64 (Tr.err (Tr.may k s ((m : Nat) : Int) hl && decide (0 ≤ ((J : Nat) : Int))))]), (48, .agg #[.int .i64 k, .int .u32 ((s : Nat) : Int)]), (49, .agg #[.int .i64 ((m : Nat) : Int), .slice Ah hl.length ch]), (50, .int .i64 ((J : Nat) : Int)), (51, .tuple #[.agg #[.slice A37 ((D).1.length) c38, .slice A39 ((D).2.length) c40], .int .i64 (Tr.err (Tr.may k s ((m : Nat) : Int) hl && decide (0 ≤ ((J : Nat) : Int))))]), (52, .agg #[.slice A37 ((D).1.length) c38, .slice A39 ((D).2.length) c40]), (53, .int .i64 (Tr.err (Tr.may k s ((m : Nat) : Int) hl && decide (0 ≤ ((J : Nat) : Int)))))] ∧ Sat w (blk b41 (.cells #[.slice A37 ((D).1.length) c38, .slice A39 ((D).2.length) c40] 40) :: row 25 1 (.slice A37 ((D).1.length) c38) ((D).1.length) (u64s (D).1) :: row 4 1 (.slice A39 ((D).2.length) c40) ((D).2.length) (bools (D).2) :: blk b36 (.cells #[.slice A32 ((C).1.length) c33, .slice A34 ((C).2.length) c35] 40) :: row 25 1 (.slice A32 ((C).1.length) c33) ((C).1.length) (u64s (C).1) :: row 4 1 (.slice A34 ((C).2.length) c35) ((C).2.length) (bools (C).2) :: row 47 3 (.slice Ah hl.length ch) hl.length (ecells hl) :: blk b5 (.cells #[.int .i64 ((m : Nat) : Int), .slice Ah hl.length ch] 35) :: row 47 3 (.slice A3 gl.length c4) gl.length (ecells gl) :: blk b2 (.cells #[.int .i64 ((m : Nat) : Int), .slice A3 gl.length c4] 35) :: blk b1 (.cells #[.int .i64 k, .int .u32 ((s : Nat) : Int)] 24) :: fr)) ?_ (fun a w hm => ?_)
    · skip
      refine r_region ?_
      refine r_y S H (y_move S rfl rfl) rfl rfl rfl fun a S => ?_
      refine r_y S H (y_move S rfl rfl) rfl rfl rfl fun a S => ?_
      refine r_y S H (y_move S rfl rfl) rfl rfl rfl fun a S => ?_
      refine r_y S H (y_move S rfl rfl) rfl rfl rfl fun a S => ?_
      refine r_y S H (y_eq S rfl rfl rfl) rfl rfl rfl fun a S => ?_
      have S := S.retell (v' := .bool true) 58 rfl (by rw [hmo]; simp)
      refine r_y S H (y_pickT S rfl rfl rfl) rfl rfl rfl fun a S => ?_
      refine r_y S H (y_move S rfl rfl) rfl rfl rfl fun a S => ?_
      refine r_y S H (y_loadAgg [_, _] 3 S rfl rfl (fun w => ⟨Try.isAgg40 w, Try.sizeOf40 w⟩) rfl rfl ⟨rfl, rfl, trivial⟩) rfl rfl rfl fun a S => ?_
      refine r_y S H (y_loadAgg [_, _] 0 S rfl rfl (fun w => ⟨Try.isAgg40 w, Try.sizeOf40 w⟩) rfl rfl ⟨rfl, rfl, trivial⟩) rfl rfl rfl fun a S => ?_
      refine r_call (args := #[.agg #[.slice A32 ((C).1.length) c33, .slice A34 ((C).2.length) c35], .agg #[.slice A37 ((D).1.length) c38, .slice A39 ((D).2.length) c40]]) S rfl rfl Try.call26 (same_ct (H := H) _ _ _ _ ((C).1) (SlOk.ofRow (i := 4) H rfl) _ _ ((C).2) (SlOk.ofRow (i := 5) H rfl) _ _ ((D).1) (SlOk.ofRow (i := 1) H rfl) _ _ ((D).2) (SlOk.ofRow (i := 2) H rfl)) rfl rfl rfl fun v a w hR S => ?_
      obtain ⟨rfl, H⟩ := hR
      have S := S.retell (v' := .bool true) 63 rfl (by rw [hord]; simp)
      refine r_y S H (y_pickT S rfl rfl rfl) rfl rfl rfl fun a S => ?_
      refine r_y S H (y_assign S rfl rfl) rfl rfl rfl fun a S => ?_
      refine r_nil ?_
      refine x_then ?_
      exact ⟨S.sub ⟨rfl, rfl, rfl, rfl, rfl, rfl, rfl, rfl, rfl, rfl, rfl, rfl, rfl, rfl, rfl, rfl, rfl, rfl, rfl, rfl, rfl, rfl, rfl, rfl, rfl, rfl, rfl, rfl, rfl, rfl, rfl, rfl, rfl, rfl, rfl, rfl, rfl, rfl, rfl, rfl, trivial⟩, H⟩
    obtain ⟨S, H⟩ := hm
    refine x_then ?_
    refine wp_ret ?_
    refine r_ret1 S H Try.results8 (ro_tmp S rfl) ?_
    exact ⟨rfl, H.drop.drop.drop.drop.drop.drop.drop.drop.drop.drop.drop⟩

end Go.Proofs.Ytfmpgdhmfjllnaa
