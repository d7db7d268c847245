/- Walks of functions of the program, over slots and resources. No condition. -/
import Derived.Test.YtfmpgdhmfjllnaaW13d
namespace Go.Proofs.Ytfmpgdhmfjllnaa
open Go.RowKit Go.Cg
set_option linter.unusedVariables false
set_option linter.unusedSimpArgs false
theorem fa47_2 : FieldAt Try.prog 47 2 2 := by intro w b o; simp [Instr.fieldAt, Instr.sureAddr, fieldPlace, Addr.add]
theorem km68 : KeyOk Try.prog 68 22 3 (mkN .u32) := KeyOk.nat Try.underlying68 Try.underlying22
theorem km69 : KeyOk Try.prog 69 22 25 (mkN .u32) := KeyOk.nat Try.underlying69 Try.underlying22
open Go.Cg.Tr (E top right graph quiet msg comb nxt summed)
set_option maxRecDepth 4000 in
theorem step_ct (w : World) (fr : List Res) (k : Int) (s : Nat) (hs : s < 4294967296) (n : Int) (A : Option Addr) (c : Nat) (es : List E) (ok : SlOk fr 3 A es.length c (ecells es)) (hes : ∀ e ∈ es, e.f < 4294967296 ∧ e.t < 4294967296) (Av : Option Addr) (cv : Nat) (vals : List Nat) (okv : SlOk fr 1 Av vals.length cv (u64s vals)) (Al : Option Addr) (cl : Nat) (live : List Bool) (okl : SlOk fr 1 Al live.length cl (bools live)) (hee : ∀ e ∈ es, e.f < vals.length ∧ e.t < vals.length) (hew : ∀ e ∈ es, e.w < 4294967296) (hlv : live.length = vals.length) (hn : vals.length ≤ 1048576) (hel : es.length ≤ 1048576) (hvt : ∀ x ∈ vals, x ≤ 18446744073709551615) (H : Sat w (fr)) :
    Rt Try.prog 39 #[.agg #[.int .i64 k, .int .u32 ((s : Nat) : Int)], .agg #[.int .i64 n, .slice A es.length c], .agg #[.slice Av vals.length cv, .slice Al live.length cl]] w fun v w' => (∃ A1 c1 A2 c2, v = .agg #[.slice A1 (Tr.step k es (vals, live)).1.length c1, .slice A2 (Tr.step k es (vals, live)).2.length c2] ∧ Sat w' (row 25 1 (.slice A1 (Tr.step k es (vals, live)).1.length c1) (Tr.step k es (vals, live)).1.length (u64s (Tr.step k es (vals, live)).1) :: row 4 1 (.slice A2 (Tr.step k es (vals, live)).2.length c2) (Tr.step k es (vals, live)).2.length (bools (Tr.step k es (vals, live)).2) :: fr)) := by
  refine rt_enter Try.func39 rfl (n := 129) Try.ntmps39 rfl fun a S => ?_
  refine r_seq ?_
  refine r_region ?_
  refine r_box (c := #[.int .i64 k, .int .u32 ((s : Nat) : Int)]) S H rfl rfl rfl rfl rfl rfl fun a w b1 S H => ?_
  refine r_box (c := #[.int .i64 n, .slice A es.length c]) S H rfl rfl rfl rfl rfl rfl fun a w b2 S H => ?_
  refine r_box (c := #[.slice Av vals.length cv, .slice Al live.length cl]) S H rfl rfl rfl rfl rfl rfl fun a w b3 S H => ?_
  refine r_alloc S H rfl Try.zeroValue40 rfl rfl rfl rfl fun a w b4 S H => ?_
  refine r_nil ?_
  refine x_then ?_
  refine r_seq ?_
  refine r_seq ?_
  refine r_region ?_
  refine r_y S H (y_loadAgg [_, _] 1 S rfl rfl (fun w => ⟨Try.isAgg40 w, Try.sizeOf40 w⟩) rfl rfl ⟨rfl, rfl, trivial⟩) rfl rfl rfl fun a S => ?_
  refine r_call (args := #[.agg #[.slice Av vals.length cv, .slice Al live.length cl]]) S rfl rfl Try.call25 (quiet_ct (H := H) _ _ _ _ vals ((((okv.more _).more _).more _).more _) _ _ live ((((okl.more _).more _).more _).more _)) rfl rfl rfl fun v a w hR S => ?_
  obtain ⟨rfl, H⟩ := hR
  refine r_nil ?_
  refine x_then ?_
  refine r_cond S rfl (fun h23 => ?_) (fun h23 => ?_)
  · skip
    refine r_seq ?_
    refine r_region ?_
    refine r_y S H (y_loadAgg [_, _] 1 S rfl rfl (fun w => ⟨Try.isAgg40 w, Try.sizeOf40 w⟩) rfl rfl ⟨rfl, rfl, trivial⟩) rfl rfl rfl fun a S => ?_
    refine r_call (args := #[.agg #[.slice Av vals.length cv, .slice Al live.length cl]]) S rfl rfl Try.call44 (copied_ct (H := H) _ _ _ _ vals ((((okv.more _).more _).more _).more _) _ _ live ((((okl.more _).more _).more _).more _) (by omega) (by omega)) rfl rfl rfl fun v a w hR S => ?_
    obtain ⟨A5, c6, A7, c8, rfl, H⟩ := hR
    refine r_store (vs := [.slice A5 vals.length c6, .slice A7 live.length c8]) 2 S H rfl rfl rfl rfl Try.sizeOf40 rfl rfl (by simp [Value.oneCell']) rfl rfl rfl rfl rfl fun w H => ?_
    refine r_nil ?_
    refine x_then ?_
    refine wp_ret ?_
    refine x_thenRet ?_
    refine r_ret1 S H Try.results39 (ro_agg [_, _] (i := 2) S rfl (fun w => ⟨Try.isAgg40 w, Try.sizeOf40 w⟩) rfl rfl ⟨rfl, rfl, trivial⟩) ?_
    rw [Tr.step_quiet (c := (vals, live)) h23]
    exact ⟨_, _, _, _, rfl, (H.pick [0, 1] 6 rfl)⟩
  · skip
    have hcv := okv.le
    have hcl := okl.le
    have hme := ok.le
    refine wp_skip ?_
    refine x_then ?_
    refine r_seq ?_
    refine r_region ?_
    refine r_makeMap (mkN .u32) (mkI .i64) S H rfl rfl rfl rfl fun a w b9 S H => ?_
    refine r_makeMap (mkN .u32) (mkN .u64) S H rfl rfl rfl rfl fun a w b10 S H => ?_
    refine r_y S H (y_assign S rfl rfl) rfl rfl rfl fun a S => ?_
    refine r_y S H (y_assign S rfl rfl) rfl rfl rfl fun a S => ?_
    refine r_nil ?_
    refine x_then ?_
    refine r_seq ?_
    refine r_seq ?_
    refine r_region ?_
    refine r_y S H (y_fieldAddr S rfl rfl fa35_1) rfl rfl rfl fun a S => ?_
    refine r_y S H (y_load 4 S rfl rfl Try.isAgg33 rfl rfl) rfl rfl rfl fun a S => ?_
    refine r_y S H (y_len S rfl rfl Try.underlying33) rfl rfl rfl fun a S => ?_
    refine r_y S H (y_move S rfl rfl) rfl rfl rfl fun a S => ?_
    refine r_nil ?_
    refine x_then ?_
    refine r_block ?_
    refine r_loop (ι := Nat × List (Nat × Int)) (fun ⟨i, lo⟩ a w => Slots a 129 [(0, .agg #[.int .i64 k, .int .u32 ((s : Nat) : Int)]), (1, .agg #[.int .i64 n, .slice A es.length c]), (2, .agg #[.slice Av vals.length cv, .slice Al live.length cl]), (3, .pointer (some ⟨b1, 0, none⟩)), (4, .pointer (some ⟨b2, 0, none⟩)), (5, .pointer (some ⟨b3, 0, none⟩)), (6, .pointer (some ⟨b4, 0, none⟩)), (7, .map (some b9)), (8, .map (some b10)), (22, .agg #[.slice Av vals.length cv, .slice Al live.length cl]), (23, .bool (quiet live)), (26, .map (some b9)), (27, .map (some b10)), (28, .pointer (some ⟨b2, 1, none⟩)), (29, .slice A es.length c), (30, .int .i64 ((es.length : Nat) : Int)), (31, .int .i64 ((i : Nat) : Int))] ∧ Sat w (mp (mkN .u32) (mkN .u64) b10 ([] : List (Nat × Nat)) :: mp (mkN .u32) (mkI .i64) b9 lo :: blk b4 (.cells #[.slice none 0 0, .slice none 0 0] 40) :: blk b3 (.cells #[.slice Av vals.length cv, .slice Al live.length cl] 40) :: blk b2 (.cells #[.int .i64 n, .slice A es.length c] 35) :: blk b1 (.cells #[.int .i64 k, .int .u32 ((s : Nat) : Int)] 24) :: fr) ∧ (i ≤ es.length ∧ ∀ v, (tlook lo v).getD 0 = ((Tr.outs (es.take i) v : Nat) : Int))) (fun ⟨i, lo⟩ => es.length - i) (0, []) ⟨S.sub ⟨rfl, rfl, rfl, rfl, rfl, rfl, rfl, rfl, rfl, rfl, rfl, rfl, rfl, rfl, rfl, rfl, rfl, trivial⟩, H, ⟨Nat.zero_le _, fun _ => rfl⟩⟩ (fun ⟨i, lo⟩ a w hI => ?_)
    obtain ⟨S, H, hI⟩ := hI
    obtain ⟨hi, hlo⟩ := hI
    refine r_seq ?_
    refine r_region ?_
    refine r_y S H (y_lt S rfl rfl rfl) rfl rfl rfl fun a S => ?_
    refine r_nil ?_
    refine x_then ?_
    refine r_seq ?_
    refine r_test S rfl (fun h32 => ?_) (fun h32 => ?_)
    · skip
      have hb := hee _ (getD_mem (by omega : i < es.length))
      have hb2 := hes _ (getD_mem (by omega : i < es.length))
      refine wp_skip ?_
      refine x_then ?_
      refine r_seq ?_
      refine r_block ?_
      refine r_seq ?_
      refine r_region ?_
      obtain ⟨b11, o12, rfl⟩ := ((((((ok.more _).more _).more _).more _).more _).more _).addr H (by first | omega | (simp <;> omega))
      refine r_y S H (y_index S rfl rfl rfl Try.underlying33 Try.sizeOf47 (by omega) (by omega)) rfl rfl rfl fun a S => ?_
      refine r_y S H (y_loadAggAt [.int .u32 (((es.getD i e0).f : Nat) : Int), .int .u32 (((es.getD i e0).t : Nat) : Int), .int .u32 (((es.getD i e0).w : Nat) : Int)] S rfl rfl (fun w => ⟨Try.isAgg47 w, Try.sizeOf47 w⟩) rfl (fun w H => ((((((ok.more _).more _).more _).more _).more _).more _).cells w H (ecells_from (i := i) (by first | omega | (simp <;> omega))))) rfl rfl rfl fun a S => ?_
      refine r_alloc S H rfl Try.zeroValue47 rfl rfl rfl rfl fun a w b13 S H => ?_
      refine r_store (vs := [.int .u32 (((es.getD i e0).f : Nat) : Int), .int .u32 (((es.getD i e0).t : Nat) : Int), .int .u32 (((es.getD i e0).w : Nat) : Int)]) 0 S H rfl rfl rfl rfl Try.sizeOf47 rfl rfl (by simp [Value.oneCell']) rfl rfl rfl rfl rfl fun w H => ?_
      refine r_nil ?_
      refine x_then ?_
      have ho := hlo (es.getD i e0).f
      have ho2 := Tr.outs_le (es.take i) (es.getD i e0).f
      have ho3 : (es.take i).length ≤ es.length := by simp; omega
      refine r_region ?_
      refine r_y S H (y_move S rfl rfl) rfl rfl rfl fun a S => ?_
      refine r_y S H (y_fieldAddr S rfl rfl fa47_0) rfl rfl rfl fun a S => ?_
      refine r_y S H (y_load 0 S rfl rfl Try.isAgg22 rfl rfl) rfl rfl rfl fun a S => ?_
      refine r_y S H (y_lookup (mkv := mkI .i64) (z := 0) 2 ((es.getD i e0).f) S rfl rfl rfl km68 Try.zeroValue3 rfl) rfl rfl rfl fun a S => ?_
      refine r_y S H (y_add S rfl rfl rfl (wi64 (by omega) (by omega))) rfl rfl rfl fun a S => ?_
      refine r_mapSet (L' := blk b13 (.cells #[.int .u32 (((es.getD i e0).f : Nat) : Int), .int .u32 (((es.getD i e0).t : Nat) : Int), .int .u32 (((es.getD i e0).w : Nat) : Int)] 47) :: mp (mkN .u32) (mkN .u64) b10 ([] : List (Nat × Nat)) :: mp (mkN .u32) (mkI .i64) b9 (tupd lo ((es.getD i e0).f) (((tlook lo ((es.getD i e0).f)).getD 0) + 1)) :: blk b4 (.cells #[.slice none 0 0, .slice none 0 0] 40) :: blk b3 (.cells #[.slice Av vals.length cv, .slice Al live.length cl] 40) :: blk b2 (.cells #[.int .i64 n, .slice (some ⟨b11, o12, none⟩) es.length c] 35) :: blk b1 (.cells #[.int .i64 k, .int .u32 ((s : Nat) : Int)] 24) :: fr) 2 ((es.getD i e0).f) (((tlook lo ((es.getD i e0).f)).getD 0) + 1) S H rfl rfl rfl rfl km68 rfl rfl rfl rfl fun w H => ?_
      refine r_nil ?_
      refine x_blockEnd ?_
      refine x_then ?_
      refine r_region ?_
      refine r_y S H (y_add S rfl rfl rfl (wi64 (by omega) (by omega))) rfl rfl rfl fun a S => ?_
      refine r_y S H (y_move S rfl rfl) rfl rfl rfl fun a S => ?_
      refine r_nil ?_
      refine x_then ?_
      exact ⟨(i + 1, tupd lo (es.getD i e0).f ((tlook lo (es.getD i e0).f).getD 0 + 1)), ⟨S.sub ⟨rfl, rfl, rfl, rfl, rfl, rfl, rfl, rfl, rfl, rfl, rfl, rfl, rfl, rfl, rfl, rfl, rfl, trivial⟩, (H.pick [1, 2, 3, 4, 5, 6] 7 rfl), ⟨by omega, Tr.outs_put (by omega) hlo⟩⟩, by show es.length - (i + 1) < es.length - i; omega⟩
    · skip
      refine wp_exit ?_
      refine x_thenExit ?_
      refine x_thenExit ?_
      refine x_blockHere ?_
      refine x_then ?_
      refine r_seq ?_
      refine r_region ?_
      refine r_y S H (y_fieldAddr S rfl rfl fa24_0) rfl rfl rfl fun a S => ?_
      refine r_y S H (y_load 5 S rfl rfl Try.isAgg3 rfl rfl) rfl rfl rfl fun a S => ?_
      refine r_y S H (y_eq S rfl rfl rfl) rfl rfl rfl fun a S => ?_
      refine r_y S H (y_assign S rfl rfl) rfl rfl rfl fun a S => ?_
      refine r_nil ?_
      refine x_then ?_
      refine r_seq ?_
      refine r_seq ?_
      refine r_region ?_
      refine r_y S H (y_fieldAddr S rfl rfl fa35_1) rfl rfl rfl fun a S => ?_
      refine r_y S H (y_load 4 S rfl rfl Try.isAgg33 rfl rfl) rfl rfl rfl fun a S => ?_
      refine r_y S H (y_len S rfl rfl Try.underlying33) rfl rfl rfl fun a S => ?_
      refine r_y S H (y_move S rfl rfl) rfl rfl rfl fun a S => ?_
      refine r_nil ?_
      refine x_then ?_
      refine r_block ?_
      rw [List.take_of_length_le (by omega)] at hlo
      refine r_loop (ι := Nat × List (Nat × Nat)) (fun ⟨i, lc⟩ a w => Slots a 129 [(0, .agg #[.int .i64 k, .int .u32 ((s : Nat) : Int)]), (1, .agg #[.int .i64 n, .slice A es.length c]), (2, .agg #[.slice Av vals.length cv, .slice Al live.length cl]), (3, .pointer (some ⟨b1, 0, none⟩)), (4, .pointer (some ⟨b2, 0, none⟩)), (5, .pointer (some ⟨b3, 0, none⟩)), (6, .pointer (some ⟨b4, 0, none⟩)), (7, .map (some b9)), (8, .map (some b10)), (11, .bool (decide (k = 4))), (22, .agg #[.slice Av vals.length cv, .slice Al live.length cl]), (23, .bool (quiet live)), (26, .map (some b9)), (27, .map (some b10)), (28, .pointer (some ⟨b2, 1, none⟩)), (29, .slice A es.length c), (30, .int .i64 ((es.length : Nat) : Int)), (41, .pointer (some ⟨b1, 0, none⟩)), (42, .int .i64 k), (43, .bool (decide (k = 4))), (44, .pointer (some ⟨b2, 1, none⟩)), (45, .slice A es.length c), (46, .int .i64 ((es.length : Nat) : Int)), (47, .int .i64 ((i : Nat) : Int))] ∧ Sat w (mp (mkN .u32) (mkN .u64) b10 lc :: mp (mkN .u32) (mkI .i64) b9 lo :: blk b4 (.cells #[.slice none 0 0, .slice none 0 0] 40) :: blk b3 (.cells #[.slice Av vals.length cv, .slice Al live.length cl] 40) :: blk b2 (.cells #[.int .i64 n, .slice A es.length c] 35) :: blk b1 (.cells #[.int .i64 k, .int .u32 ((s : Nat) : Int)] 24) :: fr) ∧ (i ≤ es.length ∧ (∀ v, tlook lc v = Tr.came k es (vals, live) (es.take i) (fun _ => none) v) ∧ ∀ v x, tlook lc v = some x → x ≤ 18446744073709551615)) (fun ⟨i, lc⟩ => es.length - i) (0, []) ⟨S.sub ⟨rfl, rfl, rfl, rfl, rfl, rfl, rfl, rfl, rfl, rfl, rfl, rfl, rfl, rfl, rfl, rfl, rfl, rfl, rfl, rfl, rfl, rfl, rfl, rfl, trivial⟩, H, ⟨Nat.zero_le _, fun _ => rfl, fun _ _ h => by cases h⟩⟩ (fun ⟨i, lc⟩ a w hI => ?_)
      obtain ⟨S, H, hI⟩ := hI
      obtain ⟨hi2, hc1, hc2⟩ := hI
      refine r_seq ?_
      refine r_region ?_
      refine r_y S H (y_lt S rfl rfl rfl) rfl rfl rfl fun a S => ?_
      refine r_nil ?_
      refine x_then ?_
      refine r_seq ?_
      refine r_test S rfl (fun h48 => ?_) (fun h48 => ?_)
      · skip
        have hb := hee _ (getD_mem (by omega : i < es.length))
        have hb2 := hes _ (getD_mem (by omega : i < es.length))
        have hbw := hew _ (getD_mem (by omega : i < es.length))
        have hx1 := Tr.getD_top hvt (es.getD i e0).f
        have ho := hlo (es.getD i e0).f
        have ho2 := Tr.outs_le es (es.getD i e0).f
        have hs1 := Tr.tlook_top hc2 (es.getD i e0).t
        have hm1 := Tr.msg_le (k := k) hx1 ((tlook lo (es.getD i e0).f).getD 0) (es.getD i e0).w
        refine wp_skip ?_
        refine x_then ?_
        refine r_seq ?_
        refine r_block ?_
        refine r_seq ?_
        refine r_region ?_
        obtain ⟨b14, o15, rfl⟩ := ((((((ok.more _).more _).more _).more _).more _).more _).addr H (by first | omega | (simp <;> omega))
        refine r_y S H (y_index S rfl rfl rfl Try.underlying33 Try.sizeOf47 (by omega) (by omega)) rfl rfl rfl fun a S => ?_
        refine r_y S H (y_loadAggAt [.int .u32 (((es.getD i e0).f : Nat) : Int), .int .u32 (((es.getD i e0).t : Nat) : Int), .int .u32 (((es.getD i e0).w : Nat) : Int)] S rfl rfl (fun w => ⟨Try.isAgg47 w, Try.sizeOf47 w⟩) rfl (fun w H => ((((((ok.more _).more _).more _).more _).more _).more _).cells w H (ecells_from (i := i) (by first | omega | (simp <;> omega))))) rfl rfl rfl fun a S => ?_
        refine r_alloc S H rfl Try.zeroValue47 rfl rfl rfl rfl fun a w b16 S H => ?_
        refine r_store (vs := [.int .u32 (((es.getD i e0).f : Nat) : Int), .int .u32 (((es.getD i e0).t : Nat) : Int), .int .u32 (((es.getD i e0).w : Nat) : Int)]) 0 S H rfl rfl rfl rfl Try.sizeOf47 rfl rfl (by simp [Value.oneCell']) rfl rfl rfl rfl rfl fun w H => ?_
        refine r_nil ?_
        refine x_then ?_
        refine r_seq ?_
        refine r_seq ?_
        refine wp_via (J := fun a w => Slots a 129 [(0, .agg #[.int .i64 k, .int .u32 ((s : Nat) : Int)]), (1, .agg #[.int .i64 n, .slice (some ⟨b14, o15, none⟩) es.length c]), (2, .agg #[.slice Av vals.length cv, .slice Al live.length cl]), (3, .pointer (some ⟨b1, 0, none⟩)), (4, .pointer (some ⟨b2, 0, none⟩)), (5, .pointer (some ⟨b3, 0, none⟩)), (6, .pointer (some ⟨b4, 0, none⟩)), (7, .map (some b9)), (8, .map (some b10)), (11, .bool (decide (k = 4))), (13, .pointer (some ⟨b16, 0, none⟩)), (22, .agg #[.slice Av vals.length cv, .slice Al live.length cl]), (23, .bool (quiet live)), (26, .map (some b9)), (27, .map (some b10)), (28, .pointer (some ⟨b2, 1, none⟩)), (29, .slice (some ⟨b14, o15, none⟩) es.length c), (30, .int .i64 ((es.length : Nat) : Int)), (41, .pointer (some ⟨b1, 0, none⟩)), (42, .int .i64 k), (43, .bool (decide (k = 4))), (44, .pointer (some ⟨b2, 1, none⟩)), (45, .slice (some ⟨b14, o15, none⟩) es.length c), (46, .int .i64 ((es.length : Nat) : Int)), (47, .int .i64 ((i : Nat) : Int)), (48, .bool (decide (((i : Nat) : Int) < ((es.length : Nat) : Int)))), (49, .pointer (some ⟨b14, o15 + i * 3, none⟩)), (50, .agg #[.int .u32 (((es.getD i e0).f : Nat) : Int), .int .u32 (((es.getD i e0).t : Nat) : Int), .int .u32 (((es.getD i e0).w : Nat) : Int)]), (61, .bool ((!(decide (k = 4))) && (!(live.getD ((es.getD i e0).f) false))))] ∧ Sat w (blk b16 (.cells #[.int .u32 (((es.getD i e0).f : Nat) : Int), .int .u32 (((es.getD i e0).t : Nat) : Int), .int .u32 (((es.getD i e0).w : Nat) : Int)] 47) :: mp (mkN .u32) (mkN .u64) b10 lc :: mp (mkN .u32) (mkI .i64) b9 lo :: blk b4 (.cells #[.slice none 0 0, .slice none 0 0] 40) :: blk b3 (.cells #[.slice Av vals.length cv, .slice Al live.length cl] 40) :: blk b2 (.cells #[.int .i64 n, .slice (some ⟨b14, o15, none⟩) es.length c] 35) :: blk b1 (.cells #[.int .i64 k, .int .u32 ((s : Nat) : Int)] 24) :: fr)) ?_ (fun a w hm => ?_)
        · skip
          refine r_region ?_
          refine r_y S H (y_move S rfl rfl) rfl rfl rfl fun a S => ?_
          refine r_y S H (y_not S rfl rfl) rfl rfl rfl fun a S => ?_
          refine r_y S H (y_move S rfl rfl) rfl rfl rfl fun a S => ?_
          refine splitB S (d := 53) rfl (fun g53 S => ?_) (fun g53 S => ?_)
          · skip
            refine r_y S H (y_fieldAddr S rfl rfl fa40_1) rfl rfl rfl fun a S => ?_
            refine r_y S H (y_load 4 S rfl rfl Try.isAgg38 rfl rfl) rfl rfl rfl fun a S => ?_
            refine r_y S H (y_fieldAddr S rfl rfl fa47_0) rfl rfl rfl fun a S => ?_
            refine r_y S H (y_load 0 S rfl rfl Try.isAgg22 rfl rfl) rfl rfl rfl fun a S => ?_
            obtain ⟨b19, o20, rfl⟩ := (((((((okl.more _).more _).more _).more _).more _).more _).more _).addr H (by first | omega | (simp <;> omega))
            refine r_y S H (y_index S rfl rfl rfl Try.underlying38 Try.sizeOf4 (by omega) (by omega)) rfl rfl rfl fun a S => ?_
            refine r_y S H (y_loadAt S rfl rfl Try.isAgg4 (fun w H => (((((((okl.more _).more _).more _).more _).more _).more _).more _).cell w H (bools_at (i := ((es.getD i e0).f)) (by first | omega | (simp <;> omega))))) rfl rfl rfl fun a S => ?_
            refine r_y S H (y_not S rfl rfl) rfl rfl rfl fun a S => ?_
            refine r_y S H (y_pickT S rfl rfl rfl) rfl rfl rfl fun a S => ?_
            refine r_nil ?_
            refine x_then ?_
            exact ⟨S.sub ⟨rfl, rfl, rfl, rfl, rfl, rfl, rfl, rfl, rfl, rfl, rfl, rfl, rfl, rfl, rfl, rfl, rfl, rfl, rfl, rfl, rfl, rfl, rfl, rfl, rfl, rfl, rfl, rfl, (show lk _ _ = some (.bool (!(live.getD ((es.getD i e0).f) false))) from rfl).trans (by first | (simp only [g53, decide_true, decide_false, Bool.true_and, Bool.false_and, Bool.true_or, Bool.false_or]; done) | (simp [-List.getD_eq_getElem?_getD, g53]; done) | (simp [-List.getD_eq_getElem?_getD, g53]; omega)), trivial⟩, H⟩
          · skip
            refine r_skip S rfl rfl rfl fun a S => ?_
            refine r_skip S rfl rfl rfl fun a S => ?_
            refine r_skip S rfl rfl rfl fun a S => ?_
            refine r_skip S rfl rfl rfl fun a S => ?_
            refine r_skip S rfl rfl rfl fun a S => ?_
            refine r_skip S rfl rfl rfl fun a S => ?_
            refine r_skip S rfl rfl rfl fun a S => ?_
            refine r_y S H (y_pickF S rfl rfl rfl) rfl rfl rfl fun a S => ?_
            refine r_nil ?_
            refine x_then ?_
            exact ⟨S.sub ⟨rfl, rfl, rfl, rfl, rfl, rfl, rfl, rfl, rfl, rfl, rfl, rfl, rfl, rfl, rfl, rfl, rfl, rfl, rfl, rfl, rfl, rfl, rfl, rfl, rfl, rfl, rfl, rfl, (show lk _ _ = some (.bool false) from rfl).trans (by first | (simp only [g53, decide_true, decide_false, Bool.true_and, Bool.false_and, Bool.true_or, Bool.false_or]; done) | (simp [-List.getD_eq_getElem?_getD, g53]; done) | (simp [-List.getD_eq_getElem?_getD, g53]; omega)), trivial⟩, H⟩
        obtain ⟨S, H⟩ := hm
        refine x_then ?_
        refine r_cond S rfl (fun h61 => ?_) (fun h61 => ?_)
        · skip
          refine wp_exit ?_
          refine x_thenExit ?_
          refine x_blockHere ?_
          refine x_then ?_
          refine r_region ?_
          refine r_y S H (y_add S rfl rfl rfl (wi64 (by omega) (by omega))) rfl rfl rfl fun a S => ?_
          refine r_y S H (y_move S rfl rfl) rfl rfl rfl fun a S => ?_
          refine r_nil ?_
          refine x_then ?_
          exact ⟨(i + 1, lc), ⟨S.sub ⟨rfl, rfl, rfl, rfl, rfl, rfl, rfl, rfl, rfl, rfl, rfl, rfl, rfl, rfl, rfl, rfl, rfl, rfl, rfl, rfl, rfl, rfl, rfl, rfl, trivial⟩, H.drop, ⟨by omega, Tr.came_no (by omega) hc1 (Tr.sends_no h61), hc2⟩⟩, by show es.length - (i + 1) < es.length - i; omega⟩
        · skip
          refine wp_skip ?_
          refine x_then ?_
          refine r_seq ?_
          obtain ⟨b21, o22, rfl⟩ := (((((((okv.more _).more _).more _).more _).more _).more _).more _).addr H (by first | omega | (simp <;> omega))
          refine r_quiet (n := 129) (E' := [(0, .agg #[.int .i64 k, .int .u32 ((s : Nat) : Int)]), (1, .agg #[.int .i64 n, .slice (some ⟨b14, o15, none⟩) es.length c]), (2, .agg #[.slice (some ⟨b21, o22, none⟩) vals.length cv, .slice Al live.length cl]), (3, .pointer (some ⟨b1, 0, none⟩)), (4, .pointer (some ⟨b2, 0, none⟩)), (5, .pointer (some ⟨b3, 0, none⟩)), (6, .pointer (some ⟨b4, 0, none⟩)), (7, .map (some b9)), (8, .map (some b10)), (11, .bool (decide (k = 4))), (13, .pointer (some ⟨b16, 0, none⟩)), (14, .int .u64 ((msg k (vals.getD ((es.getD i e0).f) 0) ((tlook lo ((es.getD i e0).f)).getD 0) ((es.getD i e0).w) : Nat) : Int)), (22, .agg #[.slice (some ⟨b21, o22, none⟩) vals.length cv, .slice Al live.length cl]), (23, .bool (quiet live)), (26, .map (some b9)), (27, .map (some b10)), (28, .pointer (some ⟨b2, 1, none⟩)), (29, .slice (some ⟨b14, o15, none⟩) es.length c), (30, .int .i64 ((es.length : Nat) : Int)), (41, .pointer (some ⟨b1, 0, none⟩)), (42, .int .i64 k), (43, .bool (decide (k = 4))), (44, .pointer (some ⟨b2, 1, none⟩)), (45, .slice (some ⟨b14, o15, none⟩) es.length c), (46, .int .i64 ((es.length : Nat) : Int)), (47, .int .i64 ((i : Nat) : Int)), (48, .bool (decide (((i : Nat) : Int) < ((es.length : Nat) : Int)))), (49, .pointer (some ⟨b14, o15 + i * 3, none⟩)), (50, .agg #[.int .u32 (((es.getD i e0).f : Nat) : Int), .int .u32 (((es.getD i e0).t : Nat) : Int), .int .u32 (((es.getD i e0).w : Nat) : Int)]), (61, .bool ((!(decide (k = 4))) && (!(live.getD ((es.getD i e0).f) false))))]) H rfl (by kernel_rfl) ?_ (fun a w S H => ?_)
          · skip
            refine q_y S (y_loadAgg [_, _] 6 S rfl rfl (fun w => ⟨Try.isAgg24 w, Try.sizeOf24 w⟩) rfl rfl ⟨rfl, rfl, trivial⟩) rfl rfl rfl fun a S => ?_
            refine q_y S (y_fieldAddr S rfl rfl fa40_0) rfl rfl rfl fun a S => ?_
            refine q_y S (y_load 4 S rfl rfl Try.isAgg37 rfl rfl) rfl rfl rfl fun a S => ?_
            refine q_y S (y_fieldAddr S rfl rfl fa47_0) rfl rfl rfl fun a S => ?_
            refine q_y S (y_load 0 S rfl rfl Try.isAgg22 rfl rfl) rfl rfl rfl fun a S => ?_
            refine q_y S (y_index S rfl rfl rfl Try.underlying37 Try.sizeOf25 (by omega) (by omega)) rfl rfl rfl fun a S => ?_
            refine q_y S (y_loadAt S rfl rfl Try.isAgg25 (fun w H => (((((((okv.more _).more _).more _).more _).more _).more _).more _).cell w H (u64s_at (i := ((es.getD i e0).f)) (by first | omega | (simp <;> omega))))) rfl rfl rfl fun a S => ?_
            refine q_y S (y_move S rfl rfl) rfl rfl rfl fun a S => ?_
            refine q_y S (y_fieldAddr S rfl rfl fa47_0) rfl rfl rfl fun a S => ?_
            refine q_y S (y_load 0 S rfl rfl Try.isAgg22 rfl rfl) rfl rfl rfl fun a S => ?_
            refine q_y S (y_lookup (mkv := mkI .i64) (z := 0) 2 ((es.getD i e0).f) S rfl rfl rfl km68 Try.zeroValue3 rfl) rfl rfl rfl fun a S => ?_
            refine q_y S (y_fieldAddr S rfl rfl fa47_2) rfl rfl rfl fun a S => ?_
            refine q_y S (y_load 0 S rfl rfl Try.isAgg22 rfl rfl) rfl rfl rfl fun a S => ?_
            refine q_call (args := #[.agg #[.int .i64 k, .int .u32 ((s : Nat) : Int)], .int .u64 ((vals.getD ((es.getD i e0).f) 0 : Nat) : Int), .int .i64 ((tlook lo ((es.getD i e0).f)).getD 0), .int .u32 (((es.getD i e0).w : Nat) : Int)]) S rfl rfl Try.call21 (fun w H => message_ct (H := H) _ _ k s (vals.getD ((es.getD i e0).f) 0) ((tlook lo ((es.getD i e0).f)).getD 0) ((es.getD i e0).w) (by omega) (by omega) (by omega)) rfl rfl rfl fun a S => ?_
            refine q_y S (y_assign S rfl rfl) rfl rfl rfl fun a S => ?_
            exact q_nil (S.sub ⟨rfl, rfl, rfl, rfl, rfl, rfl, rfl, rfl, rfl, rfl, rfl, rfl, rfl, rfl, rfl, rfl, rfl, rfl, rfl, rfl, rfl, rfl, rfl, rfl, rfl, rfl, rfl, rfl, rfl, rfl, trivial⟩)
          · skip
            refine x_then ?_
            refine r_seq ?_
            refine r_seq ?_
            refine r_region ?_
            refine r_y S H (y_move S rfl rfl) rfl rfl rfl fun a S => ?_
            refine r_y S H (y_fieldAddr S rfl rfl fa47_1) rfl rfl rfl fun a S => ?_
            refine r_y S H (y_load 0 S rfl rfl Try.isAgg22 rfl rfl) rfl rfl rfl fun a S => ?_
            refine r_y S H (y_lookupOk (mkv := mkN .u64) (z := 0) 1 ((es.getD i e0).t) S rfl rfl rfl km69 Try.zeroValue25 rfl) rfl rfl rfl fun a S => ?_
            refine r_y S H (y_move S rfl rfl) rfl rfl rfl fun a S => ?_
            refine r_y S H (y_extract (v := .int .u64 (((tlook lc ((es.getD i e0).t)).getD 0 : Nat) : Int)) S rfl rfl rfl) rfl rfl rfl fun a S => ?_
            refine r_y S H (y_extract (v := .bool ((tlook lc ((es.getD i e0).t)).isSome)) S rfl rfl rfl) rfl rfl rfl fun a S => ?_
            refine r_y S H (y_assign S rfl rfl) rfl rfl rfl fun a S => ?_
            refine r_y S H (y_assign S rfl rfl) rfl rfl rfl fun a S => ?_
            refine r_nil ?_
            refine x_then ?_
            refine r_seq ?_
            refine r_region ?_
            refine r_y S H (y_move S rfl rfl) rfl rfl rfl fun a S => ?_
            refine r_nil ?_
            refine x_then ?_
            refine r_cond S rfl (fun h83 => ?_) (fun h83 => ?_)
            · skip
              refine r_region ?_
              refine r_y S H (y_loadAgg [_, _] 6 S rfl rfl (fun w => ⟨Try.isAgg24 w, Try.sizeOf24 w⟩) rfl rfl ⟨rfl, rfl, trivial⟩) rfl rfl rfl fun a S => ?_
              refine r_call (args := #[.agg #[.int .i64 k, .int .u32 ((s : Nat) : Int)]]) S rfl rfl Try.call19 (how_ct (H := H) _ _ k s) rfl rfl rfl fun v a w hR S => ?_
              obtain ⟨rfl, H⟩ := hR
              refine r_y S H (y_move S rfl rfl) rfl rfl rfl fun a S => ?_
              refine r_y S H (y_move S rfl rfl) rfl rfl rfl fun a S => ?_
              refine r_call (args := #[.int .i64 (if summed k then 1 else 2), .int .u64 (((tlook lc ((es.getD i e0).t)).getD 0 : Nat) : Int), .int .u64 ((msg k (vals.getD ((es.getD i e0).f) 0) ((tlook lo ((es.getD i e0).f)).getD 0) ((es.getD i e0).w) : Nat) : Int)]) S rfl rfl Try.call36 (combine_ct (H := H) _ _ (if summed k then 1 else 2) ((tlook lc ((es.getD i e0).t)).getD 0) (msg k (vals.getD ((es.getD i e0).f) 0) ((tlook lo ((es.getD i e0).f)).getD 0) ((es.getD i e0).w)) (by omega) (by omega)) rfl rfl rfl fun v a w hR S => ?_
              obtain ⟨rfl, H⟩ := hR
              refine r_y S H (y_assign S rfl rfl) rfl rfl rfl fun a S => ?_
              refine r_nil ?_
              refine x_then ?_
              refine r_region ?_
              refine r_y S H (y_move S rfl rfl) rfl rfl rfl fun a S => ?_
              refine r_y S H (y_fieldAddr S rfl rfl fa47_1) rfl rfl rfl fun a S => ?_
              refine r_y S H (y_load 0 S rfl rfl Try.isAgg22 rfl rfl) rfl rfl rfl fun a S => ?_
              refine r_y S H (y_move S rfl rfl) rfl rfl rfl fun a S => ?_
              refine r_mapSet (L' := blk b16 (.cells #[.int .u32 (((es.getD i e0).f : Nat) : Int), .int .u32 (((es.getD i e0).t : Nat) : Int), .int .u32 (((es.getD i e0).w : Nat) : Int)] 47) :: mp (mkN .u32) (mkN .u64) b10 (tupd lc ((es.getD i e0).t) (comb ((if summed k then 1 else 2) == 1) ((tlook lc ((es.getD i e0).t)).getD 0) (msg k (vals.getD ((es.getD i e0).f) 0) ((tlook lo ((es.getD i e0).f)).getD 0) ((es.getD i e0).w)))) :: mp (mkN .u32) (mkI .i64) b9 lo :: blk b4 (.cells #[.slice none 0 0, .slice none 0 0] 40) :: blk b3 (.cells #[.slice (some ⟨b21, o22, none⟩) vals.length cv, .slice Al live.length cl] 40) :: blk b2 (.cells #[.int .i64 n, .slice (some ⟨b14, o15, none⟩) es.length c] 35) :: blk b1 (.cells #[.int .i64 k, .int .u32 ((s : Nat) : Int)] 24) :: fr) 1 ((es.getD i e0).t) (comb ((if summed k then 1 else 2) == 1) ((tlook lc ((es.getD i e0).t)).getD 0) (msg k (vals.getD ((es.getD i e0).f) 0) ((tlook lo ((es.getD i e0).f)).getD 0) ((es.getD i e0).w))) S H rfl rfl rfl rfl km69 rfl rfl rfl rfl fun w H => ?_
              refine r_nil ?_
              refine x_blockEnd ?_
              refine x_then ?_
              refine r_region ?_
              refine r_y S H (y_add S rfl rfl rfl (wi64 (by omega) (by omega))) rfl rfl rfl fun a S => ?_
              refine r_y S H (y_move S rfl rfl) rfl rfl rfl fun a S => ?_
              refine r_nil ?_
              refine x_then ?_
              exact ⟨(i + 1, tupd lc ((es.getD i e0).t) (comb ((if summed k then 1 else 2) == 1) ((tlook lc ((es.getD i e0).t)).getD 0) (msg k (vals.getD ((es.getD i e0).f) 0) ((tlook lo ((es.getD i e0).f)).getD 0) ((es.getD i e0).w)))), ⟨S.sub ⟨rfl, rfl, rfl, rfl, rfl, rfl, rfl, rfl, rfl, rfl, rfl, rfl, rfl, rfl, rfl, rfl, rfl, rfl, rfl, rfl, rfl, rfl, rfl, rfl, trivial⟩, (H.pick [1, 2, 3, 4, 5, 6] 7 rfl), ⟨by omega, Tr.came_yes (by omega) hc1 (Tr.sends_yes h61) ho (by rw [if_pos h83, Tr.summed_eq]), Tr.tupd_top hc2 (Tr.comb_le hs1)⟩⟩, by show es.length - (i + 1) < es.length - i; omega⟩
            · skip
              refine wp_skip ?_
              refine x_then ?_
              refine r_region ?_
              refine r_y S H (y_move S rfl rfl) rfl rfl rfl fun a S => ?_
              refine r_y S H (y_fieldAddr S rfl rfl fa47_1) rfl rfl rfl fun a S => ?_
              refine r_y S H (y_load 0 S rfl rfl Try.isAgg22 rfl rfl) rfl rfl rfl fun a S => ?_
              refine r_y S H (y_move S rfl rfl) rfl rfl rfl fun a S => ?_
              refine r_mapSet (L' := blk b16 (.cells #[.int .u32 (((es.getD i e0).f : Nat) : Int), .int .u32 (((es.getD i e0).t : Nat) : Int), .int .u32 (((es.getD i e0).w : Nat) : Int)] 47) :: mp (mkN .u32) (mkN .u64) b10 (tupd lc ((es.getD i e0).t) (msg k (vals.getD ((es.getD i e0).f) 0) ((tlook lo ((es.getD i e0).f)).getD 0) ((es.getD i e0).w))) :: mp (mkN .u32) (mkI .i64) b9 lo :: blk b4 (.cells #[.slice none 0 0, .slice none 0 0] 40) :: blk b3 (.cells #[.slice (some ⟨b21, o22, none⟩) vals.length cv, .slice Al live.length cl] 40) :: blk b2 (.cells #[.int .i64 n, .slice (some ⟨b14, o15, none⟩) es.length c] 35) :: blk b1 (.cells #[.int .i64 k, .int .u32 ((s : Nat) : Int)] 24) :: fr) 1 ((es.getD i e0).t) (msg k (vals.getD ((es.getD i e0).f) 0) ((tlook lo ((es.getD i e0).f)).getD 0) ((es.getD i e0).w)) S H rfl rfl rfl rfl km69 rfl rfl rfl rfl fun w H => ?_
              refine r_nil ?_
              refine x_blockEnd ?_
              refine x_then ?_
              refine r_region ?_
              refine r_y S H (y_add S rfl rfl rfl (wi64 (by omega) (by omega))) rfl rfl rfl fun a S => ?_
              refine r_y S H (y_move S rfl rfl) rfl rfl rfl fun a S => ?_
              refine r_nil ?_
              refine x_then ?_
              exact ⟨(i + 1, tupd lc ((es.getD i e0).t) (msg k (vals.getD ((es.getD i e0).f) 0) ((tlook lo ((es.getD i e0).f)).getD 0) ((es.getD i e0).w))), ⟨S.sub ⟨rfl, rfl, rfl, rfl, rfl, rfl, rfl, rfl, rfl, rfl, rfl, rfl, rfl, rfl, rfl, rfl, rfl, rfl, rfl, rfl, rfl, rfl, rfl, rfl, trivial⟩, (H.pick [1, 2, 3, 4, 5, 6] 7 rfl), ⟨by omega, Tr.came_yes (by omega) hc1 (Tr.sends_yes h61) ho (by rw [if_neg (by rw [h83]; decide)]), Tr.tupd_top hc2 (hm1)⟩⟩, by show es.length - (i + 1) < es.length - i; omega⟩
      · skip
        refine wp_exit ?_
        refine x_thenExit ?_
        refine x_thenExit ?_
        refine x_blockHere ?_
        refine x_then ?_
        refine r_seq ?_
        refine r_region ?_
        refine r_y S H (y_loadAgg [_, _] 3 S rfl rfl (fun w => ⟨Try.isAgg40 w, Try.sizeOf40 w⟩) rfl rfl ⟨rfl, rfl, trivial⟩) rfl rfl rfl fun a S => ?_
        refine r_call (args := #[.agg #[.slice Av vals.length cv, .slice Al live.length cl]]) S rfl rfl Try.call44 (copied_ct (H := H) _ _ _ _ vals ((((((okv.more _).more _).more _).more _).more _).more _) _ _ live ((((((okl.more _).more _).more _).more _).more _).more _) (by omega) (by omega)) rfl rfl rfl fun v a w hR S => ?_
        obtain ⟨A23, c24, A25, c26, rfl, H⟩ := hR
        refine r_alloc S H rfl Try.zeroValue40 rfl rfl rfl rfl fun a w b27 S H => ?_
        refine r_store (vs := [.slice A23 vals.length c24, .slice A25 live.length c26]) 0 S H rfl rfl rfl rfl Try.sizeOf40 rfl rfl (by simp [Value.oneCell']) rfl rfl rfl rfl rfl fun w H => ?_
        refine r_nil ?_
        refine x_then ?_
        refine r_seq ?_
        refine r_seq ?_
        refine r_region ?_
        refine r_y S H (y_fieldAddr S rfl rfl fa40_0) rfl rfl rfl fun a S => ?_
        refine r_y S H (y_load 6 S rfl rfl Try.isAgg37 rfl rfl) rfl rfl rfl fun a S => ?_
        refine r_y S H (y_len S rfl rfl Try.underlying37) rfl rfl rfl fun a S => ?_
        refine r_y S H (y_move S rfl rfl) rfl rfl rfl fun a S => ?_
        refine r_nil ?_
        refine x_then ?_
        refine r_block ?_
        have hc : ∀ v, tlook lc v = Tr.came k es (vals, live) es (fun _ => none) v := by have := hc1; rwa [List.take_of_length_le (by omega)] at this
        refine r_loop (ι := Nat) (fun i a w => Slots a 129 [(0, .agg #[.int .i64 k, .int .u32 ((s : Nat) : Int)]), (1, .agg #[.int .i64 n, .slice A es.length c]), (2, .agg #[.slice Av vals.length cv, .slice Al live.length cl]), (3, .pointer (some ⟨b1, 0, none⟩)), (4, .pointer (some ⟨b2, 0, none⟩)), (5, .pointer (some ⟨b3, 0, none⟩)), (6, .pointer (some ⟨b4, 0, none⟩)), (7, .map (some b9)), (8, .map (some b10)), (11, .bool (decide (k = 4))), (17, .pointer (some ⟨b27, 0, none⟩)), (22, .agg #[.slice Av vals.length cv, .slice Al live.length cl]), (23, .bool (quiet live)), (26, .map (some b9)), (27, .map (some b10)), (28, .pointer (some ⟨b2, 1, none⟩)), (29, .slice A es.length c), (30, .int .i64 ((es.length : Nat) : Int)), (41, .pointer (some ⟨b1, 0, none⟩)), (42, .int .i64 k), (43, .bool (decide (k = 4))), (44, .pointer (some ⟨b2, 1, none⟩)), (45, .slice A es.length c), (46, .int .i64 ((es.length : Nat) : Int)), (94, .agg #[.slice Av vals.length cv, .slice Al live.length cl]), (95, .agg #[.slice A23 vals.length c24, .slice A25 live.length c26]), (96, .pointer (some ⟨b3, 0, none⟩)), (97, .slice Av vals.length cv), (98, .int .i64 ((vals.length : Nat) : Int)), (99, .int .i64 ((i : Nat) : Int))] ∧ Sat w (blk b27 (.cells #[.slice A23 vals.length c24, .slice A25 live.length c26] 40) :: row 25 1 (.slice A23 vals.length c24) vals.length (u64s (fill (fun v => (Tr.nexts k es (vals, live) v).1) vals i)) :: row 4 1 (.slice A25 live.length c26) live.length (bools (fill (fun v => (Tr.nexts k es (vals, live) v).2) live i)) :: mp (mkN .u32) (mkN .u64) b10 lc :: mp (mkN .u32) (mkI .i64) b9 lo :: blk b4 (.cells #[.slice none 0 0, .slice none 0 0] 40) :: blk b3 (.cells #[.slice Av vals.length cv, .slice Al live.length cl] 40) :: blk b2 (.cells #[.int .i64 n, .slice A es.length c] 35) :: blk b1 (.cells #[.int .i64 k, .int .u32 ((s : Nat) : Int)] 24) :: fr) ∧ (i ≤ vals.length)) (fun i => vals.length - i) 0 ⟨S.sub ⟨rfl, rfl, rfl, rfl, rfl, rfl, rfl, rfl, rfl, rfl, rfl, rfl, rfl, rfl, rfl, rfl, rfl, rfl, rfl, rfl, rfl, rfl, rfl, rfl, rfl, rfl, rfl, rfl, rfl, rfl, trivial⟩, (by rw [fill_zero, fill_zero]; exact H), Nat.zero_le _⟩ (fun i a w hI => ?_)
        obtain ⟨S, H, hI⟩ := hI
        have l1 : (fill (fun v => (Tr.nexts k es (vals, live) v).1) vals i).length = vals.length := fill_len (by omega)
        have l2 : (fill (fun v => (Tr.nexts k es (vals, live) v).2) live i).length = live.length := fill_len (by omega)
        refine r_seq ?_
        refine r_region ?_
        refine r_y S H (y_lt S rfl rfl rfl) rfl rfl rfl fun a S => ?_
        refine r_nil ?_
        refine x_then ?_
        refine r_seq ?_
        refine r_test S rfl (fun h100 => ?_) (fun h100 => ?_)
        · skip
          refine wp_skip ?_
          refine x_then ?_
          refine r_seq ?_
          refine r_block ?_
          refine r_seq ?_
          refine r_region ?_
          refine r_y S H (y_move S rfl rfl) rfl rfl rfl fun a S => ?_
          obtain ⟨b28, o29, rfl⟩ := (((((((((okv.more _).more _).more _).more _).more _).more _).more _).more _).more _).addr H (by first | omega | (simp <;> omega))
          refine r_y S H (y_index S rfl rfl rfl Try.underlying37 Try.sizeOf25 (by omega) (by omega)) rfl rfl rfl fun a S => ?_
          refine r_y S H (y_loadAt S rfl rfl Try.isAgg25 (fun w H => (((((((((okv.more _).more _).more _).more _).more _).more _).more _).more _).more _).cell w H (u64s_at (i := i) (by first | omega | (simp <;> omega))))) rfl rfl rfl fun a S => ?_
          refine r_y S H (y_assign S rfl rfl) rfl rfl rfl fun a S => ?_
          refine r_y S H (y_assign S rfl rfl) rfl rfl rfl fun a S => ?_
          refine r_nil ?_
          refine x_then ?_
          refine r_seq ?_
          have hx1 := Tr.getD_top hvt i
          have hs1 := Tr.tlook_top hc2 i
          refine r_region ?_
          refine r_y S H (y_move S rfl rfl) rfl rfl rfl fun a S => ?_
          refine r_y S H (y_move S rfl rfl) rfl rfl rfl fun a S => ?_
          refine r_y S H (y_conv S rfl rfl Try.underlying3 Try.underlying22 (wu32 (by omega) (by omega))) rfl rfl rfl fun a S => ?_
          refine r_y S H (y_lookupOk (mkv := mkN .u64) (z := 0) 3 i S rfl rfl rfl km69 Try.zeroValue25 rfl) rfl rfl rfl fun a S => ?_
          refine r_y S H (y_move S rfl rfl) rfl rfl rfl fun a S => ?_
          refine r_y S H (y_extract (v := .int .u64 (((tlook lc i).getD 0 : Nat) : Int)) S rfl rfl rfl) rfl rfl rfl fun a S => ?_
          refine r_y S H (y_extract (v := .bool ((tlook lc i).isSome)) S rfl rfl rfl) rfl rfl rfl fun a S => ?_
          refine r_y S H (y_assign S rfl rfl) rfl rfl rfl fun a S => ?_
          refine r_y S H (y_assign S rfl rfl) rfl rfl rfl fun a S => ?_
          refine r_nil ?_
          refine x_then ?_
          refine h_start (blk b27 (.cells #[.slice A23 vals.length c24, .slice A25 live.length c26] 40) :: mp (mkN .u32) (mkN .u64) b10 lc :: mp (mkN .u32) (mkI .i64) b9 lo :: blk b4 (.cells #[.slice none 0 0, .slice none 0 0] 40) :: blk b3 (.cells #[.slice (some ⟨b28, o29, none⟩) vals.length cv, .slice Al live.length cl] 40) :: blk b2 (.cells #[.int .i64 n, .slice A es.length c] 35) :: blk b1 (.cells #[.int .i64 k, .int .u32 ((s : Nat) : Int)] 24) :: fr) (ls := [false, false, false, false, false, false, false, false, false, false, false, false, false, false, false, false, false, false]) H rfl rfl fun w H => ?_
          have HS : Sat _ (blk b27 (.cells #[.slice A23 vals.length c24, .slice A25 live.length c26] 40) :: mp (mkN .u32) (mkN .u64) b10 lc :: mp (mkN .u32) (mkI .i64) b9 lo :: blk b4 (.cells #[.slice none 0 0, .slice none 0 0] 40) :: blk b3 (.cells #[.slice (some ⟨b28, o29, none⟩) vals.length cv, .slice Al live.length cl] 40) :: blk b2 (.cells #[.int .i64 n, .slice A es.length c] 35) :: blk b1 (.cells #[.int .i64 k, .int .u32 ((s : Nat) : Int)] 24) :: fr) := (H.pick [0, 3, 4, 5, 6, 7, 8] 9 rfl)
          refine h_y 0 S HS rfl (y_fieldAddr S rfl rfl fa40_0) rfl rfl rfl (by kernel_rfl) (by kernel_rfl) (by kernel_rfl) (ls' := [true, false, false, false, false, false, false, false, false, false, false, false, false, false, false, false, false, false]) rfl (fun _ _ _ h => h) fun a S => ?_
          refine h_y 1 S HS rfl (y_load 0 S rfl rfl Try.isAgg37 rfl rfl) rfl rfl rfl (by kernel_rfl) (by kernel_rfl) (by kernel_rfl) (ls' := [true, true, false, false, false, false, false, false, false, false, false, false, false, false, false, false, false, false]) rfl (fun _ _ _ h => h) fun a S => ?_
          refine h_y 2 S HS rfl (y_move S rfl rfl) rfl rfl rfl (by kernel_rfl) (by kernel_rfl) (by kernel_rfl) (ls' := [true, true, true, false, false, false, false, false, false, false, false, false, false, false, false, false, false, false]) rfl (fun _ _ _ h => h) fun a S => ?_
          refine h_y 3 S HS rfl (y_fieldAddr S rfl rfl fa40_1) rfl rfl rfl (by kernel_rfl) (by kernel_rfl) (by kernel_rfl) (ls' := [true, true, true, true, false, false, false, false, false, false, false, false, false, false, false, false, false, false]) rfl (fun _ _ _ h => h) fun a S => ?_
          refine h_y 4 S HS rfl (y_load 0 S rfl rfl Try.isAgg38 rfl rfl) rfl rfl rfl (by kernel_rfl) (by kernel_rfl) (by kernel_rfl) (ls' := [true, true, true, true, true, false, false, false, false, false, false, false, false, false, false, false, false, false]) rfl (fun _ _ _ h => h) fun a S => ?_
          refine h_y 5 S HS rfl (y_move S rfl rfl) rfl rfl rfl (by kernel_rfl) (by kernel_rfl) (by kernel_rfl) (ls' := [true, true, true, true, true, true, false, false, false, false, false, false, false, false, false, false, false, false]) rfl (fun _ _ _ h => h) fun a S => ?_
          refine h_y 6 S HS rfl (y_loadAgg [_, _] 6 S rfl rfl (fun w => ⟨Try.isAgg24 w, Try.sizeOf24 w⟩) rfl rfl ⟨rfl, rfl, trivial⟩) rfl rfl rfl (by kernel_rfl) (by kernel_rfl) (by kernel_rfl) (ls' := [true, true, true, true, true, true, true, false, false, false, false, false, false, false, false, false, false, false]) rfl (fun _ _ _ h => h) fun a S => ?_
          refine h_y 7 S HS rfl (y_move S rfl rfl) rfl rfl rfl (by kernel_rfl) (by kernel_rfl) (by kernel_rfl) (ls' := [true, true, true, true, true, true, true, true, false, false, false, false, false, false, false, false, false, false]) rfl (fun _ _ _ h => h) fun a S => ?_
          refine h_y 8 S HS rfl (y_move S rfl rfl) rfl rfl rfl (by kernel_rfl) (by kernel_rfl) (by kernel_rfl) (ls' := [true, true, true, true, true, true, true, true, true, false, false, false, false, false, false, false, false, false]) rfl (fun _ _ _ h => h) fun a S => ?_
          refine h_y 9 S HS rfl (y_move S rfl rfl) rfl rfl rfl (by kernel_rfl) (by kernel_rfl) (by kernel_rfl) (ls' := [true, true, true, true, true, true, true, true, true, true, false, false, false, false, false, false, false, false]) rfl (fun _ _ _ h => h) fun a S => ?_
          refine h_all (r := 10) (rs := []) (by kernel_rfl) ⟨h_op (ls' := [true, true, true, true, true, true, true, true, true, true, true, false, false, false, false, false, false, false]) rfl rfl ?_, trivial⟩
          refine r_call (args := #[.agg #[.int .i64 k, .int .u32 ((s : Nat) : Int)], .int .u64 ((vals.getD i 0 : Nat) : Int), .int .u64 (((tlook lc i).getD 0 : Nat) : Int), .bool ((tlook lc i).isSome)]) S rfl rfl Try.call17 (next_ct (H := H) _ _ k s (vals.getD i 0) ((tlook lc i).getD 0) ((tlook lc i).isSome) (by omega) (by omega)) rfl rfl rfl fun v a w hR S => ?_
          obtain ⟨rfl, H⟩ := hR
          refine r_nil ?_
          refine x_then ?_
          have HS : Sat _ (blk b27 (.cells #[.slice A23 vals.length c24, .slice A25 live.length c26] 40) :: mp (mkN .u32) (mkN .u64) b10 lc :: mp (mkN .u32) (mkI .i64) b9 lo :: blk b4 (.cells #[.slice none 0 0, .slice none 0 0] 40) :: blk b3 (.cells #[.slice (some ⟨b28, o29, none⟩) vals.length cv, .slice Al live.length cl] 40) :: blk b2 (.cells #[.int .i64 n, .slice A es.length c] 35) :: blk b1 (.cells #[.int .i64 k, .int .u32 ((s : Nat) : Int)] 24) :: fr) := (H.pick [0, 3, 4, 5, 6, 7, 8] 9 rfl)
          refine ⟨HS, ?_⟩
          refine h_y 11 S HS rfl (y_move S rfl rfl) rfl rfl rfl (by kernel_rfl) (by kernel_rfl) (by kernel_rfl) (ls' := [true, true, true, true, true, true, true, true, true, true, true, true, false, false, false, false, false, false]) rfl (fun _ _ _ h => h) fun a S => ?_
          refine h_y 12 S HS rfl (y_extract (v := .int .u64 (((nxt k (vals.getD i 0) ((tlook lc i).getD 0) ((tlook lc i).isSome)).1 : Nat) : Int)) S rfl rfl rfl) rfl rfl rfl (by kernel_rfl) (by kernel_rfl) (by kernel_rfl) (ls' := [true, true, true, true, true, true, true, true, true, true, true, true, true, false, false, false, false, false]) rfl (fun _ _ _ h => h) fun a S => ?_
          refine h_y 13 S HS rfl (y_extract (v := .bool ((nxt k (vals.getD i 0) ((tlook lc i).getD 0) ((tlook lc i).isSome)).2)) S rfl rfl rfl) rfl rfl rfl (by kernel_rfl) (by kernel_rfl) (by kernel_rfl) (ls' := [true, true, true, true, true, true, true, true, true, true, true, true, true, true, false, false, false, false]) rfl (fun _ _ _ h => h) fun a S => ?_
          refine h_all (r := 14) (rs := []) (by kernel_rfl) ⟨h_op (ls' := [true, true, true, true, true, true, true, true, true, true, true, true, true, true, true, false, false, false]) rfl rfl ?_, trivial⟩
          obtain ⟨b32, rfl⟩ := H.rowAt (i := 1) rfl (by first | omega | (simp <;> omega))
          refine r_y S H (y_index S rfl rfl rfl Try.underlying37 Try.sizeOf25 (by omega) (by omega)) rfl rfl rfl fun a S => ?_
          refine r_nil ?_
          refine x_then ?_
          have HS : Sat _ (blk b27 (.cells #[.slice (some ⟨b32, 0, none⟩) vals.length c24, .slice A25 live.length c26] 40) :: mp (mkN .u32) (mkN .u64) b10 lc :: mp (mkN .u32) (mkI .i64) b9 lo :: blk b4 (.cells #[.slice none 0 0, .slice none 0 0] 40) :: blk b3 (.cells #[.slice (some ⟨b28, o29, none⟩) vals.length cv, .slice Al live.length cl] 40) :: blk b2 (.cells #[.int .i64 n, .slice A es.length c] 35) :: blk b1 (.cells #[.int .i64 k, .int .u32 ((s : Nat) : Int)] 24) :: fr) := (H.pick [0, 3, 4, 5, 6, 7, 8] 9 rfl)
          refine ⟨HS, ?_⟩
          refine h_all (r := 15) (rs := []) (by kernel_rfl) ⟨h_op (ls' := [true, true, true, true, true, true, true, true, true, true, true, true, true, true, true, true, false, false]) rfl rfl ?_, trivial⟩
          refine r_setRowV (L' := blk b27 (.cells #[.slice (some ⟨b32, 0, none⟩) vals.length c24, .slice A25 live.length c26] 40) :: row 25 1 (.slice (some ⟨b32, 0, none⟩) vals.length c24) vals.length (u64s ((fill (fun v => (Tr.nexts k es (vals, live) v).1) vals i).set i ((nxt k (vals.getD i 0) ((tlook lc i).getD 0) ((tlook lc i).isSome)).1))) :: row 4 1 (.slice A25 live.length c26) live.length (bools (fill (fun v => (Tr.nexts k es (vals, live) v).2) live i)) :: mp (mkN .u32) (mkN .u64) b10 lc :: mp (mkN .u32) (mkI .i64) b9 lo :: blk b4 (.cells #[.slice none 0 0, .slice none 0 0] 40) :: blk b3 (.cells #[.slice (some ⟨b28, o29, none⟩) vals.length cv, .slice Al live.length cl] 40) :: blk b2 (.cells #[.int .i64 n, .slice A es.length c] 35) :: blk b1 (.cells #[.int .i64 k, .int .u32 ((s : Nat) : Int)] 24) :: fr) 1 S H rfl rfl rfl rfl Try.sizeOf25 rfl rfl (by first | omega | (simp <;> omega)) (xs' := u64s ((fill (fun v => (Tr.nexts k es (vals, live) v).1) vals i).set i ((nxt k (vals.getD i 0) ((tlook lc i).getD 0) ((tlook lc i).isSome)).1))) (u64s_put (by omega) rfl) rfl rfl rfl fun w H => ?_
          refine r_nil ?_
          refine x_then ?_
          have HS : Sat _ (blk b27 (.cells #[.slice (some ⟨b32, 0, none⟩) vals.length c24, .slice A25 live.length c26] 40) :: mp (mkN .u32) (mkN .u64) b10 lc :: mp (mkN .u32) (mkI .i64) b9 lo :: blk b4 (.cells #[.slice none 0 0, .slice none 0 0] 40) :: blk b3 (.cells #[.slice (some ⟨b28, o29, none⟩) vals.length cv, .slice Al live.length cl] 40) :: blk b2 (.cells #[.int .i64 n, .slice A es.length c] 35) :: blk b1 (.cells #[.int .i64 k, .int .u32 ((s : Nat) : Int)] 24) :: fr) := (H.pick [0, 3, 4, 5, 6, 7, 8] 9 rfl)
          refine ⟨HS, ?_⟩
          refine h_all (r := 16) (rs := []) (by kernel_rfl) ⟨h_op (ls' := [true, true, true, true, true, true, true, true, true, true, true, true, true, true, true, true, true, false]) rfl rfl ?_, trivial⟩
          obtain ⟨b36, rfl⟩ := H.rowAt (i := 2) rfl (by first | omega | (simp <;> omega))
          refine r_y S H (y_index S rfl rfl rfl Try.underlying38 Try.sizeOf4 (by omega) (by omega)) rfl rfl rfl fun a S => ?_
          refine r_nil ?_
          refine x_then ?_
          have HS : Sat _ (blk b27 (.cells #[.slice (some ⟨b32, 0, none⟩) vals.length c24, .slice (some ⟨b36, 0, none⟩) live.length c26] 40) :: mp (mkN .u32) (mkN .u64) b10 lc :: mp (mkN .u32) (mkI .i64) b9 lo :: blk b4 (.cells #[.slice none 0 0, .slice none 0 0] 40) :: blk b3 (.cells #[.slice (some ⟨b28, o29, none⟩) vals.length cv, .slice Al live.length cl] 40) :: blk b2 (.cells #[.int .i64 n, .slice A es.length c] 35) :: blk b1 (.cells #[.int .i64 k, .int .u32 ((s : Nat) : Int)] 24) :: fr) := (H.pick [0, 3, 4, 5, 6, 7, 8] 9 rfl)
          refine ⟨HS, ?_⟩
          refine h_all (r := 17) (rs := []) (by kernel_rfl) ⟨h_op (ls' := [true, true, true, true, true, true, true, true, true, true, true, true, true, true, true, true, true, true]) rfl rfl ?_, trivial⟩
          refine r_setRowV (L' := blk b27 (.cells #[.slice (some ⟨b32, 0, none⟩) vals.length c24, .slice (some ⟨b36, 0, none⟩) live.length c26] 40) :: row 25 1 (.slice (some ⟨b32, 0, none⟩) vals.length c24) vals.length (u64s ((fill (fun v => (Tr.nexts k es (vals, live) v).1) vals i).set i ((nxt k (vals.getD i 0) ((tlook lc i).getD 0) ((tlook lc i).isSome)).1))) :: row 4 1 (.slice (some ⟨b36, 0, none⟩) live.length c26) live.length (bools ((fill (fun v => (Tr.nexts k es (vals, live) v).2) live i).set i ((nxt k (vals.getD i 0) ((tlook lc i).getD 0) ((tlook lc i).isSome)).2))) :: mp (mkN .u32) (mkN .u64) b10 lc :: mp (mkN .u32) (mkI .i64) b9 lo :: blk b4 (.cells #[.slice none 0 0, .slice none 0 0] 40) :: blk b3 (.cells #[.slice (some ⟨b28, o29, none⟩) vals.length cv, .slice Al live.length cl] 40) :: blk b2 (.cells #[.int .i64 n, .slice A es.length c] 35) :: blk b1 (.cells #[.int .i64 k, .int .u32 ((s : Nat) : Int)] 24) :: fr) 2 S H rfl rfl rfl rfl Try.sizeOf4 rfl rfl (by first | omega | (simp <;> omega)) (xs' := bools ((fill (fun v => (Tr.nexts k es (vals, live) v).2) live i).set i ((nxt k (vals.getD i 0) ((tlook lc i).getD 0) ((tlook lc i).isSome)).2))) (bools_put (by omega) rfl) rfl rfl rfl fun w H => ?_
          refine r_nil ?_
          refine x_then ?_
          have HS : Sat _ (blk b27 (.cells #[.slice (some ⟨b32, 0, none⟩) vals.length c24, .slice (some ⟨b36, 0, none⟩) live.length c26] 40) :: mp (mkN .u32) (mkN .u64) b10 lc :: mp (mkN .u32) (mkI .i64) b9 lo :: blk b4 (.cells #[.slice none 0 0, .slice none 0 0] 40) :: blk b3 (.cells #[.slice (some ⟨b28, o29, none⟩) vals.length cv, .slice Al live.length cl] 40) :: blk b2 (.cells #[.int .i64 n, .slice A es.length c] 35) :: blk b1 (.cells #[.int .i64 k, .int .u32 ((s : Nat) : Int)] 24) :: fr) := (H.pick [0, 3, 4, 5, 6, 7, 8] 9 rfl)
          refine ⟨HS, ?_⟩
          refine h_done (by kernel_rfl) ?_
          refine x_blockEnd ?_
          refine x_then ?_
          refine r_region ?_
          refine r_y S H (y_add S rfl rfl rfl (wi64 (by omega) (by omega))) rfl rfl rfl fun a S => ?_
          refine r_y S H (y_move S rfl rfl) rfl rfl rfl fun a S => ?_
          refine r_nil ?_
          refine x_then ?_
          rw [fill_put (f := fun v => (Tr.nexts k es (vals, live) v).1) (l := vals) (k := i) (by omega) (by show _ = (Tr.nexts k es (vals, live) i).1; rw [← Tr.nexts_eq hc])] at H
          rw [fill_put (f := fun v => (Tr.nexts k es (vals, live) v).2) (l := live) (k := i) (by omega) (by show _ = (Tr.nexts k es (vals, live) i).2; rw [← Tr.nexts_eq hc])] at H
          exact ⟨i + 1, ⟨S.sub ⟨rfl, rfl, rfl, rfl, rfl, rfl, rfl, rfl, rfl, rfl, rfl, rfl, rfl, rfl, rfl, rfl, rfl, rfl, rfl, rfl, rfl, rfl, rfl, rfl, rfl, rfl, rfl, rfl, rfl, rfl, trivial⟩, H, by omega⟩, by omega⟩
        · skip
          refine wp_exit ?_
          refine x_thenExit ?_
          refine x_thenExit ?_
          refine x_blockHere ?_
          refine x_then ?_
          refine r_seq ?_
          refine r_region ?_
          refine r_y S H (y_loadAgg [_, _] 0 S rfl rfl (fun w => ⟨Try.isAgg40 w, Try.sizeOf40 w⟩) rfl rfl ⟨rfl, rfl, trivial⟩) rfl rfl rfl fun a S => ?_
          refine r_store (vs := [.slice A23 vals.length c24, .slice A25 live.length c26]) 5 S H rfl rfl rfl rfl Try.sizeOf40 rfl rfl (by simp [Value.oneCell']) rfl rfl rfl rfl rfl fun w H => ?_
          refine r_nil ?_
          refine x_then ?_
          refine wp_ret ?_
          refine r_ret1 S H Try.results39 (ro_agg [_, _] (i := 5) S rfl (fun w => ⟨Try.isAgg40 w, Try.sizeOf40 w⟩) rfl rfl ⟨rfl, rfl, trivial⟩) ?_
          have hi : i = vals.length := by omega
          subst hi
          rw [Tr.step_fill (by simpa using h23) hlv]
          simp only [l1, l2]
          exact ⟨_, _, _, _, rfl, (H.pick [1, 2] 9 rfl)⟩

set_option maxRecDepth 4000 in
theorem trace_ct (w : World) (fr : List Res) (k : Int) (s : Nat) (hs : s < 4294967296) (n : Int) (A : Option Addr) (c : Nat) (es : List E) (ok : SlOk fr 3 A es.length c (ecells es)) (hes : ∀ e ∈ es, e.f < 4294967296 ∧ e.t < 4294967296) (hew : ∀ e ∈ es, e.w < 4294967296) (j : Int) (hj : -9223372036854775808 ≤ j ∧ j ≤ 9223372036854775807) (H : Sat w (fr)) :
    Rt Try.prog 24 #[.agg #[.int .i64 k, .int .u32 ((s : Nat) : Int)], .agg #[.int .i64 n, .slice A es.length c], .int .i64 j] w fun v w' => (∃ A1 c1 A2 c2, v = .tuple #[.agg #[.slice A1 (Tr.traceR k s n es j).1.length c1, .slice A2 (Tr.traceR k s n es j).2.length c2], .int .i64 (Tr.err (Tr.may k s n es && decide (0 ≤ j)))] ∧ Sat w' (row 25 1 (.slice A1 (Tr.traceR k s n es j).1.length c1) (Tr.traceR k s n es j).1.length (u64s (Tr.traceR k s n es j).1) :: row 4 1 (.slice A2 (Tr.traceR k s n es j).2.length c2) (Tr.traceR k s n es j).2.length (bools (Tr.traceR k s n es j).2) :: fr)) := by
  refine rt_enter Try.func24 rfl (n := 37) Try.ntmps24 rfl fun a S => ?_
  refine r_seq ?_
  refine r_region ?_
  refine r_box (c := #[.int .i64 k, .int .u32 ((s : Nat) : Int)]) S H rfl rfl rfl rfl rfl rfl fun a w b1 S H => ?_
  refine r_box (c := #[.int .i64 n, .slice A es.length c]) S H rfl rfl rfl rfl rfl rfl fun a w b2 S H => ?_
  refine r_alloc S H rfl Try.zeroValue40 rfl rfl rfl rfl fun a w b3 S H => ?_
  refine r_y S H (y_assign S rfl rfl) rfl rfl rfl fun a S => ?_
  refine r_nil ?_
  refine x_then ?_
  refine r_seq ?_
  refine r_region ?_
  refine r_y S H (y_loadAgg [_, _] 2 S rfl rfl (fun w => ⟨Try.isAgg24 w, Try.sizeOf24 w⟩) rfl rfl ⟨rfl, rfl, trivial⟩) rfl rfl rfl fun a S => ?_
  refine r_y S H (y_loadAgg [_, _] 1 S rfl rfl (fun w => ⟨Try.isAgg35 w, Try.sizeOf35 w⟩) rfl rfl ⟨rfl, rfl, trivial⟩) rfl rfl rfl fun a S => ?_
  refine r_call (args := #[.agg #[.int .i64 k, .int .u32 ((s : Nat) : Int)], .agg #[.int .i64 n, .slice A es.length c]]) S rfl rfl Try.call29 (start_ct (H := H) _ _ k s (by omega) n _ _ es (((ok.more _).more _).more _) hes) rfl rfl rfl fun v a w hR S => ?_
  obtain ⟨A4, c5, A6, c7, rfl, H⟩ := hR
  refine r_y S H (y_move S rfl rfl) rfl rfl rfl fun a S => ?_
  refine r_y S H (y_extract (v := .agg #[.slice A4 ((Tr.startR k s n es).1.length) c5, .slice A6 ((Tr.startR k s n es).2.length) c7]) S rfl rfl rfl) rfl rfl rfl fun a S => ?_
  refine r_y S H (y_extract (v := .int .i64 (Tr.err (Tr.may k s n es))) S rfl rfl rfl) rfl rfl rfl fun a S => ?_
  refine r_alloc S H rfl Try.zeroValue40 rfl rfl rfl rfl fun a w b8 S H => ?_
  refine r_store (vs := [.slice A4 ((Tr.startR k s n es).1.length) c5, .slice A6 ((Tr.startR k s n es).2.length) c7]) 0 S H rfl rfl rfl rfl Try.sizeOf40 rfl rfl (by simp [Value.oneCell']) rfl rfl rfl rfl rfl fun w H => ?_
  refine r_y S H (y_assign S rfl rfl) rfl rfl rfl fun a S => ?_
  refine r_nil ?_
  refine x_then ?_
  refine r_seq ?_
  refine r_seq ?_
  refine wp_via (J := fun a w => Slots a 37 [(0, .agg #[.int .i64 k, .int .u32 ((s : Nat) : Int)]), (1, .agg #[.int .i64 n, .slice A es.length c]), (2, .int .i64 j), (3, .pointer (some ⟨b1, 0, none⟩)), (4, .pointer (some ⟨b2, 0, none⟩)), (6, .pointer (some ⟨b3, 0, none⟩)), (7, .int .i64 0), (8, .pointer (some ⟨b8, 0, none⟩)), (9, .int .i64 (Tr.err (Tr.may k s n es))), (10, .tuple #[.agg #[.slice A4 ((Tr.startR k s n es).1.length) c5, .slice A6 ((Tr.startR k s n es).2.length) c7], .int .i64 (Tr.err (Tr.may k s n es))]), (11, .agg #[.int .i64 k, .int .u32 ((s : Nat) : Int)]), (12, .agg #[.int .i64 n, .slice A es.length c]), (13, .tuple #[.agg #[.slice A4 ((Tr.startR k s n es).1.length) c5, .slice A6 ((Tr.startR k s n es).2.length) c7], .int .i64 (Tr.err (Tr.may k s n es))]), (14, .agg #[.slice A4 ((Tr.startR k s n es).1.length) c5, .slice A6 ((Tr.startR k s n es).2.length) c7]), (15, .int .i64 (Tr.err (Tr.may k s n es))), (21, .bool ((decide (Tr.err (Tr.may k s n es) ≠ 0)) || (decide (j < 0))))] ∧ Sat w (blk b8 (.cells #[.slice A4 ((Tr.startR k s n es).1.length) c5, .slice A6 ((Tr.startR k s n es).2.length) c7] 40) :: row 25 1 (.slice A4 ((Tr.startR k s n es).1.length) c5) ((Tr.startR k s n es).1.length) (u64s (Tr.startR k s n es).1) :: row 4 1 (.slice A6 ((Tr.startR k s n es).2.length) c7) ((Tr.startR k s n es).2.length) (bools (Tr.startR k s n es).2) :: blk b3 (.cells #[.slice none 0 0, .slice none 0 0] 40) :: blk b2 (.cells #[.int .i64 n, .slice A es.length c] 35) :: blk b1 (.cells #[.int .i64 k, .int .u32 ((s : Nat) : Int)] 24) :: fr)) ?_ (fun a w hm => ?_)
  · skip
    refine r_region ?_
    refine r_y S H (y_move S rfl rfl) rfl rfl rfl fun a S => ?_
    refine r_y S H (y_ne S rfl rfl rfl) rfl rfl rfl fun a S => ?_
    refine r_y S H (y_move S rfl rfl) rfl rfl rfl fun a S => ?_
    refine splitP S (d := 18) rfl (fun g18 S => ?_) (fun g18 S => ?_)
    · skip
      refine r_skip S rfl rfl rfl fun a S => ?_
      refine r_skip S rfl rfl rfl fun a S => ?_
      refine r_y S H (y_pickT S rfl rfl rfl) rfl rfl rfl fun a S => ?_
      refine r_nil ?_
      refine x_then ?_
      exact ⟨S.sub ⟨rfl, rfl, rfl, rfl, rfl, rfl, rfl, rfl, rfl, rfl, rfl, rfl, rfl, rfl, rfl, (show lk _ _ = some (.bool true) from rfl).trans (by first | (simp only [g18, decide_true, decide_false, Bool.true_and, Bool.false_and, Bool.true_or, Bool.false_or]; done) | (simp [-List.getD_eq_getElem?_getD, g18]; done) | (simp [-List.getD_eq_getElem?_getD, g18]; omega)), trivial⟩, H⟩
    · skip
      refine r_y S H (y_move S rfl rfl) rfl rfl rfl fun a S => ?_
      refine r_y S H (y_lt S rfl rfl rfl) rfl rfl rfl fun a S => ?_
      refine r_y S H (y_pickF S rfl rfl rfl) rfl rfl rfl fun a S => ?_
      refine r_nil ?_
      refine x_then ?_
      exact ⟨S.sub ⟨rfl, rfl, rfl, rfl, rfl, rfl, rfl, rfl, rfl, rfl, rfl, rfl, rfl, rfl, rfl, (show lk _ _ = some (.bool (decide (j < 0))) from rfl).trans (by first | (simp only [g18, decide_true, decide_false, Bool.true_and, Bool.false_and, Bool.true_or, Bool.false_or]; done) | (simp [-List.getD_eq_getElem?_getD, g18]; done) | (simp [-List.getD_eq_getElem?_getD, g18]; omega)), trivial⟩, H⟩
  obtain ⟨S, H⟩ := hm
  refine x_then ?_
  refine r_cond S rfl (fun h21 => ?_) (fun h21 => ?_)
  · skip
    refine r_seq ?_
    refine r_region ?_
    refine r_y S H (y_build (vs := #[]) (v := .agg #[.slice none 0 0, .slice none 0 0]) S rfl rfl (fun w => by kernel_rfl)) rfl rfl rfl fun a S => ?_
    refine r_store (vs := [.slice none 0 0, .slice none 0 0]) 3 S H rfl rfl rfl rfl Try.sizeOf40 rfl rfl (by simp [Value.oneCell']) rfl rfl rfl rfl rfl fun w H => ?_
    refine r_y S H (y_assign S rfl rfl) rfl rfl rfl fun a S => ?_
    refine r_nil ?_
    refine x_then ?_
    refine wp_ret ?_
    refine x_thenRet ?_
    refine r_ret2 S H Try.results24 (ro_agg [_, _] (i := 3) S rfl (fun w => ⟨Try.isAgg40 w, Try.sizeOf40 w⟩) rfl rfl ⟨rfl, rfl, trivial⟩) (ro_tmp S rfl) ?_
    have hm : (Tr.may k s n es && decide (0 ≤ j)) = false := by simp only [Tr.err] at h21; cases hq : Tr.may k s n es <;> simp [hq] at h21 ⊢; omega
    have hX : Tr.traceR k s n es j = ([], []) := by unfold Tr.traceR; rw [hm]; rfl
    rw [hX, hm]
    exact ⟨none, 0, none, 0, rfl, (((H.pick [] 6 rfl)).nilRow _ _).nilRow _ _⟩
  · skip
    have hmay : Tr.may k s n es = true := by simp only [Tr.err] at h21; cases hq : Tr.may k s n es <;> simp [hq] at h21 ⊢
    have hj0 : 0 ≤ j := by simp at h21; omega
    obtain ⟨hn0, hn1, hel, hee, hk1, hk5, hks⟩ := Tr.may_facts hmay
    obtain ⟨m, rfl⟩ := Int.eq_ofNat_of_zero_le hn0
    obtain ⟨J, rfl⟩ := Int.eq_ofNat_of_zero_le hj0
    refine wp_skip ?_
    refine x_then ?_
    refine r_seq ?_
    refine r_block ?_
    refine r_loop (ι := Nat × Nat × Option Addr × Nat × Option Addr × Nat) (fun ⟨i, d, A1, c1, A2, c2⟩ a w => Slots a 37 [(0, .agg #[.int .i64 k, .int .u32 ((s : Nat) : Int)]), (1, .agg #[.int .i64 ((m : Nat) : Int), .slice A es.length c]), (2, .int .i64 ((i : Nat) : Int)), (3, .pointer (some ⟨b1, 0, none⟩)), (4, .pointer (some ⟨b2, 0, none⟩)), (6, .pointer (some ⟨b3, 0, none⟩)), (7, .int .i64 0), (8, .pointer (some ⟨b8, 0, none⟩)), (9, .int .i64 (Tr.err (Tr.may k s ((m : Nat) : Int) es))), (10, .tuple #[.agg #[.slice A4 ((Tr.startR k s ((m : Nat) : Int) es).1.length) c5, .slice A6 ((Tr.startR k s ((m : Nat) : Int) es).2.length) c7], .int .i64 (Tr.err (Tr.may k s ((m : Nat) : Int) es))]), (11, .agg #[.int .i64 k, .int .u32 ((s : Nat) : Int)]), (12, .agg #[.int .i64 ((m : Nat) : Int), .slice A es.length c]), (13, .tuple #[.agg #[.slice A4 ((Tr.startR k s ((m : Nat) : Int) es).1.length) c5, .slice A6 ((Tr.startR k s ((m : Nat) : Int) es).2.length) c7], .int .i64 (Tr.err (Tr.may k s ((m : Nat) : Int) es))]), (14, .agg #[.slice A4 ((Tr.startR k s ((m : Nat) : Int) es).1.length) c5, .slice A6 ((Tr.startR k s ((m : Nat) : Int) es).2.length) c7]), (15, .int .i64 (Tr.err (Tr.may k s ((m : Nat) : Int) es))), (21, .bool ((decide (Tr.err (Tr.may k s ((m : Nat) : Int) es) ≠ 0)) || (decide (((J : Nat) : Int) < 0))))] ∧ Sat w (row 25 1 (.slice A1 ((Tr.iter k es d (Tr.start k s m)).1.length) c1) ((Tr.iter k es d (Tr.start k s m)).1.length) (u64s (Tr.iter k es d (Tr.start k s m)).1) :: row 4 1 (.slice A2 ((Tr.iter k es d (Tr.start k s m)).2.length) c2) ((Tr.iter k es d (Tr.start k s m)).2.length) (bools (Tr.iter k es d (Tr.start k s m)).2) :: blk b8 (.cells #[.slice A1 ((Tr.iter k es d (Tr.start k s m)).1.length) c1, .slice A2 ((Tr.iter k es d (Tr.start k s m)).2.length) c2] 40) :: blk b3 (.cells #[.slice none 0 0, .slice none 0 0] 40) :: blk b2 (.cells #[.int .i64 ((m : Nat) : Int), .slice A es.length c] 35) :: blk b1 (.cells #[.int .i64 k, .int .u32 ((s : Nat) : Int)] 24) :: fr) ∧ (d + i = J)) (fun ⟨i, d, A1, c1, A2, c2⟩ => i) (J, 0, A4, c5, A6, c7) ⟨S.sub ⟨rfl, rfl, rfl, rfl, rfl, rfl, rfl, rfl, rfl, rfl, rfl, rfl, rfl, rfl, rfl, rfl, trivial⟩, (by rw [Tr.startR_yes hmay] at H; exact (H.pick [1, 2, 0, 3, 4, 5] 6 rfl)), by omega⟩ (fun ⟨i, d, A1, c1, A2, c2⟩ a w hI => ?_)
    obtain ⟨S, H, hI⟩ := hI
    obtain ⟨hee, hlv, hlen, hn, hel, hvt⟩ := Tr.iter_side hmay d
    refine r_seq ?_
    refine r_seq ?_
    refine wp_via (J := fun a w => Slots a 37 [(0, .agg #[.int .i64 k, .int .u32 ((s : Nat) : Int)]), (1, .agg #[.int .i64 ((m : Nat) : Int), .slice A es.length c]), (2, .int .i64 ((i : Nat) : Int)), (3, .pointer (some ⟨b1, 0, none⟩)), (4, .pointer (some ⟨b2, 0, none⟩)), (6, .pointer (some ⟨b3, 0, none⟩)), (7, .int .i64 0), (8, .pointer (some ⟨b8, 0, none⟩)), (9, .int .i64 (Tr.err (Tr.may k s ((m : Nat) : Int) es))), (10, .tuple #[.agg #[.slice A4 ((Tr.startR k s ((m : Nat) : Int) es).1.length) c5, .slice A6 ((Tr.startR k s ((m : Nat) : Int) es).2.length) c7], .int .i64 (Tr.err (Tr.may k s ((m : Nat) : Int) es))]), (11, .agg #[.int .i64 k, .int .u32 ((s : Nat) : Int)]), (12, .agg #[.int .i64 ((m : Nat) : Int), .slice A es.length c]), (13, .tuple #[.agg #[.slice A4 ((Tr.startR k s ((m : Nat) : Int) es).1.length) c5, .slice A6 ((Tr.startR k s ((m : Nat) : Int) es).2.length) c7], .int .i64 (Tr.err (Tr.may k s ((m : Nat) : Int) es))]), (14, .agg #[.slice A4 ((Tr.startR k s ((m : Nat) : Int) es).1.length) c5, .slice A6 ((Tr.startR k s ((m : Nat) : Int) es).2.length) c7]), (15, .int .i64 (Tr.err (Tr.may k s ((m : Nat) : Int) es))), (21, .bool ((decide (Tr.err (Tr.may k s ((m : Nat) : Int) es) ≠ 0)) || (decide (((J : Nat) : Int) < 0)))), (29, .bool ((decide (0 < ((i : Nat) : Int))) && (!(quiet ((Tr.iter k es d (Tr.start k s m)).2)))))] ∧ Sat w (row 25 1 (.slice A1 ((Tr.iter k es d (Tr.start k s m)).1.length) c1) ((Tr.iter k es d (Tr.start k s m)).1.length) (u64s (Tr.iter k es d (Tr.start k s m)).1) :: row 4 1 (.slice A2 ((Tr.iter k es d (Tr.start k s m)).2.length) c2) ((Tr.iter k es d (Tr.start k s m)).2.length) (bools (Tr.iter k es d (Tr.start k s m)).2) :: blk b8 (.cells #[.slice A1 ((Tr.iter k es d (Tr.start k s m)).1.length) c1, .slice A2 ((Tr.iter k es d (Tr.start k s m)).2.length) c2] 40) :: blk b3 (.cells #[.slice none 0 0, .slice none 0 0] 40) :: blk b2 (.cells #[.int .i64 ((m : Nat) : Int), .slice A es.length c] 35) :: blk b1 (.cells #[.int .i64 k, .int .u32 ((s : Nat) : Int)] 24) :: fr)) ?_ (fun a w hm => ?_)
    · skip
      refine r_region ?_
      refine r_y S H (y_move S rfl rfl) rfl rfl rfl fun a S => ?_
      refine r_y S H (y_gt S rfl rfl rfl) rfl rfl rfl fun a S => ?_
      refine r_y S H (y_move S rfl rfl) rfl rfl rfl fun a S => ?_
      refine splitP S (d := 25) rfl (fun g25 S => ?_) (fun g25 S => ?_)
      · skip
        refine r_y S H (y_loadAgg [_, _] 2 S rfl rfl (fun w => ⟨Try.isAgg40 w, Try.sizeOf40 w⟩) rfl rfl ⟨rfl, rfl, trivial⟩) rfl rfl rfl fun a S => ?_
        refine r_call (args := #[.agg #[.slice A1 ((Tr.iter k es d (Tr.start k s m)).1.length) c1, .slice A2 ((Tr.iter k es d (Tr.start k s m)).2.length) c2]]) S rfl rfl Try.call25 (quiet_ct (H := H) _ _ _ _ ((Tr.iter k es d (Tr.start k s m)).1) (SlOk.ofRow (i := 0) H rfl) _ _ ((Tr.iter k es d (Tr.start k s m)).2) (SlOk.ofRow (i := 1) H rfl)) rfl rfl rfl fun v a w hR S => ?_
        obtain ⟨rfl, H⟩ := hR
        refine r_y S H (y_not S rfl rfl) rfl rfl rfl fun a S => ?_
        refine r_y S H (y_pickT S rfl rfl rfl) rfl rfl rfl fun a S => ?_
        refine r_nil ?_
        refine x_then ?_
        exact ⟨S.sub ⟨rfl, rfl, rfl, rfl, rfl, rfl, rfl, rfl, rfl, rfl, rfl, rfl, rfl, rfl, rfl, rfl, (show lk _ _ = some (.bool (!(quiet ((Tr.iter k es d (Tr.start k s m)).2)))) from rfl).trans (by first | (simp only [g25, decide_true, decide_false, Bool.true_and, Bool.false_and, Bool.true_or, Bool.false_or]; done) | (simp [-List.getD_eq_getElem?_getD, g25]; done) | (simp [-List.getD_eq_getElem?_getD, g25]; omega)), trivial⟩, H⟩
      · skip
        refine r_skip S rfl rfl rfl fun a S => ?_
        refine r_skip S rfl rfl rfl fun a S => ?_
        refine r_skip S rfl rfl rfl fun a S => ?_
        refine r_y S H (y_pickF S rfl rfl rfl) rfl rfl rfl fun a S => ?_
        refine r_nil ?_
        refine x_then ?_
        exact ⟨S.sub ⟨rfl, rfl, rfl, rfl, rfl, rfl, rfl, rfl, rfl, rfl, rfl, rfl, rfl, rfl, rfl, rfl, (show lk _ _ = some (.bool false) from rfl).trans (by first | (simp only [g25, decide_true, decide_false, Bool.true_and, Bool.false_and, Bool.true_or, Bool.false_or]; done) | (simp [-List.getD_eq_getElem?_getD, g25]; done) | (simp [-List.getD_eq_getElem?_getD, g25]; omega)), trivial⟩, H⟩
    obtain ⟨S, H⟩ := hm
    refine x_then ?_
    refine r_cond S rfl (fun h29 => ?_) (fun h29 => ?_)
    · skip
      simp only [Bool.and_eq_true, decide_eq_true_eq] at h29
      have hip := h29.1
      refine wp_skip ?_
      refine x_then ?_
      refine r_seq ?_
      refine r_block ?_
      refine r_region ?_
      refine r_y S H (y_loadAgg [_, _] 5 S rfl rfl (fun w => ⟨Try.isAgg24 w, Try.sizeOf24 w⟩) rfl rfl ⟨rfl, rfl, trivial⟩) rfl rfl rfl fun a S => ?_
      refine r_y S H (y_loadAgg [_, _] 4 S rfl rfl (fun w => ⟨Try.isAgg35 w, Try.sizeOf35 w⟩) rfl rfl ⟨rfl, rfl, trivial⟩) rfl rfl rfl fun a S => ?_
      refine r_y S H (y_loadAgg [_, _] 2 S rfl rfl (fun w => ⟨Try.isAgg40 w, Try.sizeOf40 w⟩) rfl rfl ⟨rfl, rfl, trivial⟩) rfl rfl rfl fun a S => ?_
      refine r_call (args := #[.agg #[.int .i64 k, .int .u32 ((s : Nat) : Int)], .agg #[.int .i64 ((m : Nat) : Int), .slice A es.length c], .agg #[.slice A1 ((Tr.iter k es d (Tr.start k s m)).1.length) c1, .slice A2 ((Tr.iter k es d (Tr.start k s m)).2.length) c2]]) S rfl rfl Try.call39 (step_ct (H := H) _ _ k s (by omega) ((m : Nat) : Int) _ _ es ((((((ok.more _).more _).more _).more _).more _).more _) hes _ _ ((Tr.iter k es d (Tr.start k s m)).1) (SlOk.ofRow (i := 0) H rfl) _ _ ((Tr.iter k es d (Tr.start k s m)).2) (SlOk.ofRow (i := 1) H rfl) hee hew hlv (by omega) hel hvt) rfl rfl rfl fun v a w hR S => ?_
      obtain ⟨A9, c10, A11, c12, rfl, H⟩ := hR
      refine r_store (vs := [.slice A9 ((Tr.step k es ((Tr.iter k es d (Tr.start k s m)).1, (Tr.iter k es d (Tr.start k s m)).2)).1.length) c10, .slice A11 ((Tr.step k es ((Tr.iter k es d (Tr.start k s m)).1, (Tr.iter k es d (Tr.start k s m)).2)).2.length) c12]) 4 S H rfl rfl rfl rfl Try.sizeOf40 rfl rfl (by simp [Value.oneCell']) rfl rfl rfl rfl rfl fun w H => ?_
      refine r_nil ?_
      refine x_blockEnd ?_
      refine x_then ?_
      refine r_region ?_
      refine r_y S H (y_move S rfl rfl) rfl rfl rfl fun a S => ?_
      refine r_y S H (y_sub S rfl rfl rfl (wi64 (by omega) (by omega))) rfl rfl rfl fun a S => ?_
      refine r_y S H (y_assign S rfl rfl) rfl rfl rfl fun a S => ?_
      refine r_nil ?_
      refine x_then ?_
      exact ⟨(i - 1, d + 1, A9, c10, A11, c12), ⟨S.sub ⟨rfl, rfl, ((show lk _ _ = some _ from rfl).trans (congrArg (fun x => some (Value.int .i64 x)) (by omega))), rfl, rfl, rfl, rfl, rfl, rfl, rfl, rfl, rfl, rfl, rfl, rfl, rfl, trivial⟩, (H.pick [0, 1, 4, 5, 6, 7] 8 rfl), by omega⟩, by show i - 1 < i; omega⟩
    · skip
      refine wp_exit ?_
      refine x_thenExit ?_
      refine x_thenExit ?_
      refine x_blockHere ?_
      refine x_then ?_
      refine r_seq ?_
      refine r_region ?_
      refine r_y S H (y_loadAgg [_, _] 2 S rfl rfl (fun w => ⟨Try.isAgg40 w, Try.sizeOf40 w⟩) rfl rfl ⟨rfl, rfl, trivial⟩) rfl rfl rfl fun a S => ?_
      refine r_store (vs := [.slice A1 ((Tr.iter k es d (Tr.start k s m)).1.length) c1, .slice A2 ((Tr.iter k es d (Tr.start k s m)).2.length) c2]) 3 S H rfl rfl rfl rfl Try.sizeOf40 rfl rfl (by simp [Value.oneCell']) rfl rfl rfl rfl rfl fun w H => ?_
      refine r_y S H (y_assign S rfl rfl) rfl rfl rfl fun a S => ?_
      refine r_nil ?_
      refine x_then ?_
      refine wp_ret ?_
      refine r_ret2 S H Try.results24 (ro_agg [_, _] (i := 3) S rfl (fun w => ⟨Try.isAgg40 w, Try.sizeOf40 w⟩) rfl rfl ⟨rfl, rfl, trivial⟩) (ro_tmp S rfl) ?_
      have hX : Tr.traceR k s m es J = Tr.iter k es d (Tr.start k s m) := by
        unfold Tr.traceR; rw [hmay]
        simp only [Bool.true_and, Int.natCast_nonneg, decide_true, if_true, Int.toNat_natCast]
        rw [← hI]
        by_cases hi : i = 0
        · subst hi; rfl
        · exact Tr.iter_stays (by simp at h29; exact h29 (by omega)) i
      rw [hX, hmay]
      simp only [Bool.true_and, Int.natCast_nonneg, decide_true]
      exact ⟨_, _, _, _, rfl, (H.pick [0, 1] 6 rfl)⟩

set_option maxRecDepth 4000 in
theorem onestep_ct (w : World) (fr : List Res) (k : Int) (s : Nat) (hs : s < 4294967296) (n : Int) (A : Option Addr) (c : Nat) (es : List E) (ok : SlOk fr 3 A es.length c (ecells es)) (hes : ∀ e ∈ es, e.f < 4294967296 ∧ e.t < 4294967296) (Av : Option Addr) (cv : Nat) (vals : List Nat) (okv : SlOk fr 1 Av vals.length cv (u64s vals)) (Al : Option Addr) (cl : Nat) (live : List Bool) (okl : SlOk fr 1 Al live.length cl (bools live)) (hew : ∀ e ∈ es, e.w < 4294967296) (hvt : ∀ x ∈ vals, x ≤ 18446744073709551615) (H : Sat w (fr)) :
    Rt Try.prog 27 #[.agg #[.int .i64 k, .int .u32 ((s : Nat) : Int)], .agg #[.int .i64 n, .slice A es.length c], .agg #[.slice Av vals.length cv, .slice Al live.length cl]] w fun v w' => (∃ A1 c1 A2 c2, v = .tuple #[.agg #[.slice A1 (Tr.stepR k s n es (vals, live)).1.length c1, .slice A2 (Tr.stepR k s n es (vals, live)).2.length c2], .int .i64 (Tr.err (Tr.stepOk k s n es (vals, live)))] ∧ Sat w' (row 25 1 (.slice A1 (Tr.stepR k s n es (vals, live)).1.length c1) (Tr.stepR k s n es (vals, live)).1.length (u64s (Tr.stepR k s n es (vals, live)).1) :: row 4 1 (.slice A2 (Tr.stepR k s n es (vals, live)).2.length c2) (Tr.stepR k s n es (vals, live)).2.length (bools (Tr.stepR k s n es (vals, live)).2) :: fr)) := by
  have hcv := okv.le
  have hcl := okl.le
  refine rt_enter Try.func27 rfl (n := 33) Try.ntmps27 rfl fun a S => ?_
  refine r_seq ?_
  refine r_region ?_
  refine r_box (c := #[.int .i64 k, .int .u32 ((s : Nat) : Int)]) S H rfl rfl rfl rfl rfl rfl fun a w b1 S H => ?_
  refine r_box (c := #[.int .i64 n, .slice A es.length c]) S H rfl rfl rfl rfl rfl rfl fun a w b2 S H => ?_
  refine r_box (c := #[.slice Av vals.length cv, .slice Al live.length cl]) S H rfl rfl rfl rfl rfl rfl fun a w b3 S H => ?_
  refine r_alloc S H rfl Try.zeroValue40 rfl rfl rfl rfl fun a w b4 S H => ?_
  refine r_y S H (y_assign S rfl rfl) rfl rfl rfl fun a S => ?_
  refine r_nil ?_
  refine x_then ?_
  refine r_seq ?_
  refine r_seq ?_
  refine wp_via (J := fun a w => Slots a 33 [(0, .agg #[.int .i64 k, .int .u32 ((s : Nat) : Int)]), (1, .agg #[.int .i64 n, .slice A es.length c]), (2, .agg #[.slice Av vals.length cv, .slice Al live.length cl]), (3, .pointer (some ⟨b1, 0, none⟩)), (4, .pointer (some ⟨b2, 0, none⟩)), (5, .pointer (some ⟨b3, 0, none⟩)), (6, .pointer (some ⟨b4, 0, none⟩)), (7, .int .i64 0), (27, .bool (((!(Tr.may k s n es)) || (decide (((vals.length : Nat) : Int) ≠ n))) || (decide (((live.length : Nat) : Int) ≠ n))))] ∧ Sat w (blk b4 (.cells #[.slice none 0 0, .slice none 0 0] 40) :: blk b3 (.cells #[.slice Av vals.length cv, .slice Al live.length cl] 40) :: blk b2 (.cells #[.int .i64 n, .slice A es.length c] 35) :: blk b1 (.cells #[.int .i64 k, .int .u32 ((s : Nat) : Int)] 24) :: fr)) ?_ (fun a w hm => ?_)
  · skip
    refine r_region ?_
    refine r_y S H (y_loadAgg [_, _] 3 S rfl rfl (fun w => ⟨Try.isAgg24 w, Try.sizeOf24 w⟩) rfl rfl ⟨rfl, rfl, trivial⟩) rfl rfl rfl fun a S => ?_
    refine r_y S H (y_loadAgg [_, _] 2 S rfl rfl (fun w => ⟨Try.isAgg35 w, Try.sizeOf35 w⟩) rfl rfl ⟨rfl, rfl, trivial⟩) rfl rfl rfl fun a S => ?_
    refine r_call (args := #[.agg #[.int .i64 k, .int .u32 ((s : Nat) : Int)], .agg #[.int .i64 n, .slice A es.length c]]) S rfl rfl Try.call41 (may_ct (H := H) _ _ k s (by omega) n _ _ es ((((ok.more _).more _).more _).more _) hes) rfl rfl rfl fun v a w hR S => ?_
    obtain ⟨rfl, H⟩ := hR
    refine r_y S H (y_not S rfl rfl) rfl rfl rfl fun a S => ?_
    refine r_y S H (y_move S rfl rfl) rfl rfl rfl fun a S => ?_
    refine splitB S (d := 12) rfl (fun g12 S => ?_) (fun g12 S => ?_)
    · skip
      refine r_skip S rfl rfl rfl fun a S => ?_
      refine r_skip S rfl rfl rfl fun a S => ?_
      refine r_skip S rfl rfl rfl fun a S => ?_
      refine r_skip S rfl rfl rfl fun a S => ?_
      refine r_skip S rfl rfl rfl fun a S => ?_
      refine r_skip S rfl rfl rfl fun a S => ?_
      refine r_y S H (y_pickT S rfl rfl rfl) rfl rfl rfl fun a S => ?_
      refine r_y S H (y_move S rfl rfl) rfl rfl rfl fun a S => ?_
      refine r_skip S rfl rfl rfl fun a S => ?_
      refine r_skip S rfl rfl rfl fun a S => ?_
      refine r_skip S rfl rfl rfl fun a S => ?_
      refine r_skip S rfl rfl rfl fun a S => ?_
      refine r_skip S rfl rfl rfl fun a S => ?_
      refine r_skip S rfl rfl rfl fun a S => ?_
      refine r_y S H (y_pickT S rfl rfl rfl) rfl rfl rfl fun a S => ?_
      refine r_nil ?_
      refine x_then ?_
      exact ⟨S.sub ⟨rfl, rfl, rfl, rfl, rfl, rfl, rfl, rfl, (show lk _ _ = some (.bool true) from rfl).trans (by first | (simp only [g12, decide_true, decide_false, Bool.true_and, Bool.false_and, Bool.true_or, Bool.false_or]; done) | (simp [-List.getD_eq_getElem?_getD, g12]; done) | (simp [-List.getD_eq_getElem?_getD, g12]; omega)), trivial⟩, H⟩
    · skip
      refine r_y S H (y_fieldAddr S rfl rfl fa40_0) rfl rfl rfl fun a S => ?_
      refine r_y S H (y_load 1 S rfl rfl Try.isAgg37 rfl rfl) rfl rfl rfl fun a S => ?_
      refine r_y S H (y_len S rfl rfl Try.underlying37) rfl rfl rfl fun a S => ?_
      refine r_y S H (y_fieldAddr S rfl rfl fa35_0) rfl rfl rfl fun a S => ?_
      refine r_y S H (y_load 2 S rfl rfl Try.isAgg3 rfl rfl) rfl rfl rfl fun a S => ?_
      refine r_y S H (y_ne S rfl rfl rfl) rfl rfl rfl fun a S => ?_
      refine r_y S H (y_pickF S rfl rfl rfl) rfl rfl rfl fun a S => ?_
      refine r_y S H (y_move S rfl rfl) rfl rfl rfl fun a S => ?_
      refine splitP S (d := 20) rfl (fun g20 S => ?_) (fun g20 S => ?_)
      · skip
        refine r_skip S rfl rfl rfl fun a S => ?_
        refine r_skip S rfl rfl rfl fun a S => ?_
        refine r_skip S rfl rfl rfl fun a S => ?_
        refine r_skip S rfl rfl rfl fun a S => ?_
        refine r_skip S rfl rfl rfl fun a S => ?_
        refine r_skip S rfl rfl rfl fun a S => ?_
        refine r_y S H (y_pickT S rfl rfl rfl) rfl rfl rfl fun a S => ?_
        refine r_nil ?_
        refine x_then ?_
        exact ⟨S.sub ⟨rfl, rfl, rfl, rfl, rfl, rfl, rfl, rfl, (show lk _ _ = some (.bool true) from rfl).trans (by first | (simp only [g12, g20, decide_true, decide_false, Bool.true_and, Bool.false_and, Bool.true_or, Bool.false_or]; done) | (simp [-List.getD_eq_getElem?_getD, g12, g20]; done) | (simp [-List.getD_eq_getElem?_getD, g12, g20]; omega)), trivial⟩, H⟩
      · skip
        refine r_y S H (y_fieldAddr S rfl rfl fa40_1) rfl rfl rfl fun a S => ?_
        refine r_y S H (y_load 1 S rfl rfl Try.isAgg38 rfl rfl) rfl rfl rfl fun a S => ?_
        refine r_y S H (y_len S rfl rfl Try.underlying38) rfl rfl rfl fun a S => ?_
        refine r_y S H (y_fieldAddr S rfl rfl fa35_0) rfl rfl rfl fun a S => ?_
        refine r_y S H (y_load 2 S rfl rfl Try.isAgg3 rfl rfl) rfl rfl rfl fun a S => ?_
        refine r_y S H (y_ne S rfl rfl rfl) rfl rfl rfl fun a S => ?_
        refine r_y S H (y_pickF S rfl rfl rfl) rfl rfl rfl fun a S => ?_
        refine r_nil ?_
        refine x_then ?_
        exact ⟨S.sub ⟨rfl, rfl, rfl, rfl, rfl, rfl, rfl, rfl, (show lk _ _ = some (.bool (decide (((live.length : Nat) : Int) ≠ n))) from rfl).trans (by first | (simp only [g12, g20, decide_true, decide_false, Bool.true_and, Bool.false_and, Bool.true_or, Bool.false_or]; done) | (simp [-List.getD_eq_getElem?_getD, g12, g20]; done) | (simp [-List.getD_eq_getElem?_getD, g12, g20]; omega)), trivial⟩, H⟩
  obtain ⟨S, H⟩ := hm
  refine x_then ?_
  refine r_cond S rfl (fun h27 => ?_) (fun h27 => ?_)
  · skip
    refine r_seq ?_
    refine r_region ?_
    refine r_y S H (y_build (vs := #[]) (v := .agg #[.slice none 0 0, .slice none 0 0]) S rfl rfl (fun w => by kernel_rfl)) rfl rfl rfl fun a S => ?_
    refine r_store (vs := [.slice none 0 0, .slice none 0 0]) 0 S H rfl rfl rfl rfl Try.sizeOf40 rfl rfl (by simp [Value.oneCell']) rfl rfl rfl rfl rfl fun w H => ?_
    refine r_y S H (y_assign S rfl rfl) rfl rfl rfl fun a S => ?_
    refine r_nil ?_
    refine x_then ?_
    refine wp_ret ?_
    refine x_thenRet ?_
    refine r_ret2 S H Try.results27 (ro_agg [_, _] (i := 0) S rfl (fun w => ⟨Try.isAgg40 w, Try.sizeOf40 w⟩) rfl rfl ⟨rfl, rfl, trivial⟩) (ro_tmp S rfl) ?_
    have hm : Tr.stepOk k s n es (vals, live) = false := by unfold Tr.stepOk; cases hq : Tr.may k s n es <;> simp [hq] at h27 ⊢; omega
    have hX : Tr.stepR k s n es (vals, live) = ([], []) := by unfold Tr.stepR; rw [hm]; rfl
    rw [hX, hm]
    exact ⟨none, 0, none, 0, rfl, (((H.pick [] 4 rfl)).nilRow _ _).nilRow _ _⟩
  · skip
    have hm : Tr.stepOk k s n es (vals, live) = true := by unfold Tr.stepOk; cases hq : Tr.may k s n es <;> simp [hq] at h27 ⊢; omega
    have hmay : Tr.may k s n es = true := by simp only [Tr.stepOk, Bool.and_eq_true] at hm; exact hm.1.1
    obtain ⟨hn0, hn1, hel, hee0, hk1, hk5, hks⟩ := Tr.may_facts hmay
    simp only [Bool.or_eq_false_iff, decide_eq_false_iff_not, Decidable.not_not] at h27
    have hee : ∀ e ∈ es, e.f < vals.length ∧ e.t < vals.length := fun e he => by have := hee0 e he; omega
    refine wp_skip ?_
    refine x_then ?_
    refine r_seq ?_
    refine r_region ?_
    refine r_y S H (y_loadAgg [_, _] 3 S rfl rfl (fun w => ⟨Try.isAgg24 w, Try.sizeOf24 w⟩) rfl rfl ⟨rfl, rfl, trivial⟩) rfl rfl rfl fun a S => ?_
    refine r_y S H (y_loadAgg [_, _] 2 S rfl rfl (fun w => ⟨Try.isAgg35 w, Try.sizeOf35 w⟩) rfl rfl ⟨rfl, rfl, trivial⟩) rfl rfl rfl fun a S => ?_
    refine r_y S H (y_loadAgg [_, _] 1 S rfl rfl (fun w => ⟨Try.isAgg40 w, Try.sizeOf40 w⟩) rfl rfl ⟨rfl, rfl, trivial⟩) rfl rfl rfl fun a S => ?_
    refine r_call (args := #[.agg #[.int .i64 k, .int .u32 ((s : Nat) : Int)], .agg #[.int .i64 n, .slice A es.length c], .agg #[.slice Av vals.length cv, .slice Al live.length cl]]) S rfl rfl Try.call39 (step_ct (H := H) _ _ k s (by omega) n _ _ es ((((ok.more _).more _).more _).more _) hes _ _ vals ((((okv.more _).more _).more _).more _) _ _ live ((((okl.more _).more _).more _).more _) hee hew (by omega) (by omega) hel hvt) rfl rfl rfl fun v a w hR S => ?_
    obtain ⟨A5, c6, A7, c8, rfl, H⟩ := hR
    refine r_store (vs := [.slice A5 ((Tr.step k es (vals, live)).1.length) c6, .slice A7 ((Tr.step k es (vals, live)).2.length) c8]) 2 S H rfl rfl rfl rfl Try.sizeOf40 rfl rfl (by simp [Value.oneCell']) rfl rfl rfl rfl rfl fun w H => ?_
    refine r_y S H (y_assign S rfl rfl) rfl rfl rfl fun a S => ?_
    refine r_nil ?_
    refine x_then ?_
    refine wp_ret ?_
    refine r_ret2 S H Try.results27 (ro_agg [_, _] (i := 2) S rfl (fun w => ⟨Try.isAgg40 w, Try.sizeOf40 w⟩) rfl rfl ⟨rfl, rfl, trivial⟩) (ro_tmp S rfl) ?_
    have hX : Tr.stepR k s n es (vals, live) = Tr.step k es (vals, live) := by unfold Tr.stepR; rw [hm]; rfl
    rw [hX, hm]
    exact ⟨_, _, _, _, rfl, (H.pick [0, 1] 6 rfl)⟩

end Go.Proofs.Ytfmpgdhmfjllnaa
