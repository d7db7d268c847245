/- Walks of functions of the program, over slots and resources. No condition. -/
import Derived.Test.YtfmpgdhmfjllnaaW13a
namespace Go.Proofs.Ytfmpgdhmfjllnaa
open Go.RowKit Go.Cg
set_option linter.unusedVariables false
set_option linter.unusedSimpArgs false
theorem fa35_0 : FieldAt Try.prog 35 0 0 := by intro w b o; simp [Instr.fieldAt, Instr.sureAddr, fieldPlace, Addr.add]
theorem fa35_1 : FieldAt Try.prog 35 1 1 := by intro w b o; simp [Instr.fieldAt, Instr.sureAddr, fieldPlace, Addr.add]
theorem fa47_0 : FieldAt Try.prog 47 0 0 := by intro w b o; simp [Instr.fieldAt, Instr.sureAddr, fieldPlace, Addr.add]
theorem fa47_1 : FieldAt Try.prog 47 1 1 := by intro w b o; simp [Instr.fieldAt, Instr.sureAddr, fieldPlace, Addr.add]
open Go.Cg.Tr (E top right graph)
set_option maxRecDepth 4000 in
theorem edge_out (w : World) (fr : List Res) (b : Nat) (n : Int) (sl : Value) (e : E) (he : e.f < 4294967296 ∧ e.t < 4294967296) (H : Sat w (blk b (.cells #[.int .i64 n, sl] 35) :: fr)) :
    Rt Try.prog 51 #[.agg #[.int .u32 ((e.f : Nat) : Int), .int .u32 ((e.t : Nat) : Int), .int .u32 ((e.w : Nat) : Int)], .pointer (some ⟨b, 0, none⟩)] w fun v w' => v = .bool (decide (n ≤ e.f) || decide (n ≤ e.t)) ∧ Sat w' (blk b (.cells #[.int .i64 n, sl] 35) :: fr) := by
  refine rt_enter Try.func51 rfl (n := 18) Try.ntmps51 rfl fun a S => ?_
  refine r_seq ?_
  refine r_region ?_
  refine r_box (c := #[.int .u32 ((e.f : Nat) : Int), .int .u32 ((e.t : Nat) : Int), .int .u32 ((e.w : Nat) : Int)]) S H rfl rfl rfl rfl rfl rfl fun a w b1 S H => ?_
  refine r_y S H (y_assign S rfl rfl) rfl rfl rfl fun a S => ?_
  refine r_nil ?_
  refine x_then ?_
  refine r_seq ?_
  refine wp_via (J := fun a w => Slots a 18 [(0, .agg #[.int .u32 ((e.f : Nat) : Int), .int .u32 ((e.t : Nat) : Int), .int .u32 ((e.w : Nat) : Int)]), (1, .pointer (some ⟨b, 0, none⟩)), (2, .pointer (some ⟨b1, 0, none⟩)), (3, .bool ((decide (n ≤ ((e.f : Nat) : Int))) || (decide (n ≤ ((e.t : Nat) : Int)))))] ∧ Sat w (blk b1 (.cells #[.int .u32 ((e.f : Nat) : Int), .int .u32 ((e.t : Nat) : Int), .int .u32 ((e.w : Nat) : Int)] 47) :: blk b (.cells #[.int .i64 n, sl] 35) :: fr)) ?_ (fun a w hm => ?_)
  · skip
    refine r_region ?_
    refine r_y S H (y_fieldAddr S rfl rfl fa47_0) rfl rfl rfl fun a S => ?_
    refine r_y S H (y_load 0 S rfl rfl Try.isAgg22 rfl rfl) rfl rfl rfl fun a S => ?_
    refine r_y S H (y_conv S rfl rfl Try.underlying22 Try.underlying3 (wi64 (by omega) (by omega))) rfl rfl rfl fun a S => ?_
    refine r_y S H (y_fieldAddr S rfl rfl fa35_0) rfl rfl rfl fun a S => ?_
    refine r_y S H (y_load 1 S rfl rfl Try.isAgg3 rfl rfl) rfl rfl rfl fun a S => ?_
    refine r_y S H (y_ge S rfl rfl rfl) rfl rfl rfl fun a S => ?_
    refine r_y S H (y_move S rfl rfl) rfl rfl rfl fun a S => ?_
    refine splitP S (d := 10) rfl (fun g10 S => ?_) (fun g10 S => ?_)
    · skip
      refine r_skip S rfl rfl rfl fun a S => ?_
      refine r_skip S rfl rfl rfl fun a S => ?_
      refine r_skip S rfl rfl rfl fun a S => ?_
      refine r_skip S rfl rfl rfl fun a S => ?_
      refine r_skip S rfl rfl rfl fun a S => ?_
      refine r_skip S rfl rfl rfl fun a S => ?_
      refine r_y S H (y_pickT S rfl rfl rfl) rfl rfl rfl fun a S => ?_
      refine r_y S H (y_assign S rfl rfl) rfl rfl rfl fun a S => ?_
      refine r_nil ?_
      refine x_then ?_
      exact ⟨S.sub ⟨rfl, rfl, rfl, (show lk _ _ = some (.bool true) from rfl).trans (by first | (simp only [g10, decide_true, decide_false, Bool.true_and, Bool.false_and, Bool.true_or, Bool.false_or]; done) | (simp [-List.getD_eq_getElem?_getD, g10]; done) | (simp [-List.getD_eq_getElem?_getD, g10]; omega)), trivial⟩, H⟩
    · skip
      refine r_y S H (y_fieldAddr S rfl rfl fa47_1) rfl rfl rfl fun a S => ?_
      refine r_y S H (y_load 0 S rfl rfl Try.isAgg22 rfl rfl) rfl rfl rfl fun a S => ?_
      refine r_y S H (y_conv S rfl rfl Try.underlying22 Try.underlying3 (wi64 (by omega) (by omega))) rfl rfl rfl fun a S => ?_
      refine r_y S H (y_fieldAddr S rfl rfl fa35_0) rfl rfl rfl fun a S => ?_
      refine r_y S H (y_load 1 S rfl rfl Try.isAgg3 rfl rfl) rfl rfl rfl fun a S => ?_
      refine r_y S H (y_ge S rfl rfl rfl) rfl rfl rfl fun a S => ?_
      refine r_y S H (y_pickF S rfl rfl rfl) rfl rfl rfl fun a S => ?_
      refine r_y S H (y_assign S rfl rfl) rfl rfl rfl fun a S => ?_
      refine r_nil ?_
      refine x_then ?_
      exact ⟨S.sub ⟨rfl, rfl, rfl, (show lk _ _ = some (.bool (decide (n ≤ ((e.t : Nat) : Int)))) from rfl).trans (by first | (simp only [g10, decide_true, decide_false, Bool.true_and, Bool.false_and, Bool.true_or, Bool.false_or]; done) | (simp [-List.getD_eq_getElem?_getD, g10]; done) | (simp [-List.getD_eq_getElem?_getD, g10]; omega)), trivial⟩, H⟩
  obtain ⟨S, H⟩ := hm
  refine x_then ?_
  refine wp_ret ?_
  refine r_ret1 S H Try.results51 (ro_tmp S rfl) ?_
  exact ⟨rfl, H.drop⟩

theorem getD_mem {es : List E} {i : Nat} (h : i < es.length) : es.getD i e0 ∈ es := by rw [List.getD_eq_getElem?_getD, List.getElem?_eq_getElem h]; exact List.getElem_mem _
set_option maxRecDepth 4000 in
theorem indexf_ct (w : World) (fr : List Res) (b : Nat) (n : Int) (A : Option Addr) (c : Nat) (es : List E) (ok : SlOk fr 3 A es.length c (ecells es)) (hes : ∀ e ∈ es, e.f < 4294967296 ∧ e.t < 4294967296) (H : Sat w (blk b (.cells #[.int .i64 n, .slice A es.length c] 35) :: fr)) :
    Rt Try.prog 54 #[.slice A es.length c, .func (.func 51) #[] #[.pointer (some ⟨b, 0, none⟩)]] w fun v w' => (∃ r : Int, v = .int .i64 r ∧ (0 ≤ r ↔ es.any (fun e => decide (n ≤ (e.f : Int)) || decide (n ≤ (e.t : Int))) = true)) ∧ Sat w' (blk b (.cells #[.int .i64 n, .slice A es.length c] 35) :: fr) := by
  have hcap := ok.le
  have hmax : c ≤ 9223372036854775807 := ok.cap
  refine rt_enter Try.func54 rfl (n := 19) Try.ntmps54 rfl fun a S => ?_
  refine r_seq ?_
  refine r_region ?_
  refine r_y S H (y_assign S rfl rfl) rfl rfl rfl fun a S => ?_
  refine r_nil ?_
  refine x_then ?_
  refine r_seq ?_
  refine r_seq ?_
  refine r_region ?_
  refine r_y S H (y_move S rfl rfl) rfl rfl rfl fun a S => ?_
  refine r_y S H (y_len S rfl rfl Try.underlying33) rfl rfl rfl fun a S => ?_
  refine r_y S H (y_move S rfl rfl) rfl rfl rfl fun a S => ?_
  refine r_nil ?_
  refine x_then ?_
  refine r_block ?_
  refine r_loop (ι := Nat) (fun k a w => Slots a 19 [(0, .slice A es.length c), (1, .func (.func 51) #[] #[.pointer (some ⟨b, 0, none⟩)]), (6, .slice A es.length c), (7, .int .i64 ((es.length : Nat) : Int)), (8, .int .i64 ((k : Nat) : Int))] ∧ Sat w (blk b (.cells #[.int .i64 n, .slice A es.length c] 35) :: fr) ∧ (k ≤ es.length ∧ ∀ j, j < k → (fun e => decide (n ≤ (e.f : Int)) || decide (n ≤ (e.t : Int))) (es.getD j e0) = false)) (fun k => es.length - k) 0 ⟨S.sub ⟨rfl, rfl, rfl, rfl, rfl, trivial⟩, H, ⟨Nat.zero_le _, fun j hj => absurd hj (Nat.not_lt_zero j)⟩⟩ (fun k a w hI => ?_)
  obtain ⟨S, H, hI⟩ := hI
  obtain ⟨hk, hne⟩ := hI
  refine r_seq ?_
  refine r_region ?_
  refine r_y S H (y_lt S rfl rfl rfl) rfl rfl rfl fun a S => ?_
  refine r_nil ?_
  refine x_then ?_
  refine r_seq ?_
  refine r_test S rfl (fun h9 => ?_) (fun h9 => ?_)
  · skip
    refine wp_skip ?_
    refine x_then ?_
    refine r_seq ?_
    refine r_block ?_
    refine r_seq ?_
    refine r_region ?_
    refine r_y S H (y_move S rfl rfl) rfl rfl rfl fun a S => ?_
    refine r_y S H (y_assign S rfl rfl) rfl rfl rfl fun a S => ?_
    refine r_nil ?_
    refine x_then ?_
    refine r_seq ?_
    refine r_region ?_
    refine r_y S H (y_move S rfl rfl) rfl rfl rfl fun a S => ?_
    refine r_y S H (y_move S rfl rfl) rfl rfl rfl fun a S => ?_
    refine r_y S H (y_move S rfl rfl) rfl rfl rfl fun a S => ?_
    obtain ⟨b1, o2, rfl⟩ := (ok.more _).addr H (by first | omega | (simp <;> omega))
    refine r_y S H (y_index S rfl rfl rfl Try.underlying33 Try.sizeOf47 (by omega) (by omega)) rfl rfl rfl fun a S => ?_
    refine r_y S H (y_loadAggAt [.int .u32 (((es.getD k e0).f : Nat) : Int), .int .u32 (((es.getD k e0).t : Nat) : Int), .int .u32 (((es.getD k e0).w : Nat) : Int)] S rfl rfl (fun w => ⟨Try.isAgg47 w, Try.sizeOf47 w⟩) rfl (fun w H => (ok.more _).cells w H (ecells_from (i := k) (by first | omega | (simp <;> omega))))) rfl rfl rfl fun a S => ?_
    refine r_callV (args := #[.agg #[.int .u32 (((es.getD k e0).f : Nat) : Int), .int .u32 (((es.getD k e0).t : Nat) : Int), .int .u32 (((es.getD k e0).w : Nat) : Int)]]) S rfl rfl rfl Try.call51 (edge_out (H := H) _ _ _ _ _ (es.getD k e0) (hes _ (getD_mem (by omega)))) rfl rfl rfl fun v a w hR S => ?_
    obtain ⟨rfl, H⟩ := hR
    refine r_nil ?_
    refine x_then ?_
    refine r_cond S rfl (fun h16 => ?_) (fun h16 => ?_)
    · skip
      refine r_seq ?_
      refine r_region ?_
      refine r_y S H (y_move S rfl rfl) rfl rfl rfl fun a S => ?_
      refine r_y S H (y_assign S rfl rfl) rfl rfl rfl fun a S => ?_
      refine r_nil ?_
      refine x_then ?_
      refine wp_ret ?_
      refine x_blockRet ?_
      refine x_thenRet ?_
      refine x_thenRet ?_
      refine x_blockRet ?_
      refine x_thenRet ?_
      refine r_ret1 S H Try.results54 (ro_tmp S rfl) ?_
      refine ⟨⟨_, rfl, ?_⟩, H⟩
      constructor
      · intro _; exact List.any_eq_true.2 ⟨_, getD_mem (by omega : k < es.length), h16⟩
      · intro _; omega
    · skip
      refine wp_skip ?_
      refine x_blockEnd ?_
      refine x_then ?_
      refine r_region ?_
      refine r_y S H (y_add S rfl rfl rfl (wi64 (by omega) (by omega))) rfl rfl rfl fun a S => ?_
      refine r_y S H (y_move S rfl rfl) rfl rfl rfl fun a S => ?_
      refine r_nil ?_
      refine x_then ?_
      exact ⟨k + 1, ⟨S.sub ⟨rfl, rfl, rfl, rfl, rfl, trivial⟩, H, ⟨by omega, fun j hj => by rcases Nat.lt_succ_iff_lt_or_eq.1 hj with h | h; (exact hne j h); (subst h; exact h16)⟩⟩, by omega⟩
  · skip
    refine wp_exit ?_
    refine x_thenExit ?_
    refine x_thenExit ?_
    refine x_blockHere ?_
    refine x_then ?_
    refine r_seq ?_
    refine r_region ?_
    refine r_y S H (y_assign S rfl rfl) rfl rfl rfl fun a S => ?_
    refine r_nil ?_
    refine x_then ?_
    refine wp_ret ?_
    refine r_ret1 S H Try.results54 (ro_tmp S rfl) ?_
    refine ⟨⟨_, rfl, ?_⟩, H⟩
    constructor
    · intro h; omega
    · intro hm
      obtain ⟨e, he, hb⟩ := List.any_eq_true.1 hm
      obtain ⟨j, hj, e1⟩ := List.mem_iff_getElem.1 he
      have h2 := hne j (by omega)
      rw [List.getD_eq_getElem?_getD, List.getElem?_eq_getElem hj] at h2
      simp only [Option.getD_some, e1] at h2
      rw [h2] at hb; cases hb

set_option maxRecDepth 4000 in
theorem containsf_ct (w : World) (fr : List Res) (b : Nat) (n : Int) (A : Option Addr) (c : Nat) (es : List E) (ok : SlOk fr 3 A es.length c (ecells es)) (hes : ∀ e ∈ es, e.f < 4294967296 ∧ e.t < 4294967296) (H : Sat w (blk b (.cells #[.int .i64 n, .slice A es.length c] 35) :: fr)) :
    Rt Try.prog 50 #[.slice A es.length c, .func (.func 51) #[] #[.pointer (some ⟨b, 0, none⟩)]] w fun v w' => v = .bool (es.any (fun e => decide (n ≤ (e.f : Int)) || decide (n ≤ (e.t : Int)))) ∧ Sat w' (blk b (.cells #[.int .i64 n, .slice A es.length c] 35) :: fr) := by
  refine rt_enter Try.func50 rfl (n := 9) Try.ntmps50 rfl fun a S => ?_
  refine r_seq ?_
  refine r_region ?_
  refine r_y S H (y_assign S rfl rfl) rfl rfl rfl fun a S => ?_
  refine r_nil ?_
  refine x_then ?_
  refine r_seq ?_
  refine r_region ?_
  refine r_y S H (y_move S rfl rfl) rfl rfl rfl fun a S => ?_
  refine r_y S H (y_move S rfl rfl) rfl rfl rfl fun a S => ?_
  refine r_call (args := #[.slice A es.length c, .func (.func 51) #[] #[.pointer (some ⟨b, 0, none⟩)]]) S rfl rfl Try.call54 (indexf_ct (H := H) _ _ _ _ _ _ _ ok hes) rfl rfl rfl fun v a w hR S => ?_
  obtain ⟨⟨r, rfl, hr⟩, H⟩ := hR
  refine r_y S H (y_ge S rfl rfl rfl) rfl rfl rfl fun a S => ?_
  refine r_y S H (y_assign S rfl rfl) rfl rfl rfl fun a S => ?_
  refine r_nil ?_
  refine x_then ?_
  refine wp_ret ?_
  refine r_ret1 S H Try.results50 (ro_tmp S rfl) ?_
  refine ⟨congrArg Value.bool ?_, H⟩
  rw [Bool.eq_iff_iff, decide_eq_true_eq, hr]

set_option maxRecDepth 4000 in
theorem edges_ct (w : World) (fr : List Res) (n : Int) (A : Option Addr) (c : Nat) (es : List E) (ok : SlOk fr 3 A es.length c (ecells es)) (hes : ∀ e ∈ es, e.f < 4294967296 ∧ e.t < 4294967296) (H : Sat w (fr)) :
    Rt Try.prog 46 #[.agg #[.int .i64 n, .slice A es.length c]] w fun v w' => v = .bool (graph n es) ∧ Sat w' fr := by
  have hcap := ok.le
  have hmax : c ≤ 9223372036854775807 := ok.cap
  refine rt_enter Try.func46 rfl (n := 22) Try.ntmps46 rfl fun a S => ?_
  refine r_seq ?_
  refine r_region ?_
  refine r_box (c := #[.int .i64 n, .slice A es.length c]) S H rfl rfl rfl rfl rfl rfl fun a w b1 S H => ?_
  refine r_y S H (y_assign S rfl rfl) rfl rfl rfl fun a S => ?_
  refine r_nil ?_
  refine x_then ?_
  refine r_seq ?_
  refine r_seq ?_
  refine wp_via (J := fun a w => Slots a 22 [(0, .agg #[.int .i64 n, .slice A es.length c]), (1, .pointer (some ⟨b1, 0, none⟩)), (2, .bool false), (16, .bool (((decide (n < 0)) || (decide (1048576 < n))) || (decide (1048576 < ((es.length : Nat) : Int)))))] ∧ Sat w (blk b1 (.cells #[.int .i64 n, .slice A es.length c] 35) :: fr)) ?_ (fun a w hm => ?_)
  · skip
    refine r_region ?_
    refine r_y S H (y_fieldAddr S rfl rfl fa35_0) rfl rfl rfl fun a S => ?_
    refine r_y S H (y_load 0 S rfl rfl Try.isAgg3 rfl rfl) rfl rfl rfl fun a S => ?_
    refine r_y S H (y_lt S rfl rfl rfl) rfl rfl rfl fun a S => ?_
    refine r_y S H (y_move S rfl rfl) rfl rfl rfl fun a S => ?_
    refine splitP S (d := 6) rfl (fun g6 S => ?_) (fun g6 S => ?_)
    · skip
      refine r_skip S rfl rfl rfl fun a S => ?_
      refine r_skip S rfl rfl rfl fun a S => ?_
      refine r_skip S rfl rfl rfl fun a S => ?_
      refine r_y S H (y_pickT S rfl rfl rfl) rfl rfl rfl fun a S => ?_
      refine r_y S H (y_move S rfl rfl) rfl rfl rfl fun a S => ?_
      refine r_skip S rfl rfl rfl fun a S => ?_
      refine r_skip S rfl rfl rfl fun a S => ?_
      refine r_skip S rfl rfl rfl fun a S => ?_
      refine r_skip S rfl rfl rfl fun a S => ?_
      refine r_y S H (y_pickT S rfl rfl rfl) rfl rfl rfl fun a S => ?_
      refine r_nil ?_
      refine x_then ?_
      exact ⟨S.sub ⟨rfl, rfl, rfl, (show lk _ _ = some (.bool true) from rfl).trans (by first | (simp only [g6, decide_true, decide_false, Bool.true_and, Bool.false_and, Bool.true_or, Bool.false_or]; done) | (simp [-List.getD_eq_getElem?_getD, g6]; done) | (simp [-List.getD_eq_getElem?_getD, g6]; omega)), trivial⟩, H⟩
    · skip
      refine r_y S H (y_fieldAddr S rfl rfl fa35_0) rfl rfl rfl fun a S => ?_
      refine r_y S H (y_load 0 S rfl rfl Try.isAgg3 rfl rfl) rfl rfl rfl fun a S => ?_
      refine r_y S H (y_gt S rfl rfl rfl) rfl rfl rfl fun a S => ?_
      refine r_y S H (y_pickF S rfl rfl rfl) rfl rfl rfl fun a S => ?_
      refine r_y S H (y_move S rfl rfl) rfl rfl rfl fun a S => ?_
      refine splitP S (d := 11) rfl (fun g11 S => ?_) (fun g11 S => ?_)
      · skip
        refine r_skip S rfl rfl rfl fun a S => ?_
        refine r_skip S rfl rfl rfl fun a S => ?_
        refine r_skip S rfl rfl rfl fun a S => ?_
        refine r_skip S rfl rfl rfl fun a S => ?_
        refine r_y S H (y_pickT S rfl rfl rfl) rfl rfl rfl fun a S => ?_
        refine r_nil ?_
        refine x_then ?_
        exact ⟨S.sub ⟨rfl, rfl, rfl, (show lk _ _ = some (.bool true) from rfl).trans (by first | (simp only [g11, g6, decide_true, decide_false, Bool.true_and, Bool.false_and, Bool.true_or, Bool.false_or]; done) | (simp [-List.getD_eq_getElem?_getD, g11, g6]; done) | (simp [-List.getD_eq_getElem?_getD, g11, g6]; omega)), trivial⟩, H⟩
      · skip
        refine r_y S H (y_fieldAddr S rfl rfl fa35_1) rfl rfl rfl fun a S => ?_
        refine r_y S H (y_load 0 S rfl rfl Try.isAgg33 rfl rfl) rfl rfl rfl fun a S => ?_
        refine r_y S H (y_len S rfl rfl Try.underlying33) rfl rfl rfl fun a S => ?_
        refine r_y S H (y_gt S rfl rfl rfl) rfl rfl rfl fun a S => ?_
        refine r_y S H (y_pickF S rfl rfl rfl) rfl rfl rfl fun a S => ?_
        refine r_nil ?_
        refine x_then ?_
        exact ⟨S.sub ⟨rfl, rfl, rfl, (show lk _ _ = some (.bool (decide (1048576 < ((es.length : Nat) : Int)))) from rfl).trans (by first | (simp only [g11, g6, decide_true, decide_false, Bool.true_and, Bool.false_and, Bool.true_or, Bool.false_or]; done) | (simp [-List.getD_eq_getElem?_getD, g11, g6]; done) | (simp [-List.getD_eq_getElem?_getD, g11, g6]; omega)), trivial⟩, H⟩
  obtain ⟨S, H⟩ := hm
  refine x_then ?_
  refine r_cond S rfl (fun h16 => ?_) (fun h16 => ?_)
  · skip
    refine r_seq ?_
    refine r_region ?_
    refine r_y S H (y_assign S rfl rfl) rfl rfl rfl fun a S => ?_
    refine r_nil ?_
    refine x_then ?_
    refine wp_ret ?_
    refine x_thenRet ?_
    refine r_ret1 S H Try.results46 (ro_tmp S rfl) ?_
    refine ⟨congrArg Value.bool ?_, H.drop⟩
    symm
    unfold graph
    rw [decide_eq_false_iff_not]; intro h; simp at h16; omega
  · skip
    refine wp_skip ?_
    refine x_then ?_
    refine r_seq ?_
    refine r_region ?_
    refine r_y S H (y_fieldAddr S rfl rfl fa35_1) rfl rfl rfl fun a S => ?_
    refine r_y S H (y_load 0 S rfl rfl Try.isAgg33 rfl rfl) rfl rfl rfl fun a S => ?_
    refine r_y S H (y_makeFunc (vs := #[.pointer (some ⟨b1, 0, none⟩)]) S rfl rfl) rfl rfl rfl fun a S => ?_
    refine r_call (args := #[.slice A es.length c, .func (.func 51) #[] #[.pointer (some ⟨b1, 0, none⟩)]]) S rfl rfl Try.call50 (containsf_ct (H := H) _ _ _ _ _ _ _ ok hes) rfl rfl rfl fun v a w hR S => ?_
    obtain ⟨rfl, H⟩ := hR
    refine r_y S H (y_not S rfl rfl) rfl rfl rfl fun a S => ?_
    refine r_y S H (y_assign S rfl rfl) rfl rfl rfl fun a S => ?_
    refine r_nil ?_
    refine x_then ?_
    refine wp_ret ?_
    refine r_ret1 S H Try.results46 (ro_tmp S rfl) ?_
    refine ⟨congrArg Value.bool ?_, H.drop⟩
    symm
    unfold graph
    rw [Bool.eq_iff_iff, decide_eq_true_eq]
    simp only [Bool.or_eq_false_iff, decide_eq_false_iff_not, Bool.not_eq_true', List.any_eq_false, Bool.or_eq_true, decide_eq_true_eq] at *
    constructor
    · intro h e he; have := h.2.2.2 e he; omega
    · intro h; exact ⟨by omega, by omega, by omega, fun e he => by have := h e he; omega⟩

end Go.Proofs.Ytfmpgdhmfjllnaa
