/- Walks of functions of the program, over slots and resources. No condition. -/
import Derived.Test.YtfmpgdhmfjllnaaW13b
import Derived.Test.YtfmpgdhmfjllnaaMp
namespace Go.Proofs.Ytfmpgdhmfjllnaa
open Go.RowKit Go.Cg
set_option linter.unusedVariables false
set_option linter.unusedSimpArgs false
theorem fa40_0 : FieldAt Try.prog 40 0 0 := by intro w b o; simp [Instr.fieldAt, Instr.sureAddr, fieldPlace, Addr.add]
theorem el37 : Elem Try.prog 37 25 1 8 (.int .u64 0) := ⟨Try.underlying37, by kernel_rfl, rfl, by decide⟩
theorem el38 : Elem Try.prog 38 4 1 1 (.bool false) := ⟨Try.underlying38, by kernel_rfl, rfl, by decide⟩
open Go.Cg.Tr (E top right graph)
set_option maxRecDepth 4000 in
theorem rgraph_ct (w : World) (fr : List Res) (n : Int) (A : Option Addr) (c : Nat) (es : List E) (ok : SlOk fr 3 A es.length c (ecells es)) (hes : ∀ e ∈ es, e.f < 4294967296 ∧ e.t < 4294967296) (H : Sat w (fr)) :
    Rt Try.prog 38 #[.agg #[.int .i64 n, .slice A es.length c]] w fun v w' => v = .bool (graph n es) ∧ Sat w' fr := by
  have hcap := ok.le
  have hmax : c ≤ 9223372036854775807 := ok.cap
  refine rt_enter Try.func38 rfl (n := 47) Try.ntmps38 rfl fun a S => ?_
  refine r_seq ?_
  refine r_region ?_
  refine r_box (c := #[.int .i64 n, .slice A es.length c]) S H rfl rfl rfl rfl rfl rfl fun a w b1 S H => ?_
  refine r_y S H (y_assign S rfl rfl) rfl rfl rfl fun a S => ?_
  refine r_nil ?_
  refine x_then ?_
  refine r_seq ?_
  refine r_seq ?_
  refine wp_via (J := fun a w => Slots a 47 [(0, .agg #[.int .i64 n, .slice A es.length c]), (1, .pointer (some ⟨b1, 0, none⟩)), (2, .bool false), (17, .bool (((decide (n < 0)) || (decide (1048576 < n))) || (decide (1048576 < ((es.length : Nat) : Int)))))] ∧ Sat w (blk b1 (.cells #[.int .i64 n, .slice A es.length c] 35) :: fr)) ?_ (fun a w hm => ?_)
  · skip
    refine r_region ?_
    refine r_y S H (y_fieldAddr S rfl rfl fa35_0) rfl rfl rfl fun a S => ?_
    refine r_y S H (y_load 0 S rfl rfl Try.isAgg3 rfl rfl) rfl rfl rfl fun a S => ?_
    refine r_y S H (y_lt S rfl rfl rfl) rfl rfl rfl fun a S => ?_
    refine r_y S H (y_move S rfl rfl) rfl rfl rfl fun a S => ?_
    refine splitP S (d := 7) rfl (fun g7 S => ?_) (fun g7 S => ?_)
    · skip
      refine r_skip S rfl rfl rfl fun a S => ?_
      refine r_skip S rfl rfl rfl fun a S => ?_
      refine r_skip S rfl rfl rfl fun a S => ?_
      refine r_y S H (y_pickT S rfl rfl rfl) rfl rfl rfl fun a S => ?_
      refine r_y S H (y_move S rfl rfl) rfl rfl rfl fun a S => ?_
      refine r_skip S rfl rfl rfl fun a S => ?_
      refine r_skip S rfl rfl rfl fun a S => ?_
      refine r_skip S rfl rfl rfl fun a S => ?_
      refine r_skip S rfl rfl rfl fun a S => ?_
      refine r_y S H (y_pickT S rfl rfl rfl) rfl rfl rfl fun a S => ?_
      refine r_nil ?_
      refine x_then ?_
      exact ⟨S.sub ⟨rfl, rfl, rfl, (show lk _ _ = some (.bool true) from rfl).trans (by first | (simp only [g7, decide_true, decide_false, Bool.true_and, Bool.false_and, Bool.true_or, Bool.false_or]; done) | (simp [-List.getD_eq_getElem?_getD, g7]; done) | (simp [-List.getD_eq_getElem?_getD, g7]; omega)), trivial⟩, H⟩
    · skip
      refine r_y S H (y_fieldAddr S rfl rfl fa35_0) rfl rfl rfl fun a S => ?_
      refine r_y S H (y_load 0 S rfl rfl Try.isAgg3 rfl rfl) rfl rfl rfl fun a S => ?_
      refine r_y S H (y_gt S rfl rfl rfl) rfl rfl rfl fun a S => ?_
      refine r_y S H (y_pickF S rfl rfl rfl) rfl rfl rfl fun a S => ?_
      refine r_y S H (y_move S rfl rfl) rfl rfl rfl fun a S => ?_
      refine splitP S (d := 12) rfl (fun g12 S => ?_) (fun g12 S => ?_)
      · skip
        refine r_skip S rfl rfl rfl fun a S => ?_
        refine r_skip S rfl rfl rfl fun a S => ?_
        refine r_skip S rfl rfl rfl fun a S => ?_
        refine r_skip S rfl rfl rfl fun a S => ?_
        refine r_y S H (y_pickT S rfl rfl rfl) rfl rfl rfl fun a S => ?_
        refine r_nil ?_
        refine x_then ?_
        exact ⟨S.sub ⟨rfl, rfl, rfl, (show lk _ _ = some (.bool true) from rfl).trans (by first | (simp only [g12, g7, decide_true, decide_false, Bool.true_and, Bool.false_and, Bool.true_or, Bool.false_or]; done) | (simp [-List.getD_eq_getElem?_getD, g12, g7]; done) | (simp [-List.getD_eq_getElem?_getD, g12, g7]; omega)), trivial⟩, H⟩
      · skip
        refine r_y S H (y_fieldAddr S rfl rfl fa35_1) rfl rfl rfl fun a S => ?_
        refine r_y S H (y_load 0 S rfl rfl Try.isAgg33 rfl rfl) rfl rfl rfl fun a S => ?_
        refine r_y S H (y_len S rfl rfl Try.underlying33) rfl rfl rfl fun a S => ?_
        refine r_y S H (y_gt S rfl rfl rfl) rfl rfl rfl fun a S => ?_
        refine r_y S H (y_pickF S rfl rfl rfl) rfl rfl rfl fun a S => ?_
        refine r_nil ?_
        refine x_then ?_
        exact ⟨S.sub ⟨rfl, rfl, rfl, (show lk _ _ = some (.bool (decide (1048576 < ((es.length : Nat) : Int)))) from rfl).trans (by first | (simp only [g12, g7, decide_true, decide_false, Bool.true_and, Bool.false_and, Bool.true_or, Bool.false_or]; done) | (simp [-List.getD_eq_getElem?_getD, g12, g7]; done) | (simp [-List.getD_eq_getElem?_getD, g12, g7]; omega)), trivial⟩, H⟩
  obtain ⟨S, H⟩ := hm
  refine x_then ?_
  refine r_cond S rfl (fun h17 => ?_) (fun h17 => ?_)
  · skip
    refine r_seq ?_
    refine r_region ?_
    refine r_y S H (y_assign S rfl rfl) rfl rfl rfl fun a S => ?_
    refine r_nil ?_
    refine x_then ?_
    refine wp_ret ?_
    refine x_thenRet ?_
    refine r_ret1 S H Try.results38 (ro_tmp S rfl) ?_
    refine ⟨congrArg Value.bool ?_, H.drop⟩
    symm
    unfold graph
    rw [decide_eq_false_iff_not]; intro h; simp at h17; omega
  · skip
    refine wp_skip ?_
    refine x_then ?_
    refine r_seq ?_
    refine r_seq ?_
    refine r_region ?_
    refine r_y S H (y_assign S rfl rfl) rfl rfl rfl fun a S => ?_
    refine r_nil ?_
    refine x_then ?_
    refine r_block ?_
    refine r_loop (ι := Nat) (fun k a w => Slots a 47 [(0, .agg #[.int .i64 n, .slice A es.length c]), (1, .pointer (some ⟨b1, 0, none⟩)), (3, .int .i64 ((k : Nat) : Int)), (17, .bool (((decide (n < 0)) || (decide (1048576 < n))) || (decide (1048576 < ((es.length : Nat) : Int)))))] ∧ Sat w (blk b1 (.cells #[.int .i64 n, .slice A es.length c] 35) :: fr) ∧ (k ≤ es.length ∧ ∀ j, j < k → ((es.getD j e0).f : Int) < n ∧ ((es.getD j e0).t : Int) < n)) (fun k => es.length - k) 0 ⟨S.sub ⟨rfl, rfl, rfl, rfl, trivial⟩, H, ⟨Nat.zero_le _, fun j hj => absurd hj (Nat.not_lt_zero j)⟩⟩ (fun k a w hI => ?_)
    obtain ⟨S, H, hI⟩ := hI
    obtain ⟨hk, hne⟩ := hI
    refine r_seq ?_
    refine r_seq ?_
    refine r_region ?_
    refine r_y S H (y_move S rfl rfl) rfl rfl rfl fun a S => ?_
    refine r_y S H (y_fieldAddr S rfl rfl fa35_1) rfl rfl rfl fun a S => ?_
    refine r_y S H (y_load 0 S rfl rfl Try.isAgg33 rfl rfl) rfl rfl rfl fun a S => ?_
    refine r_y S H (y_len S rfl rfl Try.underlying33) rfl rfl rfl fun a S => ?_
    refine r_y S H (y_lt S rfl rfl rfl) rfl rfl rfl fun a S => ?_
    refine r_nil ?_
    refine x_then ?_
    refine r_test S rfl (fun h22 => ?_) (fun h22 => ?_)
    · skip
      refine wp_skip ?_
      refine x_then ?_
      refine r_seq ?_
      refine r_block ?_
      refine r_seq ?_
      have hb := hes _ (getD_mem (by omega : k < es.length))
      refine r_quiet (n := 47) (E' := [(0, .agg #[.int .i64 n, .slice A es.length c]), (1, .pointer (some ⟨b1, 0, none⟩)), (3, .int .i64 ((k : Nat) : Int)), (17, .bool (((decide (n < 0)) || (decide (1048576 < n))) || (decide (1048576 < ((es.length : Nat) : Int))))), (18, .int .i64 ((k : Nat) : Int)), (19, .pointer (some ⟨b1, 1, none⟩)), (20, .slice A es.length c), (21, .int .i64 ((es.length : Nat) : Int)), (22, .bool (decide (((k : Nat) : Int) < ((es.length : Nat) : Int)))), (46, .bool ((decide (n ≤ (((es.getD k e0).f : Nat) : Int))) || (decide (n ≤ (((es.getD k e0).t : Nat) : Int)))))]) H rfl (by kernel_rfl) ?_ (fun a w S H => ?_)
      · skip
        refine q_y S (y_fieldAddr S rfl rfl fa35_1) rfl rfl rfl fun a S => ?_
        refine q_y S (y_load 0 S rfl rfl Try.isAgg33 rfl rfl) rfl rfl rfl fun a S => ?_
        refine q_y S (y_move S rfl rfl) rfl rfl rfl fun a S => ?_
        obtain ⟨b4, o5, rfl⟩ := (ok.more _).addr H (by first | omega | (simp <;> omega))
        refine q_y S (y_index S rfl rfl rfl Try.underlying33 Try.sizeOf47 (by omega) (by omega)) rfl rfl rfl fun a S => ?_
        refine q_y S (y_fieldAddr S rfl rfl fa47_0) rfl rfl rfl fun a S => ?_
        refine q_y S (y_loadAt S rfl rfl Try.isAgg22 (fun w H => (ok.more _).cell w H (ecells_f (i := k) (by omega)))) rfl rfl rfl fun a S => ?_
        refine q_y S (y_conv S rfl rfl Try.underlying22 Try.underlying3 (wi64 (by omega) (by omega))) rfl rfl rfl fun a S => ?_
        refine q_y S (y_fieldAddr S rfl rfl fa35_0) rfl rfl rfl fun a S => ?_
        refine q_y S (y_load 0 S rfl rfl Try.isAgg3 rfl rfl) rfl rfl rfl fun a S => ?_
        refine q_y S (y_ge S rfl rfl rfl) rfl rfl rfl fun a S => ?_
        refine q_y S (y_move S rfl rfl) rfl rfl rfl fun a S => ?_
        refine splitP S (d := 35) rfl (fun g35 S => ?_) (fun g35 S => ?_)
        · skip
          refine q_skip S rfl rfl rfl fun a S => ?_
          refine q_skip S rfl rfl rfl fun a S => ?_
          refine q_skip S rfl rfl rfl fun a S => ?_
          refine q_skip S rfl rfl rfl fun a S => ?_
          refine q_skip S rfl rfl rfl fun a S => ?_
          refine q_skip S rfl rfl rfl fun a S => ?_
          refine q_skip S rfl rfl rfl fun a S => ?_
          refine q_skip S rfl rfl rfl fun a S => ?_
          refine q_skip S rfl rfl rfl fun a S => ?_
          refine q_skip S rfl rfl rfl fun a S => ?_
          refine q_y S (y_pickT S rfl rfl rfl) rfl rfl rfl fun a S => ?_
          exact q_nil (S.sub ⟨(show lk _ _ = some (.agg #[.int .i64 n, .slice (some ⟨b4, o5, none⟩) es.length c]) from rfl).trans (by first | (simp only [g35, decide_true, decide_false, Bool.true_and, Bool.false_and, Bool.true_or, Bool.false_or]; done) | (simp [-List.getD_eq_getElem?_getD, g35]; done) | (simp [-List.getD_eq_getElem?_getD, g35]; omega)), rfl, rfl, rfl, rfl, rfl, (show lk _ _ = some (.slice (some ⟨b4, o5, none⟩) es.length c) from rfl).trans (by first | (simp only [g35, decide_true, decide_false, Bool.true_and, Bool.false_and, Bool.true_or, Bool.false_or]; done) | (simp [-List.getD_eq_getElem?_getD, g35]; done) | (simp [-List.getD_eq_getElem?_getD, g35]; omega)), rfl, rfl, (show lk _ _ = some (.bool true) from rfl).trans (by first | (simp only [g35, decide_true, decide_false, Bool.true_and, Bool.false_and, Bool.true_or, Bool.false_or]; done) | (simp [-List.getD_eq_getElem?_getD, g35]; done) | (simp [-List.getD_eq_getElem?_getD, g35]; omega)), trivial⟩)
        · skip
          refine q_y S (y_fieldAddr S rfl rfl fa35_1) rfl rfl rfl fun a S => ?_
          refine q_y S (y_load 0 S rfl rfl Try.isAgg33 rfl rfl) rfl rfl rfl fun a S => ?_
          refine q_y S (y_move S rfl rfl) rfl rfl rfl fun a S => ?_
          refine q_y S (y_index S rfl rfl rfl Try.underlying33 Try.sizeOf47 (by omega) (by omega)) rfl rfl rfl fun a S => ?_
          refine q_y S (y_fieldAddr S rfl rfl fa47_1) rfl rfl rfl fun a S => ?_
          refine q_y S (y_loadAt S rfl rfl Try.isAgg22 (fun w H => (ok.more _).cell w H (ecells_t (i := k) (by omega)))) rfl rfl rfl fun a S => ?_
          refine q_y S (y_conv S rfl rfl Try.underlying22 Try.underlying3 (wi64 (by omega) (by omega))) rfl rfl rfl fun a S => ?_
          refine q_y S (y_fieldAddr S rfl rfl fa35_0) rfl rfl rfl fun a S => ?_
          refine q_y S (y_load 0 S rfl rfl Try.isAgg3 rfl rfl) rfl rfl rfl fun a S => ?_
          refine q_y S (y_ge S rfl rfl rfl) rfl rfl rfl fun a S => ?_
          refine q_y S (y_pickF S rfl rfl rfl) rfl rfl rfl fun a S => ?_
          exact q_nil (S.sub ⟨(show lk _ _ = some (.agg #[.int .i64 n, .slice (some ⟨b4, o5, none⟩) es.length c]) from rfl).trans (by first | (simp only [g35, decide_true, decide_false, Bool.true_and, Bool.false_and, Bool.true_or, Bool.false_or]; done) | (simp [-List.getD_eq_getElem?_getD, g35]; done) | (simp [-List.getD_eq_getElem?_getD, g35]; omega)), rfl, rfl, rfl, rfl, rfl, (show lk _ _ = some (.slice (some ⟨b4, o5, none⟩) es.length c) from rfl).trans (by first | (simp only [g35, decide_true, decide_false, Bool.true_and, Bool.false_and, Bool.true_or, Bool.false_or]; done) | (simp [-List.getD_eq_getElem?_getD, g35]; done) | (simp [-List.getD_eq_getElem?_getD, g35]; omega)), rfl, rfl, (show lk _ _ = some (.bool (decide (n ≤ (((es.getD k e0).t : Nat) : Int)))) from rfl).trans (by first | (simp only [g35, decide_true, decide_false, Bool.true_and, Bool.false_and, Bool.true_or, Bool.false_or]; done) | (simp [-List.getD_eq_getElem?_getD, g35]; done) | (simp [-List.getD_eq_getElem?_getD, g35]; omega)), trivial⟩)
      · skip
        refine x_then ?_
        refine r_cond S rfl (fun h46 => ?_) (fun h46 => ?_)
        · skip
          refine r_seq ?_
          refine r_region ?_
          refine r_y S H (y_assign S rfl rfl) rfl rfl rfl fun a S => ?_
          refine r_nil ?_
          refine x_then ?_
          refine wp_ret ?_
          refine x_blockRet ?_
          refine x_thenRet ?_
          refine x_thenRet ?_
          refine x_blockRet ?_
          refine x_thenRet ?_
          refine r_ret1 S H Try.results38 (ro_tmp S rfl) ?_
          refine ⟨congrArg Value.bool ?_, H.drop⟩
          symm
          unfold graph
          rw [decide_eq_false_iff_not]; intro h; have h1 := h.2.2.2 _ (getD_mem (by omega : k < es.length)); simp [-List.getD_eq_getElem?_getD] at h46; omega
        · skip
          refine wp_skip ?_
          refine x_blockEnd ?_
          refine x_then ?_
          refine r_region ?_
          refine r_y S H (y_move S rfl rfl) rfl rfl rfl fun a S => ?_
          refine r_y S H (y_add S rfl rfl rfl (wi64 (by omega) (by omega))) rfl rfl rfl fun a S => ?_
          refine r_y S H (y_assign S rfl rfl) rfl rfl rfl fun a S => ?_
          refine r_nil ?_
          refine x_then ?_
          exact ⟨k + 1, ⟨S.sub ⟨rfl, rfl, rfl, rfl, trivial⟩, H, ⟨by omega, fun j hj => by rcases Nat.lt_succ_iff_lt_or_eq.1 hj with h | h; (exact hne j h); (subst h; simp [-List.getD_eq_getElem?_getD] at h46; omega)⟩⟩, by omega⟩
    · skip
      refine wp_exit ?_
      refine x_thenExit ?_
      refine x_thenExit ?_
      refine x_blockHere ?_
      refine x_then ?_
      refine r_seq ?_
      refine r_region ?_
      refine r_y S H (y_assign S rfl rfl) rfl rfl rfl fun a S => ?_
      refine r_nil ?_
      refine x_then ?_
      refine wp_ret ?_
      refine r_ret1 S H Try.results38 (ro_tmp S rfl) ?_
      refine ⟨congrArg Value.bool ?_, H.drop⟩
      symm
      unfold graph
      rw [decide_eq_true_eq]; simp at h17; refine ⟨by omega, by omega, by omega, fun e he => ?_⟩
      obtain ⟨j, hj, e1⟩ := List.mem_iff_getElem.1 he
      have h2 := hne j (by omega)
      rw [List.getD_eq_getElem?_getD, List.getElem?_eq_getElem hj] at h2
      simp only [Option.getD_some, e1] at h2
      exact h2

set_option maxRecDepth 4000 in
theorem may_ct (w : World) (fr : List Res) (k : Int) (s : Nat) (hs : s < 4294967296) (n : Int) (A : Option Addr) (c : Nat) (es : List E) (ok : SlOk fr 3 A es.length c (ecells es)) (hes : ∀ e ∈ es, e.f < 4294967296 ∧ e.t < 4294967296) (H : Sat w (fr)) :
    Rt Try.prog 41 #[.agg #[.int .i64 k, .int .u32 ((s : Nat) : Int)], .agg #[.int .i64 n, .slice A es.length c]] w fun v w' => v = .bool (Tr.may k s n es) ∧ Sat w' fr := by
  refine rt_enter Try.func41 rfl (n := 13) Try.ntmps41 rfl fun a S => ?_
  refine r_seq ?_
  refine r_region ?_
  refine r_box (c := #[.int .i64 k, .int .u32 ((s : Nat) : Int)]) S H rfl rfl rfl rfl rfl rfl fun a w b1 S H => ?_
  refine r_box (c := #[.int .i64 n, .slice A es.length c]) S H rfl rfl rfl rfl rfl rfl fun a w b2 S H => ?_
  refine r_y S H (y_assign S rfl rfl) rfl rfl rfl fun a S => ?_
  refine r_nil ?_
  refine x_then ?_
  refine r_seq ?_
  refine wp_via (J := fun a w => Slots a 13 [(0, .agg #[.int .i64 k, .int .u32 ((s : Nat) : Int)]), (1, .agg #[.int .i64 n, .slice A es.length c]), (2, .pointer (some ⟨b1, 0, none⟩)), (3, .pointer (some ⟨b2, 0, none⟩)), (4, .bool ((graph n es) && (right k s n)))] ∧ Sat w (blk b2 (.cells #[.int .i64 n, .slice A es.length c] 35) :: blk b1 (.cells #[.int .i64 k, .int .u32 ((s : Nat) : Int)] 24) :: fr)) ?_ (fun a w hm => ?_)
  · skip
    refine r_region ?_
    refine r_y S H (y_loadAgg [_, _] 0 S rfl rfl (fun w => ⟨Try.isAgg35 w, Try.sizeOf35 w⟩) rfl rfl ⟨rfl, rfl, trivial⟩) rfl rfl rfl fun a S => ?_
    refine r_call (args := #[.agg #[.int .i64 n, .slice A es.length c]]) S rfl rfl Try.call46 (edges_ct (H := H) _ _ n _ _ es ((ok.more _).more _) hes) rfl rfl rfl fun v a w hR S => ?_
    obtain ⟨rfl, H⟩ := hR
    refine r_y S H (y_move S rfl rfl) rfl rfl rfl fun a S => ?_
    refine splitB S (d := 7) rfl (fun g7 S => ?_) (fun g7 S => ?_)
    · skip
      refine r_y S H (y_loadAgg [_, _] 1 S rfl rfl (fun w => ⟨Try.isAgg24 w, Try.sizeOf24 w⟩) rfl rfl ⟨rfl, rfl, trivial⟩) rfl rfl rfl fun a S => ?_
      refine r_y S H (y_fieldAddr S rfl rfl fa35_0) rfl rfl rfl fun a S => ?_
      refine r_y S H (y_load 0 S rfl rfl Try.isAgg3 rfl rfl) rfl rfl rfl fun a S => ?_
      refine r_call (args := #[.agg #[.int .i64 k, .int .u32 ((s : Nat) : Int)], .int .i64 n]) S rfl rfl Try.call15 (right_ct (H := H) _ _ k s n (by omega)) rfl rfl rfl fun v a w hR S => ?_
      obtain ⟨rfl, H⟩ := hR
      refine r_y S H (y_pickT S rfl rfl rfl) rfl rfl rfl fun a S => ?_
      refine r_y S H (y_assign S rfl rfl) rfl rfl rfl fun a S => ?_
      refine r_nil ?_
      refine x_then ?_
      exact ⟨S.sub ⟨rfl, rfl, rfl, rfl, (show lk _ _ = some (.bool (right k s n)) from rfl).trans (by first | (simp only [g7, decide_true, decide_false, Bool.true_and, Bool.false_and, Bool.true_or, Bool.false_or]; done) | (simp [-List.getD_eq_getElem?_getD, g7]; done) | (simp [-List.getD_eq_getElem?_getD, g7]; omega)), trivial⟩, H⟩
    · skip
      refine r_skip S rfl rfl rfl fun a S => ?_
      refine r_skip S rfl rfl rfl fun a S => ?_
      refine r_skip S rfl rfl rfl fun a S => ?_
      refine r_skip S rfl rfl rfl fun a S => ?_
      refine r_y S H (y_pickF S rfl rfl rfl) rfl rfl rfl fun a S => ?_
      refine r_y S H (y_assign S rfl rfl) rfl rfl rfl fun a S => ?_
      refine r_nil ?_
      refine x_then ?_
      exact ⟨S.sub ⟨rfl, rfl, rfl, rfl, (show lk _ _ = some (.bool false) from rfl).trans (by first | (simp only [g7, decide_true, decide_false, Bool.true_and, Bool.false_and, Bool.true_or, Bool.false_or]; done) | (simp [-List.getD_eq_getElem?_getD, g7]; done) | (simp [-List.getD_eq_getElem?_getD, g7]; omega)), trivial⟩, H⟩
  obtain ⟨S, H⟩ := hm
  refine x_then ?_
  refine wp_ret ?_
  refine r_ret1 S H Try.results41 (ro_tmp S rfl) ?_
  refine ⟨congrArg Value.bool ?_, H.drop.drop⟩
  unfold Tr.may
  simp [*]

set_option maxRecDepth 4000 in
theorem rmay_ct (w : World) (fr : List Res) (k : Int) (s : Nat) (hs : s < 4294967296) (n : Int) (A : Option Addr) (c : Nat) (es : List E) (ok : SlOk fr 3 A es.length c (ecells es)) (hes : ∀ e ∈ es, e.f < 4294967296 ∧ e.t < 4294967296) (H : Sat w (fr)) :
    Rt Try.prog 28 #[.agg #[.int .i64 k, .int .u32 ((s : Nat) : Int)], .agg #[.int .i64 n, .slice A es.length c]] w fun v w' => v = .bool (Tr.may k s n es) ∧ Sat w' fr := by
  refine rt_enter Try.func28 rfl (n := 15) Try.ntmps28 rfl fun a S => ?_
  refine r_seq ?_
  refine r_region ?_
  refine r_box (c := #[.int .i64 k, .int .u32 ((s : Nat) : Int)]) S H rfl rfl rfl rfl rfl rfl fun a w b1 S H => ?_
  refine r_box (c := #[.int .i64 n, .slice A es.length c]) S H rfl rfl rfl rfl rfl rfl fun a w b2 S H => ?_
  refine r_y S H (y_assign S rfl rfl) rfl rfl rfl fun a S => ?_
  refine r_nil ?_
  refine x_then ?_
  refine r_seq ?_
  refine r_region ?_
  refine r_y S H (y_loadAgg [_, _] 0 S rfl rfl (fun w => ⟨Try.isAgg35 w, Try.sizeOf35 w⟩) rfl rfl ⟨rfl, rfl, trivial⟩) rfl rfl rfl fun a S => ?_
  refine r_call (args := #[.agg #[.int .i64 n, .slice A es.length c]]) S rfl rfl Try.call38 (rgraph_ct (H := H) _ _ n _ _ es ((ok.more _).more _) hes) rfl rfl rfl fun v a w hR S => ?_
  obtain ⟨rfl, H⟩ := hR
  refine r_y S H (y_assign S rfl rfl) rfl rfl rfl fun a S => ?_
  refine r_nil ?_
  refine x_then ?_
  refine r_seq ?_
  refine wp_via (J := fun a w => Slots a 15 [(0, .agg #[.int .i64 k, .int .u32 ((s : Nat) : Int)]), (1, .agg #[.int .i64 n, .slice A es.length c]), (2, .pointer (some ⟨b1, 0, none⟩)), (3, .pointer (some ⟨b2, 0, none⟩)), (4, .bool ((graph n es) && (right k s n))), (5, .bool (graph n es)), (6, .agg #[.int .i64 n, .slice A es.length c]), (7, .bool (graph n es))] ∧ Sat w (blk b2 (.cells #[.int .i64 n, .slice A es.length c] 35) :: blk b1 (.cells #[.int .i64 k, .int .u32 ((s : Nat) : Int)] 24) :: fr)) ?_ (fun a w hm => ?_)
  · skip
    refine r_region ?_
    refine r_y S H (y_move S rfl rfl) rfl rfl rfl fun a S => ?_
    refine r_y S H (y_move S rfl rfl) rfl rfl rfl fun a S => ?_
    refine splitB S (d := 9) rfl (fun g9 S => ?_) (fun g9 S => ?_)
    · skip
      refine r_y S H (y_loadAgg [_, _] 1 S rfl rfl (fun w => ⟨Try.isAgg24 w, Try.sizeOf24 w⟩) rfl rfl ⟨rfl, rfl, trivial⟩) rfl rfl rfl fun a S => ?_
      refine r_y S H (y_fieldAddr S rfl rfl fa35_0) rfl rfl rfl fun a S => ?_
      refine r_y S H (y_load 0 S rfl rfl Try.isAgg3 rfl rfl) rfl rfl rfl fun a S => ?_
      refine r_call (args := #[.agg #[.int .i64 k, .int .u32 ((s : Nat) : Int)], .int .i64 n]) S rfl rfl Try.call16 (rright_ct (H := H) _ _ k s n (by omega)) rfl rfl rfl fun v a w hR S => ?_
      obtain ⟨rfl, H⟩ := hR
      refine r_y S H (y_pickT S rfl rfl rfl) rfl rfl rfl fun a S => ?_
      refine r_y S H (y_assign S rfl rfl) rfl rfl rfl fun a S => ?_
      refine r_nil ?_
      refine x_then ?_
      exact ⟨S.sub ⟨rfl, rfl, rfl, rfl, (show lk _ _ = some (.bool (right k s n)) from rfl).trans (by first | (simp only [g9, decide_true, decide_false, Bool.true_and, Bool.false_and, Bool.true_or, Bool.false_or]; done) | (simp [-List.getD_eq_getElem?_getD, g9]; done) | (simp [-List.getD_eq_getElem?_getD, g9]; omega)), rfl, rfl, rfl, trivial⟩, H⟩
    · skip
      refine r_skip S rfl rfl rfl fun a S => ?_
      refine r_skip S rfl rfl rfl fun a S => ?_
      refine r_skip S rfl rfl rfl fun a S => ?_
      refine r_skip S rfl rfl rfl fun a S => ?_
      refine r_y S H (y_pickF S rfl rfl rfl) rfl rfl rfl fun a S => ?_
      refine r_y S H (y_assign S rfl rfl) rfl rfl rfl fun a S => ?_
      refine r_nil ?_
      refine x_then ?_
      exact ⟨S.sub ⟨rfl, rfl, rfl, rfl, (show lk _ _ = some (.bool false) from rfl).trans (by first | (simp only [g9, decide_true, decide_false, Bool.true_and, Bool.false_and, Bool.true_or, Bool.false_or]; done) | (simp [-List.getD_eq_getElem?_getD, g9]; done) | (simp [-List.getD_eq_getElem?_getD, g9]; omega)), rfl, rfl, rfl, trivial⟩, H⟩
  obtain ⟨S, H⟩ := hm
  refine x_then ?_
  refine wp_ret ?_
  refine r_ret1 S H Try.results28 (ro_tmp S rfl) ?_
  refine ⟨congrArg Value.bool ?_, H.drop.drop⟩
  unfold Tr.may
  simp [*]

set_option maxRecDepth 4000 in
theorem cloneU_ct (w : World) (fr : List Res) (Av : Option Addr) (cv : Nat) (vals : List Nat) (okv : SlOk fr 1 Av vals.length cv (u64s vals)) (hn : vals.length ≤ 1048576) (H : Sat w (fr)) :
    Rt Try.prog 48 #[.slice Av vals.length cv] w fun v w' => (∃ A c, v = .slice A vals.length c ∧ Sat w' (row 25 1 (.slice A vals.length c) vals.length (u64s vals) :: fr)) := by
  refine rt_enter Try.func48 rfl (n := 8) Try.ntmps48 rfl fun a S => ?_
  refine r_seq ?_
  refine r_region ?_
  refine r_y S H (y_assign S rfl rfl) rfl rfl rfl fun a S => ?_
  refine r_nil ?_
  refine x_then ?_
  refine r_seq ?_
  refine r_seq ?_
  refine r_region ?_
  refine r_y S H (y_move S rfl rfl) rfl rfl rfl fun a S => ?_
  refine r_y S H (y_sliceNil S rfl rfl rfl Try.underlying37) rfl rfl rfl fun a S => ?_
  refine r_nil ?_
  refine x_then ?_
  refine r_cond S rfl (fun h4 => ?_) (fun h4 => ?_)
  · skip
    refine r_seq ?_
    refine r_region ?_
    refine r_y S H (y_assign S rfl rfl) rfl rfl rfl fun a S => ?_
    refine r_nil ?_
    refine x_then ?_
    refine wp_ret ?_
    refine x_thenRet ?_
    refine r_ret1 S H Try.results48 (ro_tmp S rfl) ?_
    have hA : Av = none := by simpa using h4
    have h0 : vals = [] := List.eq_nil_of_length_eq_zero (by have := okv.nil hA; have := okv.le; omega)
    subst h0
    exact ⟨none, 0, rfl, H.nilRow _ _⟩
  · skip
    refine wp_skip ?_
    refine x_then ?_
    refine r_seq ?_
    refine r_region ?_
    refine r_lit (vs := #[]) (cs := u64s []) S H rfl rfl el37 (by kernel_rfl) (by decide) (by rfl) rfl rfl rfl fun a w b1 S H => ?_
    refine r_y S H (y_move S rfl rfl) rfl rfl rfl fun a S => ?_
    refine r_appendS (L' := fun A2 c3 => row 25 1 (.slice A2 vals.length c3) vals.length (u64s vals) :: fr) (xs' := u64s vals) 0 S H rfl rfl rfl rfl el37 (okv.more _) (one_u64s _) (by simp only [maxLen]; first | omega | (simp <;> omega)) (by first | omega | (simp <;> omega)) (List.nil_append _) (by first | omega | (simp <;> omega)) (fun _ _ => rfl) rfl rfl rfl fun a w A2 c3 hA2 S H => ?_
    refine r_y S H (y_assign S rfl rfl) rfl rfl rfl fun a S => ?_
    refine r_nil ?_
    refine x_then ?_
    refine wp_ret ?_
    refine r_ret1 S H Try.results48 (ro_tmp S rfl) ?_
    exact ⟨_, _, rfl, H⟩

set_option maxRecDepth 4000 in
theorem cloneB_ct (w : World) (fr : List Res) (Av : Option Addr) (cv : Nat) (live : List Bool) (okv : SlOk fr 1 Av live.length cv (bools live)) (hn : live.length ≤ 1048576) (H : Sat w (fr)) :
    Rt Try.prog 49 #[.slice Av live.length cv] w fun v w' => (∃ A c, v = .slice A live.length c ∧ Sat w' (row 4 1 (.slice A live.length c) live.length (bools live) :: fr)) := by
  refine rt_enter Try.func49 rfl (n := 8) Try.ntmps49 rfl fun a S => ?_
  refine r_seq ?_
  refine r_region ?_
  refine r_y S H (y_assign S rfl rfl) rfl rfl rfl fun a S => ?_
  refine r_nil ?_
  refine x_then ?_
  refine r_seq ?_
  refine r_seq ?_
  refine r_region ?_
  refine r_y S H (y_move S rfl rfl) rfl rfl rfl fun a S => ?_
  refine r_y S H (y_sliceNil S rfl rfl rfl Try.underlying38) rfl rfl rfl fun a S => ?_
  refine r_nil ?_
  refine x_then ?_
  refine r_cond S rfl (fun h4 => ?_) (fun h4 => ?_)
  · skip
    refine r_seq ?_
    refine r_region ?_
    refine r_y S H (y_assign S rfl rfl) rfl rfl rfl fun a S => ?_
    refine r_nil ?_
    refine x_then ?_
    refine wp_ret ?_
    refine x_thenRet ?_
    refine r_ret1 S H Try.results49 (ro_tmp S rfl) ?_
    have hA : Av = none := by simpa using h4
    have h0 : live = [] := List.eq_nil_of_length_eq_zero (by have := okv.nil hA; have := okv.le; omega)
    subst h0
    exact ⟨none, 0, rfl, H.nilRow _ _⟩
  · skip
    refine wp_skip ?_
    refine x_then ?_
    refine r_seq ?_
    refine r_region ?_
    refine r_lit (vs := #[]) (cs := bools []) S H rfl rfl el38 (by kernel_rfl) (by decide) (by rfl) rfl rfl rfl fun a w b1 S H => ?_
    refine r_y S H (y_move S rfl rfl) rfl rfl rfl fun a S => ?_
    refine r_appendS (L' := fun A2 c3 => row 4 1 (.slice A2 live.length c3) live.length (bools live) :: fr) (xs' := bools live) 0 S H rfl rfl rfl rfl el38 (okv.more _) (one_bools _) (by simp only [maxLen]; first | omega | (simp <;> omega)) (by first | omega | (simp <;> omega)) (List.nil_append _) (by first | omega | (simp <;> omega)) (fun _ _ => rfl) rfl rfl rfl fun a w A2 c3 hA2 S H => ?_
    refine r_y S H (y_assign S rfl rfl) rfl rfl rfl fun a S => ?_
    refine r_nil ?_
    refine x_then ?_
    refine wp_ret ?_
    refine r_ret1 S H Try.results49 (ro_tmp S rfl) ?_
    exact ⟨_, _, rfl, H⟩

set_option maxRecDepth 4000 in
theorem copied_ct (w : World) (fr : List Res) (Av : Option Addr) (cv : Nat) (vals : List Nat) (okv : SlOk fr 1 Av vals.length cv (u64s vals)) (Al : Option Addr) (cl : Nat) (live : List Bool) (okl : SlOk fr 1 Al live.length cl (bools live)) (hn : vals.length ≤ 1048576) (hl : live.length ≤ 1048576) (H : Sat w (fr)) :
    Rt Try.prog 44 #[.agg #[.slice Av vals.length cv, .slice Al live.length cl]] w fun v w' => (∃ A1 c1 A2 c2, v = .agg #[.slice A1 vals.length c1, .slice A2 live.length c2] ∧ Sat w' (row 25 1 (.slice A1 vals.length c1) vals.length (u64s vals) :: row 4 1 (.slice A2 live.length c2) live.length (bools live) :: fr)) := by
  refine rt_enter Try.func44 rfl (n := 10) Try.ntmps44 rfl fun a S => ?_
  refine r_seq ?_
  refine r_region ?_
  refine r_box (c := #[.slice Av vals.length cv, .slice Al live.length cl]) S H rfl rfl rfl rfl rfl rfl fun a w b1 S H => ?_
  refine r_alloc S H rfl Try.zeroValue40 rfl rfl rfl rfl fun a w b2 S H => ?_
  refine r_nil ?_
  refine x_then ?_
  refine r_seq ?_
  refine h_start (blk b1 (.cells #[.slice Av vals.length cv, .slice Al live.length cl] 40) :: fr) (ls := [false, false, false, false, false, false, false, false]) H rfl rfl fun w H => ?_
  have HS : Sat _ (blk b1 (.cells #[.slice Av vals.length cv, .slice Al live.length cl] 40) :: fr) := (H.pick [1] 2 rfl)
  refine h_y 0 S HS rfl (y_fieldAddr S rfl rfl fa40_0) rfl rfl rfl (by kernel_rfl) (by kernel_rfl) (by kernel_rfl) (ls' := [true, false, false, false, false, false, false, false]) rfl (fun _ _ _ h => h) fun a S => ?_
  refine h_y 1 S HS rfl (y_load 0 S rfl rfl Try.isAgg37 rfl rfl) rfl rfl rfl (by kernel_rfl) (by kernel_rfl) (by kernel_rfl) (ls' := [true, true, false, false, false, false, false, false]) rfl (fun _ _ _ h => h) fun a S => ?_
  refine h_y 3 S HS rfl (y_fieldAddr S rfl rfl fa40_1) rfl rfl rfl (by kernel_rfl) (by kernel_rfl) (by kernel_rfl) (ls' := [true, true, false, true, false, false, false, false]) rfl (fun _ _ _ h => h) fun a S => ?_
  refine h_y 4 S HS rfl (y_load 0 S rfl rfl Try.isAgg38 rfl rfl) rfl rfl rfl (by kernel_rfl) (by kernel_rfl) (by kernel_rfl) (ls' := [true, true, false, true, true, false, false, false]) rfl (fun _ _ _ h => h) fun a S => ?_
  refine h_all (r := 2) (rs := []) (by kernel_rfl) ⟨h_op (ls' := [true, true, true, true, true, false, false, false]) rfl rfl ?_, trivial⟩
  refine r_call (args := #[.slice Av vals.length cv]) S rfl rfl Try.call48 (cloneU_ct (H := H) _ _ _ _ vals ((okv.more _).more _) (by omega)) rfl rfl rfl fun v a w hR S => ?_
  obtain ⟨A3, c4, rfl, H⟩ := hR
  refine r_nil ?_
  refine x_then ?_
  have HS : Sat _ (blk b1 (.cells #[.slice Av vals.length cv, .slice Al live.length cl] 40) :: fr) := (H.pick [2] 3 rfl)
  refine ⟨HS, ?_⟩
  refine h_all (r := 5) (rs := []) (by kernel_rfl) ⟨h_op (ls' := [true, true, true, true, true, true, false, false]) rfl rfl ?_, trivial⟩
  refine r_call (args := #[.slice Al live.length cl]) S rfl rfl Try.call49 (cloneB_ct (H := H) _ _ _ _ live (((okl.more _).more _).more _) (by omega)) rfl rfl rfl fun v a w hR S => ?_
  obtain ⟨A5, c6, rfl, H⟩ := hR
  refine r_nil ?_
  refine x_then ?_
  have HS : Sat _ (blk b1 (.cells #[.slice Av vals.length cv, .slice Al live.length cl] 40) :: fr) := (H.pick [3] 4 rfl)
  refine ⟨HS, ?_⟩
  refine h_y 6 S HS rfl (y_build (vs := #[(0, .slice A3 vals.length c4), (1, .slice A5 live.length c6)]) (v := .agg #[.slice A3 vals.length c4, .slice A5 live.length c6]) S rfl rfl (fun w => by kernel_rfl)) rfl rfl rfl (by kernel_rfl) (by kernel_rfl) (by kernel_rfl) (ls' := [true, true, true, true, true, true, true, false]) rfl (fun _ _ _ h => h) fun a S => ?_
  refine h_all (r := 7) (rs := []) (by kernel_rfl) ⟨h_op (ls' := [true, true, true, true, true, true, true, true]) rfl rfl ?_, trivial⟩
  refine r_store (vs := [.slice A3 vals.length c4, .slice A5 live.length c6]) 2 S H rfl rfl rfl rfl Try.sizeOf40 rfl rfl (by simp [Value.oneCell']) rfl rfl rfl rfl rfl fun w H => ?_
  refine r_nil ?_
  refine x_then ?_
  have HS : Sat _ (blk b1 (.cells #[.slice Av vals.length cv, .slice Al live.length cl] 40) :: fr) := (H.pick [3] 4 rfl)
  refine ⟨HS, ?_⟩
  refine h_done (by kernel_rfl) ?_
  refine x_then ?_
  refine wp_ret ?_
  refine r_ret1 S H Try.results44 (ro_agg [_, _] (i := 2) S rfl (fun w => ⟨Try.isAgg40 w, Try.sizeOf40 w⟩) rfl rfl ⟨rfl, rfl, trivial⟩) ?_
  exact ⟨_, _, _, _, rfl, (H.pick [1, 0] 4 rfl)⟩

end Go.Proofs.Ytfmpgdhmfjllnaa
