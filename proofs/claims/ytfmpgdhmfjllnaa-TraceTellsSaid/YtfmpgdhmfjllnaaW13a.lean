/- Walks of functions of the program, over slots and resources. No condition. -/
import Derived.Test.YtfmpgdhmfjllnaaRows
import Derived.Test.YtfmpgdhmfjllnaaVw
namespace Go.Proofs.Ytfmpgdhmfjllnaa
open Go.RowKit Go.Cg
set_option linter.unusedVariables false
set_option linter.unusedSimpArgs false
theorem fa24_0 : FieldAt Try.prog 24 0 0 := by intro w b o; simp [Instr.fieldAt, Instr.sureAddr, fieldPlace, Addr.add]
theorem fa24_1 : FieldAt Try.prog 24 1 1 := by intro w b o; simp [Instr.fieldAt, Instr.sureAddr, fieldPlace, Addr.add]
theorem fa40_1 : FieldAt Try.prog 40 1 1 := by intro w b o; simp [Instr.fieldAt, Instr.sureAddr, fieldPlace, Addr.add]
open Go.Cg.Tr (E top right summed comb sat msg nxt nxt4 nxt5 nxtT nxtF quiet quiet_iff Cfg)
set_option maxRecDepth 4000 in
theorem right_ct (w : World) (fr : List Res) (k : Int) (s : Nat) (n : Int) (hs : s < 4294967296) (H : Sat w (fr)) :
    Rt Try.prog 15 #[.agg #[.int .i64 k, .int .u32 ((s : Nat) : Int)], .int .i64 n] w fun v w' => v = .bool (right k s n) ∧ Sat w' fr := by
  refine rt_enter Try.func15 rfl (n := 41) Try.ntmps15 rfl fun a S => ?_
  refine r_seq ?_
  refine r_region ?_
  refine r_box (c := #[.int .i64 k, .int .u32 ((s : Nat) : Int)]) S H rfl rfl rfl rfl rfl rfl fun a w b1 S H => ?_
  refine r_y S H (y_assign S rfl rfl) rfl rfl rfl fun a S => ?_
  refine r_nil ?_
  refine x_then ?_
  refine r_seq ?_
  refine wp_via (J := fun a w => Slots a 41 [(0, .agg #[.int .i64 k, .int .u32 ((s : Nat) : Int)]), (1, .int .i64 n), (2, .pointer (some ⟨b1, 0, none⟩)), (4, .bool false), (5, .bool ((decide (k = 1)) || (decide (k = 3))))] ∧ Sat w (blk b1 (.cells #[.int .i64 k, .int .u32 ((s : Nat) : Int)] 24) :: fr)) ?_ (fun a w hm => ?_)
  · skip
    refine r_region ?_
    refine r_y S H (y_fieldAddr S rfl rfl fa24_0) rfl rfl rfl fun a S => ?_
    refine r_y S H (y_load 0 S rfl rfl Try.isAgg3 rfl rfl) rfl rfl rfl fun a S => ?_
    refine r_y S H (y_eq S rfl rfl rfl) rfl rfl rfl fun a S => ?_
    refine r_y S H (y_move S rfl rfl) rfl rfl rfl fun a S => ?_
    refine splitP S (d := 9) rfl (fun g9 S => ?_) (fun g9 S => ?_)
    · skip
      refine r_skip S rfl rfl rfl fun a S => ?_
      refine r_skip S rfl rfl rfl fun a S => ?_
      refine r_skip S rfl rfl rfl fun a S => ?_
      refine r_y S H (y_pickT S rfl rfl rfl) rfl rfl rfl fun a S => ?_
      refine r_y S H (y_assign S rfl rfl) rfl rfl rfl fun a S => ?_
      refine r_nil ?_
      refine x_then ?_
      exact ⟨S.sub ⟨rfl, rfl, rfl, rfl, (show lk _ _ = some (.bool true) from rfl).trans (by first | (simp only [g9, decide_true, decide_false, Bool.true_and, Bool.false_and, Bool.true_or, Bool.false_or]; done) | (simp [-List.getD_eq_getElem?_getD, g9]; done) | (simp [-List.getD_eq_getElem?_getD, g9]; omega)), trivial⟩, H⟩
    · skip
      refine r_y S H (y_fieldAddr S rfl rfl fa24_0) rfl rfl rfl fun a S => ?_
      refine r_y S H (y_load 0 S rfl rfl Try.isAgg3 rfl rfl) rfl rfl rfl fun a S => ?_
      refine r_y S H (y_eq S rfl rfl rfl) rfl rfl rfl fun a S => ?_
      refine r_y S H (y_pickF S rfl rfl rfl) rfl rfl rfl fun a S => ?_
      refine r_y S H (y_assign S rfl rfl) rfl rfl rfl fun a S => ?_
      refine r_nil ?_
      refine x_then ?_
      exact ⟨S.sub ⟨rfl, rfl, rfl, rfl, (show lk _ _ = some (.bool (decide (k = 3))) from rfl).trans (by first | (simp only [g9, decide_true, decide_false, Bool.true_and, Bool.false_and, Bool.true_or, Bool.false_or]; done) | (simp [-List.getD_eq_getElem?_getD, g9]; done) | (simp [-List.getD_eq_getElem?_getD, g9]; omega)), trivial⟩, H⟩
  obtain ⟨S, H⟩ := hm
  refine x_then ?_
  refine r_seq ?_
  refine wp_via (J := fun a w => Slots a 41 [(0, .agg #[.int .i64 k, .int .u32 ((s : Nat) : Int)]), (1, .int .i64 n), (2, .pointer (some ⟨b1, 0, none⟩)), (4, .bool (((((decide (1 ≤ k)) && (decide (k ≤ 5))) && (decide (0 ≤ n))) && (decide (n ≤ 1048576))) && ((!((decide (k = 1)) || (decide (k = 3)))) || (decide (((s : Nat) : Int) < n))))), (5, .bool ((decide (k = 1)) || (decide (k = 3))))] ∧ Sat w (blk b1 (.cells #[.int .i64 k, .int .u32 ((s : Nat) : Int)] 24) :: fr)) ?_ (fun a w hm => ?_)
  · skip
    refine r_region ?_
    refine r_y S H (y_fieldAddr S rfl rfl fa24_0) rfl rfl rfl fun a S => ?_
    refine r_y S H (y_load 0 S rfl rfl Try.isAgg3 rfl rfl) rfl rfl rfl fun a S => ?_
    refine r_y S H (y_ge S rfl rfl rfl) rfl rfl rfl fun a S => ?_
    refine r_y S H (y_move S rfl rfl) rfl rfl rfl fun a S => ?_
    refine splitP S (d := 17) rfl (fun g17 S => ?_) (fun g17 S => ?_)
    · skip
      refine r_y S H (y_fieldAddr S rfl rfl fa24_0) rfl rfl rfl fun a S => ?_
      refine r_y S H (y_load 0 S rfl rfl Try.isAgg3 rfl rfl) rfl rfl rfl fun a S => ?_
      refine r_y S H (y_le S rfl rfl rfl) rfl rfl rfl fun a S => ?_
      refine r_y S H (y_pickT S rfl rfl rfl) rfl rfl rfl fun a S => ?_
      refine r_y S H (y_move S rfl rfl) rfl rfl rfl fun a S => ?_
      refine splitP S (d := 22) rfl (fun g22 S => ?_) (fun g22 S => ?_)
      · skip
        refine r_y S H (y_move S rfl rfl) rfl rfl rfl fun a S => ?_
        refine r_y S H (y_ge S rfl rfl rfl) rfl rfl rfl fun a S => ?_
        refine r_y S H (y_pickT S rfl rfl rfl) rfl rfl rfl fun a S => ?_
        refine r_y S H (y_move S rfl rfl) rfl rfl rfl fun a S => ?_
        refine splitP S (d := 26) rfl (fun g26 S => ?_) (fun g26 S => ?_)
        · skip
          refine r_y S H (y_move S rfl rfl) rfl rfl rfl fun a S => ?_
          refine r_y S H (y_le S rfl rfl rfl) rfl rfl rfl fun a S => ?_
          refine r_y S H (y_pickT S rfl rfl rfl) rfl rfl rfl fun a S => ?_
          refine r_y S H (y_move S rfl rfl) rfl rfl rfl fun a S => ?_
          refine splitP S (d := 30) rfl (fun g30 S => ?_) (fun g30 S => ?_)
          · skip
            refine r_y S H (y_move S rfl rfl) rfl rfl rfl fun a S => ?_
            refine r_y S H (y_not S rfl rfl) rfl rfl rfl fun a S => ?_
            refine r_y S H (y_move S rfl rfl) rfl rfl rfl fun a S => ?_
            refine splitB S (d := 33) rfl (fun g33 S => ?_) (fun g33 S => ?_)
            · skip
              refine r_skip S rfl rfl rfl fun a S => ?_
              refine r_skip S rfl rfl rfl fun a S => ?_
              refine r_skip S rfl rfl rfl fun a S => ?_
              refine r_skip S rfl rfl rfl fun a S => ?_
              refine r_skip S rfl rfl rfl fun a S => ?_
              refine r_y S H (y_pickT S rfl rfl rfl) rfl rfl rfl fun a S => ?_
              refine r_y S H (y_pickT S rfl rfl rfl) rfl rfl rfl fun a S => ?_
              refine r_y S H (y_assign S rfl rfl) rfl rfl rfl fun a S => ?_
              refine r_nil ?_
              refine x_then ?_
              exact ⟨S.sub ⟨rfl, rfl, rfl, (show lk _ _ = some (.bool true) from rfl).trans (by first | (simp only [g17, g22, g26, g30, g33, decide_true, decide_false, Bool.true_and, Bool.false_and, Bool.true_or, Bool.false_or]; done) | (simp [-List.getD_eq_getElem?_getD, g17, g22, g26, g30, g33]; done) | (simp [-List.getD_eq_getElem?_getD, g17, g22, g26, g30, g33]; omega)), rfl, trivial⟩, H⟩
            · skip
              refine r_y S H (y_fieldAddr S rfl rfl fa24_1) rfl rfl rfl fun a S => ?_
              refine r_y S H (y_load 0 S rfl rfl Try.isAgg22 rfl rfl) rfl rfl rfl fun a S => ?_
              refine r_y S H (y_conv S rfl rfl Try.underlying22 Try.underlying3 (wi64 (by omega) (by omega))) rfl rfl rfl fun a S => ?_
              refine r_y S H (y_move S rfl rfl) rfl rfl rfl fun a S => ?_
              refine r_y S H (y_lt S rfl rfl rfl) rfl rfl rfl fun a S => ?_
              refine r_y S H (y_pickF S rfl rfl rfl) rfl rfl rfl fun a S => ?_
              refine r_y S H (y_pickT S rfl rfl rfl) rfl rfl rfl fun a S => ?_
              refine r_y S H (y_assign S rfl rfl) rfl rfl rfl fun a S => ?_
              refine r_nil ?_
              refine x_then ?_
              exact ⟨S.sub ⟨rfl, rfl, rfl, (show lk _ _ = some (.bool (decide (((s : Nat) : Int) < n))) from rfl).trans (by first | (simp only [g17, g22, g26, g30, g33, decide_true, decide_false, Bool.true_and, Bool.false_and, Bool.true_or, Bool.false_or]; done) | (simp [-List.getD_eq_getElem?_getD, g17, g22, g26, g30, g33]; done) | (simp [-List.getD_eq_getElem?_getD, g17, g22, g26, g30, g33]; omega)), rfl, trivial⟩, H⟩
          · skip
            refine r_skip S rfl rfl rfl fun a S => ?_
            refine r_skip S rfl rfl rfl fun a S => ?_
            refine r_skip S rfl rfl rfl fun a S => ?_
            refine r_skip S rfl rfl rfl fun a S => ?_
            refine r_skip S rfl rfl rfl fun a S => ?_
            refine r_skip S rfl rfl rfl fun a S => ?_
            refine r_skip S rfl rfl rfl fun a S => ?_
            refine r_skip S rfl rfl rfl fun a S => ?_
            refine r_skip S rfl rfl rfl fun a S => ?_
            refine r_y S H (y_pickF S rfl rfl rfl) rfl rfl rfl fun a S => ?_
            refine r_y S H (y_assign S rfl rfl) rfl rfl rfl fun a S => ?_
            refine r_nil ?_
            refine x_then ?_
            exact ⟨S.sub ⟨rfl, rfl, rfl, (show lk _ _ = some (.bool false) from rfl).trans (by first | (simp only [g17, g22, g26, g30, decide_true, decide_false, Bool.true_and, Bool.false_and, Bool.true_or, Bool.false_or]; done) | (simp [-List.getD_eq_getElem?_getD, g17, g22, g26, g30]; done) | (simp [-List.getD_eq_getElem?_getD, g17, g22, g26, g30]; omega)), rfl, trivial⟩, H⟩
        · skip
          refine r_skip S rfl rfl rfl fun a S => ?_
          refine r_skip S rfl rfl rfl fun a S => ?_
          refine r_y S H (y_pickF S rfl rfl rfl) rfl rfl rfl fun a S => ?_
          refine r_y S H (y_move S rfl rfl) rfl rfl rfl fun a S => ?_
          refine r_skip S rfl rfl rfl fun a S => ?_
          refine r_skip S rfl rfl rfl fun a S => ?_
          refine r_skip S rfl rfl rfl fun a S => ?_
          refine r_skip S rfl rfl rfl fun a S => ?_
          refine r_skip S rfl rfl rfl fun a S => ?_
          refine r_skip S rfl rfl rfl fun a S => ?_
          refine r_skip S rfl rfl rfl fun a S => ?_
          refine r_skip S rfl rfl rfl fun a S => ?_
          refine r_skip S rfl rfl rfl fun a S => ?_
          refine r_y S H (y_pickF S rfl rfl rfl) rfl rfl rfl fun a S => ?_
          refine r_y S H (y_assign S rfl rfl) rfl rfl rfl fun a S => ?_
          refine r_nil ?_
          refine x_then ?_
          exact ⟨S.sub ⟨rfl, rfl, rfl, (show lk _ _ = some (.bool false) from rfl).trans (by first | (simp only [g17, g22, g26, decide_true, decide_false, Bool.true_and, Bool.false_and, Bool.true_or, Bool.false_or]; done) | (simp [-List.getD_eq_getElem?_getD, g17, g22, g26]; done) | (simp [-List.getD_eq_getElem?_getD, g17, g22, g26]; omega)), rfl, trivial⟩, H⟩
      · skip
        refine r_skip S rfl rfl rfl fun a S => ?_
        refine r_skip S rfl rfl rfl fun a S => ?_
        refine r_y S H (y_pickF S rfl rfl rfl) rfl rfl rfl fun a S => ?_
        refine r_y S H (y_move S rfl rfl) rfl rfl rfl fun a S => ?_
        refine r_skip S rfl rfl rfl fun a S => ?_
        refine r_skip S rfl rfl rfl fun a S => ?_
        refine r_y S H (y_pickF S rfl rfl rfl) rfl rfl rfl fun a S => ?_
        refine r_y S H (y_move S rfl rfl) rfl rfl rfl fun a S => ?_
        refine r_skip S rfl rfl rfl fun a S => ?_
        refine r_skip S rfl rfl rfl fun a S => ?_
        refine r_skip S rfl rfl rfl fun a S => ?_
        refine r_skip S rfl rfl rfl fun a S => ?_
        refine r_skip S rfl rfl rfl fun a S => ?_
        refine r_skip S rfl rfl rfl fun a S => ?_
        refine r_skip S rfl rfl rfl fun a S => ?_
        refine r_skip S rfl rfl rfl fun a S => ?_
        refine r_skip S rfl rfl rfl fun a S => ?_
        refine r_y S H (y_pickF S rfl rfl rfl) rfl rfl rfl fun a S => ?_
        refine r_y S H (y_assign S rfl rfl) rfl rfl rfl fun a S => ?_
        refine r_nil ?_
        refine x_then ?_
        exact ⟨S.sub ⟨rfl, rfl, rfl, (show lk _ _ = some (.bool false) from rfl).trans (by first | (simp only [g17, g22, decide_true, decide_false, Bool.true_and, Bool.false_and, Bool.true_or, Bool.false_or]; done) | (simp [-List.getD_eq_getElem?_getD, g17, g22]; done) | (simp [-List.getD_eq_getElem?_getD, g17, g22]; omega)), rfl, trivial⟩, H⟩
    · skip
      refine r_skip S rfl rfl rfl fun a S => ?_
      refine r_skip S rfl rfl rfl fun a S => ?_
      refine r_skip S rfl rfl rfl fun a S => ?_
      refine r_y S H (y_pickF S rfl rfl rfl) rfl rfl rfl fun a S => ?_
      refine r_y S H (y_move S rfl rfl) rfl rfl rfl fun a S => ?_
      refine r_skip S rfl rfl rfl fun a S => ?_
      refine r_skip S rfl rfl rfl fun a S => ?_
      refine r_y S H (y_pickF S rfl rfl rfl) rfl rfl rfl fun a S => ?_
      refine r_y S H (y_move S rfl rfl) rfl rfl rfl fun a S => ?_
      refine r_skip S rfl rfl rfl fun a S => ?_
      refine r_skip S rfl rfl rfl fun a S => ?_
      refine r_y S H (y_pickF S rfl rfl rfl) rfl rfl rfl fun a S => ?_
      refine r_y S H (y_move S rfl rfl) rfl rfl rfl fun a S => ?_
      refine r_skip S rfl rfl rfl fun a S => ?_
      refine r_skip S rfl rfl rfl fun a S => ?_
      refine r_skip S rfl rfl rfl fun a S => ?_
      refine r_skip S rfl rfl rfl fun a S => ?_
      refine r_skip S rfl rfl rfl fun a S => ?_
      refine r_skip S rfl rfl rfl fun a S => ?_
      refine r_skip S rfl rfl rfl fun a S => ?_
      refine r_skip S rfl rfl rfl fun a S => ?_
      refine r_skip S rfl rfl rfl fun a S => ?_
      refine r_y S H (y_pickF S rfl rfl rfl) rfl rfl rfl fun a S => ?_
      refine r_y S H (y_assign S rfl rfl) rfl rfl rfl fun a S => ?_
      refine r_nil ?_
      refine x_then ?_
      exact ⟨S.sub ⟨rfl, rfl, rfl, (show lk _ _ = some (.bool false) from rfl).trans (by first | (simp only [g17, decide_true, decide_false, Bool.true_and, Bool.false_and, Bool.true_or, Bool.false_or]; done) | (simp [-List.getD_eq_getElem?_getD, g17]; done) | (simp [-List.getD_eq_getElem?_getD, g17]; omega)), rfl, trivial⟩, H⟩
  obtain ⟨S, H⟩ := hm
  refine x_then ?_
  refine wp_ret ?_
  refine r_ret1 S H Try.results15 (ro_tmp S rfl) ?_
  refine ⟨congrArg Value.bool ?_, H.drop⟩
  simp only [right]; (try simp only [decide_eq_true_eq, Bool.or_eq_true, Bool.or_eq_false_iff, decide_eq_false_iff_not, Bool.and_eq_true, Bool.not_eq_true'] at *)
  first | (simp [*]; omega) | (simp; omega) | (rw [Bool.eq_iff_iff]; simp; omega)

set_option maxRecDepth 4000 in
theorem rright_ct (w : World) (fr : List Res) (k : Int) (s : Nat) (n : Int) (hs : s < 4294967296) (H : Sat w (fr)) :
    Rt Try.prog 16 #[.agg #[.int .i64 k, .int .u32 ((s : Nat) : Int)], .int .i64 n] w fun v w' => v = .bool (right k s n) ∧ Sat w' fr := by
  refine rt_enter Try.func16 rfl (n := 36) Try.ntmps16 rfl fun a S => ?_
  refine r_seq ?_
  refine r_region ?_
  refine r_box (c := #[.int .i64 k, .int .u32 ((s : Nat) : Int)]) S H rfl rfl rfl rfl rfl rfl fun a w b1 S H => ?_
  refine r_y S H (y_assign S rfl rfl) rfl rfl rfl fun a S => ?_
  refine r_nil ?_
  refine x_then ?_
  refine r_seq ?_
  refine r_seq ?_
  refine wp_via (J := fun a w => Slots a 36 [(0, .agg #[.int .i64 k, .int .u32 ((s : Nat) : Int)]), (1, .int .i64 n), (2, .pointer (some ⟨b1, 0, none⟩)), (4, .bool false), (20, .bool ((((decide (k < 1)) || (decide (5 < k))) || (decide (n < 0))) || (decide (1048576 < n))))] ∧ Sat w (blk b1 (.cells #[.int .i64 k, .int .u32 ((s : Nat) : Int)] 24) :: fr)) ?_ (fun a w hm => ?_)
  · skip
    refine r_region ?_
    refine r_y S H (y_fieldAddr S rfl rfl fa24_0) rfl rfl rfl fun a S => ?_
    refine r_y S H (y_load 0 S rfl rfl Try.isAgg3 rfl rfl) rfl rfl rfl fun a S => ?_
    refine r_y S H (y_lt S rfl rfl rfl) rfl rfl rfl fun a S => ?_
    refine r_y S H (y_move S rfl rfl) rfl rfl rfl fun a S => ?_
    refine splitP S (d := 8) rfl (fun g8 S => ?_) (fun g8 S => ?_)
    · skip
      refine r_skip S rfl rfl rfl fun a S => ?_
      refine r_skip S rfl rfl rfl fun a S => ?_
      refine r_skip S rfl rfl rfl fun a S => ?_
      refine r_y S H (y_pickT S rfl rfl rfl) rfl rfl rfl fun a S => ?_
      refine r_y S H (y_move S rfl rfl) rfl rfl rfl fun a S => ?_
      refine r_skip S rfl rfl rfl fun a S => ?_
      refine r_skip S rfl rfl rfl fun a S => ?_
      refine r_y S H (y_pickT S rfl rfl rfl) rfl rfl rfl fun a S => ?_
      refine r_y S H (y_move S rfl rfl) rfl rfl rfl fun a S => ?_
      refine r_skip S rfl rfl rfl fun a S => ?_
      refine r_skip S rfl rfl rfl fun a S => ?_
      refine r_y S H (y_pickT S rfl rfl rfl) rfl rfl rfl fun a S => ?_
      refine r_nil ?_
      refine x_then ?_
      exact ⟨S.sub ⟨rfl, rfl, rfl, rfl, (show lk _ _ = some (.bool true) from rfl).trans (by first | (simp only [g8, decide_true, decide_false, Bool.true_and, Bool.false_and, Bool.true_or, Bool.false_or]; done) | (simp [-List.getD_eq_getElem?_getD, g8]; done) | (simp [-List.getD_eq_getElem?_getD, g8]; omega)), trivial⟩, H⟩
    · skip
      refine r_y S H (y_fieldAddr S rfl rfl fa24_0) rfl rfl rfl fun a S => ?_
      refine r_y S H (y_load 0 S rfl rfl Try.isAgg3 rfl rfl) rfl rfl rfl fun a S => ?_
      refine r_y S H (y_gt S rfl rfl rfl) rfl rfl rfl fun a S => ?_
      refine r_y S H (y_pickF S rfl rfl rfl) rfl rfl rfl fun a S => ?_
      refine r_y S H (y_move S rfl rfl) rfl rfl rfl fun a S => ?_
      refine splitP S (d := 13) rfl (fun g13 S => ?_) (fun g13 S => ?_)
      · skip
        refine r_skip S rfl rfl rfl fun a S => ?_
        refine r_skip S rfl rfl rfl fun a S => ?_
        refine r_y S H (y_pickT S rfl rfl rfl) rfl rfl rfl fun a S => ?_
        refine r_y S H (y_move S rfl rfl) rfl rfl rfl fun a S => ?_
        refine r_skip S rfl rfl rfl fun a S => ?_
        refine r_skip S rfl rfl rfl fun a S => ?_
        refine r_y S H (y_pickT S rfl rfl rfl) rfl rfl rfl fun a S => ?_
        refine r_nil ?_
        refine x_then ?_
        exact ⟨S.sub ⟨rfl, rfl, rfl, rfl, (show lk _ _ = some (.bool true) from rfl).trans (by first | (simp only [g13, g8, decide_true, decide_false, Bool.true_and, Bool.false_and, Bool.true_or, Bool.false_or]; done) | (simp [-List.getD_eq_getElem?_getD, g13, g8]; done) | (simp [-List.getD_eq_getElem?_getD, g13, g8]; omega)), trivial⟩, H⟩
      · skip
        refine r_y S H (y_move S rfl rfl) rfl rfl rfl fun a S => ?_
        refine r_y S H (y_lt S rfl rfl rfl) rfl rfl rfl fun a S => ?_
        refine r_y S H (y_pickF S rfl rfl rfl) rfl rfl rfl fun a S => ?_
        refine r_y S H (y_move S rfl rfl) rfl rfl rfl fun a S => ?_
        refine splitP S (d := 17) rfl (fun g17 S => ?_) (fun g17 S => ?_)
        · skip
          refine r_skip S rfl rfl rfl fun a S => ?_
          refine r_skip S rfl rfl rfl fun a S => ?_
          refine r_y S H (y_pickT S rfl rfl rfl) rfl rfl rfl fun a S => ?_
          refine r_nil ?_
          refine x_then ?_
          exact ⟨S.sub ⟨rfl, rfl, rfl, rfl, (show lk _ _ = some (.bool true) from rfl).trans (by first | (simp only [g13, g17, g8, decide_true, decide_false, Bool.true_and, Bool.false_and, Bool.true_or, Bool.false_or]; done) | (simp [-List.getD_eq_getElem?_getD, g13, g17, g8]; done) | (simp [-List.getD_eq_getElem?_getD, g13, g17, g8]; omega)), trivial⟩, H⟩
        · skip
          refine r_y S H (y_move S rfl rfl) rfl rfl rfl fun a S => ?_
          refine r_y S H (y_gt S rfl rfl rfl) rfl rfl rfl fun a S => ?_
          refine r_y S H (y_pickF S rfl rfl rfl) rfl rfl rfl fun a S => ?_
          refine r_nil ?_
          refine x_then ?_
          exact ⟨S.sub ⟨rfl, rfl, rfl, rfl, (show lk _ _ = some (.bool (decide (1048576 < n))) from rfl).trans (by first | (simp only [g13, g17, g8, decide_true, decide_false, Bool.true_and, Bool.false_and, Bool.true_or, Bool.false_or]; done) | (simp [-List.getD_eq_getElem?_getD, g13, g17, g8]; done) | (simp [-List.getD_eq_getElem?_getD, g13, g17, g8]; omega)), trivial⟩, H⟩
  obtain ⟨S, H⟩ := hm
  refine x_then ?_
  refine r_cond S rfl (fun h20 => ?_) (fun h20 => ?_)
  · skip
    refine r_seq ?_
    refine r_region ?_
    refine r_y S H (y_assign S rfl rfl) rfl rfl rfl fun a S => ?_
    refine r_nil ?_
    refine x_then ?_
    refine wp_ret ?_
    refine x_thenRet ?_
    refine r_ret1 S H Try.results16 (ro_tmp S rfl) ?_
    refine ⟨congrArg Value.bool ?_, H.drop⟩
    simp only [right]; (try simp only [decide_eq_true_eq, Bool.or_eq_true, Bool.or_eq_false_iff, decide_eq_false_iff_not, Bool.and_eq_true, Bool.not_eq_true'] at *)
    first | (simp [*]; omega) | (simp; omega) | (rw [Bool.eq_iff_iff]; simp; omega)
  · skip
    refine wp_skip ?_
    refine x_then ?_
    refine r_seq ?_
    refine wp_via (J := fun a w => Slots a 36 [(0, .agg #[.int .i64 k, .int .u32 ((s : Nat) : Int)]), (1, .int .i64 n), (2, .pointer (some ⟨b1, 0, none⟩)), (4, .bool (((decide (k ≠ 1)) && (decide (k ≠ 3))) || (decide (((s : Nat) : Int) < n)))), (20, .bool ((((decide (k < 1)) || (decide (5 < k))) || (decide (n < 0))) || (decide (1048576 < n))))] ∧ Sat w (blk b1 (.cells #[.int .i64 k, .int .u32 ((s : Nat) : Int)] 24) :: fr)) ?_ (fun a w hm => ?_)
    · skip
      refine r_region ?_
      refine r_y S H (y_fieldAddr S rfl rfl fa24_0) rfl rfl rfl fun a S => ?_
      refine r_y S H (y_load 0 S rfl rfl Try.isAgg3 rfl rfl) rfl rfl rfl fun a S => ?_
      refine r_y S H (y_ne S rfl rfl rfl) rfl rfl rfl fun a S => ?_
      refine r_y S H (y_move S rfl rfl) rfl rfl rfl fun a S => ?_
      refine splitP S (d := 24) rfl (fun g24 S => ?_) (fun g24 S => ?_)
      · skip
        refine r_y S H (y_fieldAddr S rfl rfl fa24_0) rfl rfl rfl fun a S => ?_
        refine r_y S H (y_load 0 S rfl rfl Try.isAgg3 rfl rfl) rfl rfl rfl fun a S => ?_
        refine r_y S H (y_ne S rfl rfl rfl) rfl rfl rfl fun a S => ?_
        refine r_y S H (y_pickT S rfl rfl rfl) rfl rfl rfl fun a S => ?_
        refine r_y S H (y_move S rfl rfl) rfl rfl rfl fun a S => ?_
        refine splitP S (d := 29) rfl (fun g29 S => ?_) (fun g29 S => ?_)
        · skip
          refine r_skip S rfl rfl rfl fun a S => ?_
          refine r_skip S rfl rfl rfl fun a S => ?_
          refine r_skip S rfl rfl rfl fun a S => ?_
          refine r_skip S rfl rfl rfl fun a S => ?_
          refine r_skip S rfl rfl rfl fun a S => ?_
          refine r_y S H (y_pickT S rfl rfl rfl) rfl rfl rfl fun a S => ?_
          refine r_y S H (y_assign S rfl rfl) rfl rfl rfl fun a S => ?_
          refine r_nil ?_
          refine x_then ?_
          exact ⟨S.sub ⟨rfl, rfl, rfl, (show lk _ _ = some (.bool true) from rfl).trans (by first | (simp only [g24, g29, decide_true, decide_false, Bool.true_and, Bool.false_and, Bool.true_or, Bool.false_or]; done) | (simp [-List.getD_eq_getElem?_getD, g24, g29]; done) | (simp [-List.getD_eq_getElem?_getD, g24, g29]; omega)), rfl, trivial⟩, H⟩
        · skip
          refine r_y S H (y_fieldAddr S rfl rfl fa24_1) rfl rfl rfl fun a S => ?_
          refine r_y S H (y_load 0 S rfl rfl Try.isAgg22 rfl rfl) rfl rfl rfl fun a S => ?_
          refine r_y S H (y_conv S rfl rfl Try.underlying22 Try.underlying3 (wi64 (by omega) (by omega))) rfl rfl rfl fun a S => ?_
          refine r_y S H (y_move S rfl rfl) rfl rfl rfl fun a S => ?_
          refine r_y S H (y_lt S rfl rfl rfl) rfl rfl rfl fun a S => ?_
          refine r_y S H (y_pickF S rfl rfl rfl) rfl rfl rfl fun a S => ?_
          refine r_y S H (y_assign S rfl rfl) rfl rfl rfl fun a S => ?_
          refine r_nil ?_
          refine x_then ?_
          exact ⟨S.sub ⟨rfl, rfl, rfl, (show lk _ _ = some (.bool (decide (((s : Nat) : Int) < n))) from rfl).trans (by first | (simp only [g24, g29, decide_true, decide_false, Bool.true_and, Bool.false_and, Bool.true_or, Bool.false_or]; done) | (simp [-List.getD_eq_getElem?_getD, g24, g29]; done) | (simp [-List.getD_eq_getElem?_getD, g24, g29]; omega)), rfl, trivial⟩, H⟩
      · skip
        refine r_skip S rfl rfl rfl fun a S => ?_
        refine r_skip S rfl rfl rfl fun a S => ?_
        refine r_skip S rfl rfl rfl fun a S => ?_
        refine r_y S H (y_pickF S rfl rfl rfl) rfl rfl rfl fun a S => ?_
        refine r_y S H (y_move S rfl rfl) rfl rfl rfl fun a S => ?_
        refine r_y S H (y_fieldAddr S rfl rfl fa24_1) rfl rfl rfl fun a S => ?_
        refine r_y S H (y_load 0 S rfl rfl Try.isAgg22 rfl rfl) rfl rfl rfl fun a S => ?_
        refine r_y S H (y_conv S rfl rfl Try.underlying22 Try.underlying3 (wi64 (by omega) (by omega))) rfl rfl rfl fun a S => ?_
        refine r_y S H (y_move S rfl rfl) rfl rfl rfl fun a S => ?_
        refine r_y S H (y_lt S rfl rfl rfl) rfl rfl rfl fun a S => ?_
        refine r_y S H (y_pickF S rfl rfl rfl) rfl rfl rfl fun a S => ?_
        refine r_y S H (y_assign S rfl rfl) rfl rfl rfl fun a S => ?_
        refine r_nil ?_
        refine x_then ?_
        exact ⟨S.sub ⟨rfl, rfl, rfl, (show lk _ _ = some (.bool (decide (((s : Nat) : Int) < n))) from rfl).trans (by first | (simp only [g24, decide_true, decide_false, Bool.true_and, Bool.false_and, Bool.true_or, Bool.false_or]; done) | (simp [-List.getD_eq_getElem?_getD, g24]; done) | (simp [-List.getD_eq_getElem?_getD, g24]; omega)), rfl, trivial⟩, H⟩
    obtain ⟨S, H⟩ := hm
    refine x_then ?_
    refine wp_ret ?_
    refine r_ret1 S H Try.results16 (ro_tmp S rfl) ?_
    refine ⟨congrArg Value.bool ?_, H.drop⟩
    simp only [right]; (try simp only [decide_eq_true_eq, Bool.or_eq_true, Bool.or_eq_false_iff, decide_eq_false_iff_not, Bool.and_eq_true, Bool.not_eq_true'] at *)
    first | (simp [*]; omega) | (simp; omega) | (rw [Bool.eq_iff_iff]; simp; omega)

set_option maxRecDepth 4000 in
theorem how_ct (w : World) (fr : List Res) (k : Int) (s : Nat) (H : Sat w (fr)) :
    Rt Try.prog 19 #[.agg #[.int .i64 k, .int .u32 ((s : Nat) : Int)]] w fun v w' => v = .int .i64 (if summed k then 1 else 2) ∧ Sat w' fr := by
  refine rt_enter Try.func19 rfl (n := 11) Try.ntmps19 rfl fun a S => ?_
  refine r_seq ?_
  refine r_region ?_
  refine r_box (c := #[.int .i64 k, .int .u32 ((s : Nat) : Int)]) S H rfl rfl rfl rfl rfl rfl fun a w b1 S H => ?_
  refine r_y S H (y_assign S rfl rfl) rfl rfl rfl fun a S => ?_
  refine r_nil ?_
  refine x_then ?_
  refine r_seq ?_
  refine r_seq ?_
  refine wp_via (J := fun a w => Slots a 11 [(0, .agg #[.int .i64 k, .int .u32 ((s : Nat) : Int)]), (1, .pointer (some ⟨b1, 0, none⟩)), (2, .int .i64 0), (10, .bool ((decide (k = 4)) || (decide (k = 5))))] ∧ Sat w (blk b1 (.cells #[.int .i64 k, .int .u32 ((s : Nat) : Int)] 24) :: fr)) ?_ (fun a w hm => ?_)
  · skip
    refine r_region ?_
    refine r_y S H (y_fieldAddr S rfl rfl fa24_0) rfl rfl rfl fun a S => ?_
    refine r_y S H (y_load 0 S rfl rfl Try.isAgg3 rfl rfl) rfl rfl rfl fun a S => ?_
    refine r_y S H (y_eq S rfl rfl rfl) rfl rfl rfl fun a S => ?_
    refine r_y S H (y_move S rfl rfl) rfl rfl rfl fun a S => ?_
    refine splitP S (d := 6) rfl (fun g6 S => ?_) (fun g6 S => ?_)
    · skip
      refine r_skip S rfl rfl rfl fun a S => ?_
      refine r_skip S rfl rfl rfl fun a S => ?_
      refine r_skip S rfl rfl rfl fun a S => ?_
      refine r_y S H (y_pickT S rfl rfl rfl) rfl rfl rfl fun a S => ?_
      refine r_nil ?_
      refine x_then ?_
      exact ⟨S.sub ⟨rfl, rfl, rfl, (show lk _ _ = some (.bool true) from rfl).trans (by first | (simp only [g6, decide_true, decide_false, Bool.true_and, Bool.false_and, Bool.true_or, Bool.false_or]; done) | (simp [-List.getD_eq_getElem?_getD, g6]; done) | (simp [-List.getD_eq_getElem?_getD, g6]; omega)), trivial⟩, H⟩
    · skip
      refine r_y S H (y_fieldAddr S rfl rfl fa24_0) rfl rfl rfl fun a S => ?_
      refine r_y S H (y_load 0 S rfl rfl Try.isAgg3 rfl rfl) rfl rfl rfl fun a S => ?_
      refine r_y S H (y_eq S rfl rfl rfl) rfl rfl rfl fun a S => ?_
      refine r_y S H (y_pickF S rfl rfl rfl) rfl rfl rfl fun a S => ?_
      refine r_nil ?_
      refine x_then ?_
      exact ⟨S.sub ⟨rfl, rfl, rfl, (show lk _ _ = some (.bool (decide (k = 5))) from rfl).trans (by first | (simp only [g6, decide_true, decide_false, Bool.true_and, Bool.false_and, Bool.true_or, Bool.false_or]; done) | (simp [-List.getD_eq_getElem?_getD, g6]; done) | (simp [-List.getD_eq_getElem?_getD, g6]; omega)), trivial⟩, H⟩
  obtain ⟨S, H⟩ := hm
  refine x_then ?_
  refine r_cond S rfl (fun h10 => ?_) (fun h10 => ?_)
  · skip
    refine r_seq ?_
    refine r_region ?_
    refine r_y S H (y_assign S rfl rfl) rfl rfl rfl fun a S => ?_
    refine r_nil ?_
    refine x_then ?_
    refine wp_ret ?_
    refine x_thenRet ?_
    refine r_ret1 S H Try.results19 (ro_tmp S rfl) ?_
    refine ⟨?_, H.drop⟩
    have hh : summed k = (decide (k = 4) || decide (k = 5)) := by unfold summed; by_cases h4 : k = 4 <;> by_cases h5 : k = 5 <;> simp [h4, h5]
    rw [hh]; simp [*]
  · skip
    refine wp_skip ?_
    refine x_then ?_
    refine r_seq ?_
    refine r_region ?_
    refine r_y S H (y_assign S rfl rfl) rfl rfl rfl fun a S => ?_
    refine r_nil ?_
    refine x_then ?_
    refine wp_ret ?_
    refine r_ret1 S H Try.results19 (ro_tmp S rfl) ?_
    refine ⟨?_, H.drop⟩
    have hh : summed k = (decide (k = 4) || decide (k = 5)) := by unfold summed; by_cases h4 : k = 4 <;> by_cases h5 : k = 5 <;> simp [h4, h5]
    rw [hh]; simp [*]

set_option maxRecDepth 4000 in
theorem rhow_ct (w : World) (fr : List Res) (k : Int) (s : Nat) (H : Sat w (fr)) :
    Rt Try.prog 20 #[.agg #[.int .i64 k, .int .u32 ((s : Nat) : Int)]] w fun v w' => v = .int .i64 (if summed k then 1 else 2) ∧ Sat w' fr := by
  refine rt_enter Try.func20 rfl (n := 11) Try.ntmps20 rfl fun a S => ?_
  refine r_seq ?_
  refine r_region ?_
  refine r_box (c := #[.int .i64 k, .int .u32 ((s : Nat) : Int)]) S H rfl rfl rfl rfl rfl rfl fun a w b1 S H => ?_
  refine r_y S H (y_assign S rfl rfl) rfl rfl rfl fun a S => ?_
  refine r_nil ?_
  refine x_then ?_
  refine r_seq ?_
  refine r_seq ?_
  refine wp_via (J := fun a w => Slots a 11 [(0, .agg #[.int .i64 k, .int .u32 ((s : Nat) : Int)]), (1, .pointer (some ⟨b1, 0, none⟩)), (2, .int .i64 0), (10, .bool ((decide (k = 4)) || (decide (k = 5))))] ∧ Sat w (blk b1 (.cells #[.int .i64 k, .int .u32 ((s : Nat) : Int)] 24) :: fr)) ?_ (fun a w hm => ?_)
  · skip
    refine r_region ?_
    refine r_y S H (y_fieldAddr S rfl rfl fa24_0) rfl rfl rfl fun a S => ?_
    refine r_y S H (y_load 0 S rfl rfl Try.isAgg3 rfl rfl) rfl rfl rfl fun a S => ?_
    refine r_y S H (y_eq S rfl rfl rfl) rfl rfl rfl fun a S => ?_
    refine r_y S H (y_move S rfl rfl) rfl rfl rfl fun a S => ?_
    refine splitP S (d := 6) rfl (fun g6 S => ?_) (fun g6 S => ?_)
    · skip
      refine r_skip S rfl rfl rfl fun a S => ?_
      refine r_skip S rfl rfl rfl fun a S => ?_
      refine r_skip S rfl rfl rfl fun a S => ?_
      refine r_y S H (y_pickT S rfl rfl rfl) rfl rfl rfl fun a S => ?_
      refine r_nil ?_
      refine x_then ?_
      exact ⟨S.sub ⟨rfl, rfl, rfl, (show lk _ _ = some (.bool true) from rfl).trans (by first | (simp only [g6, decide_true, decide_false, Bool.true_and, Bool.false_and, Bool.true_or, Bool.false_or]; done) | (simp [-List.getD_eq_getElem?_getD, g6]; done) | (simp [-List.getD_eq_getElem?_getD, g6]; omega)), trivial⟩, H⟩
    · skip
      refine r_y S H (y_fieldAddr S rfl rfl fa24_0) rfl rfl rfl fun a S => ?_
      refine r_y S H (y_load 0 S rfl rfl Try.isAgg3 rfl rfl) rfl rfl rfl fun a S => ?_
      refine r_y S H (y_eq S rfl rfl rfl) rfl rfl rfl fun a S => ?_
      refine r_y S H (y_pickF S rfl rfl rfl) rfl rfl rfl fun a S => ?_
      refine r_nil ?_
      refine x_then ?_
      exact ⟨S.sub ⟨rfl, rfl, rfl, (show lk _ _ = some (.bool (decide (k = 5))) from rfl).trans (by first | (simp only [g6, decide_true, decide_false, Bool.true_and, Bool.false_and, Bool.true_or, Bool.false_or]; done) | (simp [-List.getD_eq_getElem?_getD, g6]; done) | (simp [-List.getD_eq_getElem?_getD, g6]; omega)), trivial⟩, H⟩
  obtain ⟨S, H⟩ := hm
  refine x_then ?_
  refine r_cond S rfl (fun h10 => ?_) (fun h10 => ?_)
  · skip
    refine r_seq ?_
    refine r_region ?_
    refine r_y S H (y_assign S rfl rfl) rfl rfl rfl fun a S => ?_
    refine r_nil ?_
    refine x_then ?_
    refine wp_ret ?_
    refine x_thenRet ?_
    refine r_ret1 S H Try.results20 (ro_tmp S rfl) ?_
    refine ⟨?_, H.drop⟩
    have hh : summed k = (decide (k = 4) || decide (k = 5)) := by unfold summed; by_cases h4 : k = 4 <;> by_cases h5 : k = 5 <;> simp [h4, h5]
    rw [hh]; simp [*]
  · skip
    refine wp_skip ?_
    refine x_then ?_
    refine r_seq ?_
    refine r_region ?_
    refine r_y S H (y_assign S rfl rfl) rfl rfl rfl fun a S => ?_
    refine r_nil ?_
    refine x_then ?_
    refine wp_ret ?_
    refine r_ret1 S H Try.results20 (ro_tmp S rfl) ?_
    refine ⟨?_, H.drop⟩
    have hh : summed k = (decide (k = 4) || decide (k = 5)) := by unfold summed; by_cases h4 : k = 4 <;> by_cases h5 : k = 5 <;> simp [h4, h5]
    rw [hh]; simp [*]

theorem add64 (x y : Nat) (w : World) : (callFunc 43 #[.int .u64 (x : Int), .int .u64 (y : Int), .int .u64 0]).run Try.prog w = .ok (.value (.tuple #[.int .u64 (((x + y) % 18446744073709551616 : Nat) : Int), .int .u64 (((x + y) / 18446744073709551616 : Nat) : Int)])) w := by
  kernel_rfl
set_option maxRecDepth 4000 in
theorem combine_ct (w : World) (fr : List Res) (k : Int) (x y : Nat) (hx : x < 18446744073709551616) (hy : y < 18446744073709551616) (H : Sat w (fr)) :
    Rt Try.prog 36 #[.int .i64 k, .int .u64 ((x : Nat) : Int), .int .u64 ((y : Nat) : Int)] w fun v w' => v = .int .u64 ((comb (k == 1) x y : Nat) : Int) ∧ Sat w' fr := by
  refine rt_enter Try.func36 rfl (n := 23) Try.ntmps36 rfl fun a S => ?_
  refine r_seq ?_
  refine r_region ?_
  refine r_y S H (y_assign S rfl rfl) rfl rfl rfl fun a S => ?_
  refine r_nil ?_
  refine x_then ?_
  refine r_seq ?_
  refine r_seq ?_
  refine r_region ?_
  refine r_y S H (y_move S rfl rfl) rfl rfl rfl fun a S => ?_
  refine r_y S H (y_ne S rfl rfl rfl) rfl rfl rfl fun a S => ?_
  refine r_nil ?_
  refine x_then ?_
  refine r_test S rfl (fun h10 => ?_) (fun h10 => ?_)
  · skip
    refine r_seq ?_
    refine r_region ?_
    refine r_y S H (y_move S rfl rfl) rfl rfl rfl fun a S => ?_
    refine r_y S H (y_move S rfl rfl) rfl rfl rfl fun a S => ?_
    refine r_y S H (y_min S rfl rfl rfl) rfl rfl rfl fun a S => ?_
    refine r_y S H (y_assign S rfl rfl) rfl rfl rfl fun a S => ?_
    refine r_nil ?_
    refine x_then ?_
    refine wp_ret ?_
    refine x_thenRet ?_
    refine r_ret1 S H Try.results36 (ro_tmp S rfl) ?_
    refine ⟨congrArg (Value.int .u64) ?_, H⟩
    have e1 : (k == 1) = decide (k = 1) := by by_cases hk : k = 1 <;> simp [hk]
    rw [e1]
    (try simp only [ne_eq, Decidable.not_not] at *)
    rw [decide_eq_false (show ¬ k = 1 from h10)]
    simp only [comb, Bool.false_eq_true, if_false]
    omega
  · skip
    refine wp_skip ?_
    refine x_then ?_
    refine r_seq ?_
    refine r_seq ?_
    refine r_region ?_
    refine r_y S H (y_move S rfl rfl) rfl rfl rfl fun a S => ?_
    refine r_y S H (y_move S rfl rfl) rfl rfl rfl fun a S => ?_
    refine r_y S H (y_callX (args := #[.int .u64 ((x : Nat) : Int), .int .u64 ((y : Nat) : Int), .int .u64 0]) S rfl rfl (add64 x y)) rfl rfl rfl fun a S => ?_
    refine r_y S H (y_move S rfl rfl) rfl rfl rfl fun a S => ?_
    refine r_y S H (y_extract (v := .int .u64 (((x + y) % 18446744073709551616 : Nat) : Int)) S rfl rfl rfl) rfl rfl rfl fun a S => ?_
    refine r_y S H (y_extract (v := .int .u64 (((x + y) / 18446744073709551616 : Nat) : Int)) S rfl rfl rfl) rfl rfl rfl fun a S => ?_
    refine r_y S H (y_assign S rfl rfl) rfl rfl rfl fun a S => ?_
    refine r_y S H (y_assign S rfl rfl) rfl rfl rfl fun a S => ?_
    refine r_nil ?_
    refine x_then ?_
    refine r_seq ?_
    refine r_region ?_
    refine r_y S H (y_move S rfl rfl) rfl rfl rfl fun a S => ?_
    refine r_y S H (y_eq S rfl rfl rfl) rfl rfl rfl fun a S => ?_
    refine r_nil ?_
    refine x_then ?_
    refine r_test S rfl (fun h21 => ?_) (fun h21 => ?_)
    · skip
      refine r_seq ?_
      refine r_region ?_
      refine r_y S H (y_move S rfl rfl) rfl rfl rfl fun a S => ?_
      refine r_y S H (y_assign S rfl rfl) rfl rfl rfl fun a S => ?_
      refine r_nil ?_
      refine x_then ?_
      refine wp_ret ?_
      refine x_thenRet ?_
      refine r_ret1 S H Try.results36 (ro_tmp S rfl) ?_
      refine ⟨congrArg (Value.int .u64) ?_, H⟩
      have e1 : (k == 1) = decide (k = 1) := by by_cases hk : k = 1 <;> simp [hk]
      rw [e1]
      (try simp only [ne_eq, Decidable.not_not] at *)
      rw [decide_eq_true (show k = 1 from h10)]
      simp only [comb, sat, if_true]
      (try rw [wrap_u64] at *)
      have ht : top = 18446744073709551615 := rfl
      by_cases hb : x + y ≤ top
      · rw [if_pos hb]; omega
      · rw [if_neg hb]; omega
    · skip
      refine wp_skip ?_
      refine x_then ?_
      refine r_seq ?_
      refine r_region ?_
      refine r_y S H (y_assign S rfl rfl) rfl rfl rfl fun a S => ?_
      refine r_nil ?_
      refine x_then ?_
      refine wp_ret ?_
      refine r_ret1 S H Try.results36 (ro_tmp S rfl) ?_
      refine ⟨congrArg (Value.int .u64) ?_, H⟩
      have e1 : (k == 1) = decide (k = 1) := by by_cases hk : k = 1 <;> simp [hk]
      rw [e1]
      (try simp only [ne_eq, Decidable.not_not] at *)
      rw [decide_eq_true (show k = 1 from h10)]
      simp only [comb, sat, if_true]
      (try rw [wrap_u64] at *)
      have ht : top = 18446744073709551615 := rfl
      by_cases hb : x + y ≤ top
      · rw [if_pos hb]; omega
      · rw [if_neg hb]; omega

set_option maxRecDepth 4000 in
theorem rcombine_ct (w : World) (fr : List Res) (k : Int) (x y : Nat) (hx : x < 18446744073709551616) (hy : y < 18446744073709551616) (H : Sat w (fr)) :
    Rt Try.prog 37 #[.int .i64 k, .int .u64 ((x : Nat) : Int), .int .u64 ((y : Nat) : Int)] w fun v w' => v = .int .u64 ((comb (k == 1) x y : Nat) : Int) ∧ Sat w' fr := by
  refine rt_enter Try.func37 rfl (n := 20) Try.ntmps37 rfl fun a S => ?_
  refine r_seq ?_
  refine r_region ?_
  refine r_y S H (y_assign S rfl rfl) rfl rfl rfl fun a S => ?_
  refine r_nil ?_
  refine x_then ?_
  refine r_seq ?_
  refine r_seq ?_
  refine r_region ?_
  refine r_y S H (y_move S rfl rfl) rfl rfl rfl fun a S => ?_
  refine r_y S H (y_ne S rfl rfl rfl) rfl rfl rfl fun a S => ?_
  refine r_nil ?_
  refine x_then ?_
  refine r_test S rfl (fun h8 => ?_) (fun h8 => ?_)
  · skip
    refine r_seq ?_
    refine r_region ?_
    refine r_y S H (y_move S rfl rfl) rfl rfl rfl fun a S => ?_
    refine r_y S H (y_move S rfl rfl) rfl rfl rfl fun a S => ?_
    refine r_y S H (y_min S rfl rfl rfl) rfl rfl rfl fun a S => ?_
    refine r_y S H (y_assign S rfl rfl) rfl rfl rfl fun a S => ?_
    refine r_nil ?_
    refine x_then ?_
    refine wp_ret ?_
    refine x_thenRet ?_
    refine r_ret1 S H Try.results37 (ro_tmp S rfl) ?_
    refine ⟨congrArg (Value.int .u64) ?_, H⟩
    have e1 : (k == 1) = decide (k = 1) := by by_cases hk : k = 1 <;> simp [hk]
    rw [e1]
    (try simp only [ne_eq, Decidable.not_not] at *)
    rw [decide_eq_false (show ¬ k = 1 from h8)]
    simp only [comb, Bool.false_eq_true, if_false]
    omega
  · skip
    refine wp_skip ?_
    refine x_then ?_
    refine r_seq ?_
    refine r_seq ?_
    refine r_region ?_
    refine r_y S H (y_move S rfl rfl) rfl rfl rfl fun a S => ?_
    refine r_y S H (y_move S rfl rfl) rfl rfl rfl fun a S => ?_
    refine r_y S H (y_addW S rfl rfl rfl) rfl rfl rfl fun a S => ?_
    refine r_y S H (y_move S rfl rfl) rfl rfl rfl fun a S => ?_
    refine r_y S H (y_lt S rfl rfl rfl) rfl rfl rfl fun a S => ?_
    refine r_nil ?_
    refine x_then ?_
    refine r_test S rfl (fun h16 => ?_) (fun h16 => ?_)
    · skip
      refine r_seq ?_
      refine r_region ?_
      refine r_y S H (y_assign S rfl rfl) rfl rfl rfl fun a S => ?_
      refine r_nil ?_
      refine x_then ?_
      refine wp_ret ?_
      refine x_thenRet ?_
      refine r_ret1 S H Try.results37 (ro_tmp S rfl) ?_
      refine ⟨congrArg (Value.int .u64) ?_, H⟩
      have e1 : (k == 1) = decide (k = 1) := by by_cases hk : k = 1 <;> simp [hk]
      rw [e1]
      (try simp only [ne_eq, Decidable.not_not] at *)
      rw [decide_eq_true (show k = 1 from h8)]
      simp only [comb, sat, if_true]
      (try rw [wrap_u64] at *)
      have ht : top = 18446744073709551615 := rfl
      by_cases hb : x + y ≤ top
      · rw [if_pos hb]; omega
      · rw [if_neg hb]; omega
    · skip
      refine wp_skip ?_
      refine x_then ?_
      refine r_seq ?_
      refine r_region ?_
      refine r_y S H (y_move S rfl rfl) rfl rfl rfl fun a S => ?_
      refine r_y S H (y_move S rfl rfl) rfl rfl rfl fun a S => ?_
      refine r_y S H (y_addW S rfl rfl rfl) rfl rfl rfl fun a S => ?_
      refine r_y S H (y_assign S rfl rfl) rfl rfl rfl fun a S => ?_
      refine r_nil ?_
      refine x_then ?_
      refine wp_ret ?_
      refine r_ret1 S H Try.results37 (ro_tmp S rfl) ?_
      refine ⟨congrArg (Value.int .u64) ?_, H⟩
      have e1 : (k == 1) = decide (k = 1) := by by_cases hk : k = 1 <;> simp [hk]
      rw [e1]
      (try simp only [ne_eq, Decidable.not_not] at *)
      rw [decide_eq_true (show k = 1 from h8)]
      simp only [comb, sat, if_true]
      (try rw [wrap_u64] at *)
      have ht : top = 18446744073709551615 := rfl
      by_cases hb : x + y ≤ top
      · rw [if_pos hb]; omega
      · rw [if_neg hb]; omega

set_option maxHeartbeats 400000 in
set_option maxRecDepth 4000 in
theorem message_ct (w : World) (fr : List Res) (k : Int) (s x : Nat) (o : Int) (ew : Nat) (hx : x < 18446744073709551616) (ho : -9223372036854775808 ≤ o ∧ o < 9223372036854775808) (hw : ew < 4294967296) (H : Sat w (fr)) :
    Rt Try.prog 21 #[.agg #[.int .i64 k, .int .u32 ((s : Nat) : Int)], .int .u64 ((x : Nat) : Int), .int .i64 o, .int .u32 ((ew : Nat) : Int)] w fun v w' => v = .int .u64 ((msg k x o ew : Nat) : Int) ∧ Sat w' fr := by
  refine rt_enter Try.func21 rfl (n := 32) Try.ntmps21 rfl fun a S => ?_
  refine r_seq ?_
  refine r_region ?_
  refine r_box (c := #[.int .i64 k, .int .u32 ((s : Nat) : Int)]) S H rfl rfl rfl rfl rfl rfl fun a w b1 S H => ?_
  refine r_y S H (y_assign S rfl rfl) rfl rfl rfl fun a S => ?_
  refine r_nil ?_
  refine x_then ?_
  refine r_seq ?_
  refine r_seq ?_
  refine r_region ?_
  refine r_y S H (y_fieldAddr S rfl rfl fa24_0) rfl rfl rfl fun a S => ?_
  refine r_y S H (y_load 0 S rfl rfl Try.isAgg3 rfl rfl) rfl rfl rfl fun a S => ?_
  refine r_nil ?_
  refine x_then ?_
  refine r_block ?_
  refine r_seq ?_
  refine r_region ?_
  refine r_y S H (y_eq S rfl rfl rfl) rfl rfl rfl fun a S => ?_
  refine r_y S H (y_assign S rfl rfl) rfl rfl rfl fun a S => ?_
  refine r_nil ?_
  refine x_then ?_
  refine r_test S rfl (fun h11 => ?_) (fun h11 => ?_)
  · skip
    refine r_seq ?_
    refine r_region ?_
    refine r_y S H (y_move S rfl rfl) rfl rfl rfl fun a S => ?_
    refine r_call (args := #[.int .i64 1, .int .u64 ((x : Nat) : Int), .int .u64 1]) S rfl rfl Try.call36 (combine_ct (H := H) _ _ 1 x 1 (by omega) (by omega)) rfl rfl rfl fun v a w hR S => ?_
    obtain ⟨rfl, H⟩ := hR
    refine r_y S H (y_assign S rfl rfl) rfl rfl rfl fun a S => ?_
    refine r_nil ?_
    refine x_then ?_
    refine wp_ret ?_
    refine x_blockRet ?_
    refine x_thenRet ?_
    refine r_ret1 S H Try.results21 (ro_tmp S rfl) ?_
    refine ⟨congrArg (Value.int .u64) ?_, H.drop⟩
    (try ((have ho1 : 0 ≤ o := (by omega)); obtain ⟨m, rfl⟩ := Int.eq_ofNat_of_zero_le ho1))
    simp only [msg, comb, beq_self_eq_true, if_true]
    (try simp only [*, if_true, if_false]) <;> first | rfl | simp | (simp; omega)
  · skip
    refine r_seq ?_
    refine r_region ?_
    refine r_y S H (y_eq S rfl rfl rfl) rfl rfl rfl fun a S => ?_
    refine r_y S H (y_assign S rfl rfl) rfl rfl rfl fun a S => ?_
    refine r_nil ?_
    refine x_then ?_
    refine r_test S rfl (fun h15 => ?_) (fun h15 => ?_)
    · skip
      refine r_seq ?_
      refine r_region ?_
      refine r_y S H (y_move S rfl rfl) rfl rfl rfl fun a S => ?_
      refine r_y S H (y_move S rfl rfl) rfl rfl rfl fun a S => ?_
      refine r_y S H (y_conv S rfl rfl Try.underlying22 Try.underlying25 (wu64 (by omega) (by omega))) rfl rfl rfl fun a S => ?_
      refine r_call (args := #[.int .i64 1, .int .u64 ((x : Nat) : Int), .int .u64 ((ew : Nat) : Int)]) S rfl rfl Try.call36 (combine_ct (H := H) _ _ 1 x ew (by omega) (by omega)) rfl rfl rfl fun v a w hR S => ?_
      obtain ⟨rfl, H⟩ := hR
      refine r_y S H (y_assign S rfl rfl) rfl rfl rfl fun a S => ?_
      refine r_nil ?_
      refine x_then ?_
      refine wp_ret ?_
      refine x_blockRet ?_
      refine x_thenRet ?_
      refine r_ret1 S H Try.results21 (ro_tmp S rfl) ?_
      refine ⟨congrArg (Value.int .u64) ?_, H.drop⟩
      (try ((have ho1 : 0 ≤ o := (by omega)); obtain ⟨m, rfl⟩ := Int.eq_ofNat_of_zero_le ho1))
      simp only [msg, comb, beq_self_eq_true, if_true]
      (try simp only [*, if_true, if_false]) <;> first | rfl | simp | (simp; omega)
    · skip
      refine r_seq ?_
      refine r_region ?_
      refine r_y S H (y_eq S rfl rfl rfl) rfl rfl rfl fun a S => ?_
      refine r_y S H (y_assign S rfl rfl) rfl rfl rfl fun a S => ?_
      refine r_nil ?_
      refine x_then ?_
      refine r_test S rfl (fun h21 => ?_) (fun h21 => ?_)
      · skip
        refine r_seq ?_
        refine r_seq ?_
        refine r_region ?_
        refine r_y S H (y_move S rfl rfl) rfl rfl rfl fun a S => ?_
        refine r_y S H (y_lt S rfl rfl rfl) rfl rfl rfl fun a S => ?_
        refine r_nil ?_
        refine x_then ?_
        refine r_test S rfl (fun h24 => ?_) (fun h24 => ?_)
        · skip
          refine r_seq ?_
          refine r_region ?_
          refine r_y S H (y_assign S rfl rfl) rfl rfl rfl fun a S => ?_
          refine r_nil ?_
          refine x_then ?_
          refine wp_ret ?_
          refine x_thenRet ?_
          refine x_blockRet ?_
          refine x_thenRet ?_
          refine r_ret1 S H Try.results21 (ro_tmp S rfl) ?_
          refine ⟨congrArg (Value.int .u64) ?_, H.drop⟩
          (try ((have ho1 : 0 ≤ o := (by omega)); obtain ⟨m, rfl⟩ := Int.eq_ofNat_of_zero_le ho1))
          simp only [msg, comb, beq_self_eq_true, if_true]
          (try simp only [*, if_true, if_false]) <;> first | rfl | simp | (simp; omega)
        · skip
          refine wp_skip ?_
          refine x_then ?_
          refine r_seq ?_
          refine r_region ?_
          refine r_y S H (y_move S rfl rfl) rfl rfl rfl fun a S => ?_
          refine r_y S H (y_move S rfl rfl) rfl rfl rfl fun a S => ?_
          refine r_y S H (y_conv S rfl rfl Try.underlying3 Try.underlying25 (wu64 (by omega) (by omega))) rfl rfl rfl fun a S => ?_
          refine r_y S H (y_quoN S rfl rfl rfl (by omega) (by omega) (wdivu64 (by omega) (by omega) (by omega))) rfl rfl rfl fun a S => ?_
          refine r_y S H (y_assign S rfl rfl) rfl rfl rfl fun a S => ?_
          refine r_nil ?_
          refine x_then ?_
          refine wp_ret ?_
          refine x_blockRet ?_
          refine x_thenRet ?_
          refine r_ret1 S H Try.results21 (ro_tmp S rfl) ?_
          refine ⟨congrArg (Value.int .u64) ?_, H.drop⟩
          (try ((have ho1 : 0 ≤ o := (by omega)); obtain ⟨m, rfl⟩ := Int.eq_ofNat_of_zero_le ho1))
          simp only [msg, comb, beq_self_eq_true, if_true]
          (try simp only [*, if_true, if_false]) <;> first | rfl | simp | (simp; omega)
      · skip
        refine r_seq ?_
        refine r_region ?_
        refine r_y S H (y_eq S rfl rfl rfl) rfl rfl rfl fun a S => ?_
        refine r_y S H (y_assign S rfl rfl) rfl rfl rfl fun a S => ?_
        refine r_nil ?_
        refine x_then ?_
        refine r_test S rfl (fun h29 => ?_) (fun h29 => ?_)
        · skip
          refine r_seq ?_
          refine r_region ?_
          refine r_y S H (y_assign S rfl rfl) rfl rfl rfl fun a S => ?_
          refine r_nil ?_
          refine x_then ?_
          refine wp_ret ?_
          refine x_blockRet ?_
          refine x_thenRet ?_
          refine r_ret1 S H Try.results21 (ro_tmp S rfl) ?_
          refine ⟨congrArg (Value.int .u64) ?_, H.drop⟩
          (try ((have ho1 : 0 ≤ o := (by omega)); obtain ⟨m, rfl⟩ := Int.eq_ofNat_of_zero_le ho1))
          simp only [msg, comb, beq_self_eq_true, if_true]
          (try simp only [*, if_true, if_false]) <;> first | rfl | simp | (simp; omega)
        · skip
          refine wp_skip ?_
          refine x_blockEnd ?_
          refine x_then ?_
          refine r_seq ?_
          refine r_region ?_
          refine r_y S H (y_move S rfl rfl) rfl rfl rfl fun a S => ?_
          refine r_y S H (y_assign S rfl rfl) rfl rfl rfl fun a S => ?_
          refine r_nil ?_
          refine x_then ?_
          refine wp_ret ?_
          refine r_ret1 S H Try.results21 (ro_tmp S rfl) ?_
          refine ⟨congrArg (Value.int .u64) ?_, H.drop⟩
          (try ((have ho1 : 0 ≤ o := (by omega)); obtain ⟨m, rfl⟩ := Int.eq_ofNat_of_zero_le ho1))
          simp only [msg, comb, beq_self_eq_true, if_true]
          (try simp only [*, if_true, if_false]) <;> first | rfl | simp | (simp; omega)

set_option maxHeartbeats 400000 in
set_option maxRecDepth 4000 in
theorem rmessage_ct (w : World) (fr : List Res) (k : Int) (s x : Nat) (o : Int) (ew : Nat) (hx : x < 18446744073709551616) (ho : -9223372036854775808 ≤ o ∧ o < 9223372036854775808) (hw : ew < 4294967296) (H : Sat w (fr)) :
    Rt Try.prog 22 #[.agg #[.int .i64 k, .int .u32 ((s : Nat) : Int)], .int .u64 ((x : Nat) : Int), .int .i64 o, .int .u32 ((ew : Nat) : Int)] w fun v w' => v = .int .u64 ((msg k x o ew : Nat) : Int) ∧ Sat w' fr := by
  refine rt_enter Try.func22 rfl (n := 32) Try.ntmps22 rfl fun a S => ?_
  refine r_seq ?_
  refine r_region ?_
  refine r_box (c := #[.int .i64 k, .int .u32 ((s : Nat) : Int)]) S H rfl rfl rfl rfl rfl rfl fun a w b1 S H => ?_
  refine r_y S H (y_assign S rfl rfl) rfl rfl rfl fun a S => ?_
  refine r_nil ?_
  refine x_then ?_
  refine r_seq ?_
  refine r_seq ?_
  refine r_region ?_
  refine r_y S H (y_fieldAddr S rfl rfl fa24_0) rfl rfl rfl fun a S => ?_
  refine r_y S H (y_load 0 S rfl rfl Try.isAgg3 rfl rfl) rfl rfl rfl fun a S => ?_
  refine r_nil ?_
  refine x_then ?_
  refine r_block ?_
  refine r_seq ?_
  refine r_region ?_
  refine r_y S H (y_eq S rfl rfl rfl) rfl rfl rfl fun a S => ?_
  refine r_y S H (y_assign S rfl rfl) rfl rfl rfl fun a S => ?_
  refine r_nil ?_
  refine x_then ?_
  refine r_test S rfl (fun h11 => ?_) (fun h11 => ?_)
  · skip
    refine r_seq ?_
    refine r_region ?_
    refine r_y S H (y_move S rfl rfl) rfl rfl rfl fun a S => ?_
    refine r_call (args := #[.int .i64 1, .int .u64 ((x : Nat) : Int), .int .u64 1]) S rfl rfl Try.call37 (rcombine_ct (H := H) _ _ 1 x 1 (by omega) (by omega)) rfl rfl rfl fun v a w hR S => ?_
    obtain ⟨rfl, H⟩ := hR
    refine r_y S H (y_assign S rfl rfl) rfl rfl rfl fun a S => ?_
    refine r_nil ?_
    refine x_then ?_
    refine wp_ret ?_
    refine x_blockRet ?_
    refine x_thenRet ?_
    refine r_ret1 S H Try.results22 (ro_tmp S rfl) ?_
    refine ⟨congrArg (Value.int .u64) ?_, H.drop⟩
    (try ((have ho1 : 0 ≤ o := (by omega)); obtain ⟨m, rfl⟩ := Int.eq_ofNat_of_zero_le ho1))
    simp only [msg, comb, beq_self_eq_true, if_true]
    (try simp only [*, if_true, if_false]) <;> first | rfl | simp | (simp; omega)
  · skip
    refine r_seq ?_
    refine r_region ?_
    refine r_y S H (y_eq S rfl rfl rfl) rfl rfl rfl fun a S => ?_
    refine r_y S H (y_assign S rfl rfl) rfl rfl rfl fun a S => ?_
    refine r_nil ?_
    refine x_then ?_
    refine r_test S rfl (fun h15 => ?_) (fun h15 => ?_)
    · skip
      refine r_seq ?_
      refine r_region ?_
      refine r_y S H (y_move S rfl rfl) rfl rfl rfl fun a S => ?_
      refine r_y S H (y_move S rfl rfl) rfl rfl rfl fun a S => ?_
      refine r_y S H (y_conv S rfl rfl Try.underlying22 Try.underlying25 (wu64 (by omega) (by omega))) rfl rfl rfl fun a S => ?_
      refine r_call (args := #[.int .i64 1, .int .u64 ((x : Nat) : Int), .int .u64 ((ew : Nat) : Int)]) S rfl rfl Try.call37 (rcombine_ct (H := H) _ _ 1 x ew (by omega) (by omega)) rfl rfl rfl fun v a w hR S => ?_
      obtain ⟨rfl, H⟩ := hR
      refine r_y S H (y_assign S rfl rfl) rfl rfl rfl fun a S => ?_
      refine r_nil ?_
      refine x_then ?_
      refine wp_ret ?_
      refine x_blockRet ?_
      refine x_thenRet ?_
      refine r_ret1 S H Try.results22 (ro_tmp S rfl) ?_
      refine ⟨congrArg (Value.int .u64) ?_, H.drop⟩
      (try ((have ho1 : 0 ≤ o := (by omega)); obtain ⟨m, rfl⟩ := Int.eq_ofNat_of_zero_le ho1))
      simp only [msg, comb, beq_self_eq_true, if_true]
      (try simp only [*, if_true, if_false]) <;> first | rfl | simp | (simp; omega)
    · skip
      refine r_seq ?_
      refine r_region ?_
      refine r_y S H (y_eq S rfl rfl rfl) rfl rfl rfl fun a S => ?_
      refine r_y S H (y_assign S rfl rfl) rfl rfl rfl fun a S => ?_
      refine r_nil ?_
      refine x_then ?_
      refine r_test S rfl (fun h21 => ?_) (fun h21 => ?_)
      · skip
        refine r_seq ?_
        refine r_seq ?_
        refine r_region ?_
        refine r_y S H (y_move S rfl rfl) rfl rfl rfl fun a S => ?_
        refine r_y S H (y_lt S rfl rfl rfl) rfl rfl rfl fun a S => ?_
        refine r_nil ?_
        refine x_then ?_
        refine r_test S rfl (fun h24 => ?_) (fun h24 => ?_)
        · skip
          refine r_seq ?_
          refine r_region ?_
          refine r_y S H (y_assign S rfl rfl) rfl rfl rfl fun a S => ?_
          refine r_nil ?_
          refine x_then ?_
          refine wp_ret ?_
          refine x_thenRet ?_
          refine x_blockRet ?_
          refine x_thenRet ?_
          refine r_ret1 S H Try.results22 (ro_tmp S rfl) ?_
          refine ⟨congrArg (Value.int .u64) ?_, H.drop⟩
          (try ((have ho1 : 0 ≤ o := (by omega)); obtain ⟨m, rfl⟩ := Int.eq_ofNat_of_zero_le ho1))
          simp only [msg, comb, beq_self_eq_true, if_true]
          (try simp only [*, if_true, if_false]) <;> first | rfl | simp | (simp; omega)
        · skip
          refine wp_skip ?_
          refine x_then ?_
          refine r_seq ?_
          refine r_region ?_
          refine r_y S H (y_move S rfl rfl) rfl rfl rfl fun a S => ?_
          refine r_y S H (y_move S rfl rfl) rfl rfl rfl fun a S => ?_
          refine r_y S H (y_conv S rfl rfl Try.underlying3 Try.underlying25 (wu64 (by omega) (by omega))) rfl rfl rfl fun a S => ?_
          refine r_y S H (y_quoN S rfl rfl rfl (by omega) (by omega) (wdivu64 (by omega) (by omega) (by omega))) rfl rfl rfl fun a S => ?_
          refine r_y S H (y_assign S rfl rfl) rfl rfl rfl fun a S => ?_
          refine r_nil ?_
          refine x_then ?_
          refine wp_ret ?_
          refine x_blockRet ?_
          refine x_thenRet ?_
          refine r_ret1 S H Try.results22 (ro_tmp S rfl) ?_
          refine ⟨congrArg (Value.int .u64) ?_, H.drop⟩
          (try ((have ho1 : 0 ≤ o := (by omega)); obtain ⟨m, rfl⟩ := Int.eq_ofNat_of_zero_le ho1))
          simp only [msg, comb, beq_self_eq_true, if_true]
          (try simp only [*, if_true, if_false]) <;> first | rfl | simp | (simp; omega)
      · skip
        refine r_seq ?_
        refine r_region ?_
        refine r_y S H (y_eq S rfl rfl rfl) rfl rfl rfl fun a S => ?_
        refine r_y S H (y_assign S rfl rfl) rfl rfl rfl fun a S => ?_
        refine r_nil ?_
        refine x_then ?_
        refine r_test S rfl (fun h29 => ?_) (fun h29 => ?_)
        · skip
          refine r_seq ?_
          refine r_region ?_
          refine r_y S H (y_assign S rfl rfl) rfl rfl rfl fun a S => ?_
          refine r_nil ?_
          refine x_then ?_
          refine wp_ret ?_
          refine x_blockRet ?_
          refine x_thenRet ?_
          refine r_ret1 S H Try.results22 (ro_tmp S rfl) ?_
          refine ⟨congrArg (Value.int .u64) ?_, H.drop⟩
          (try ((have ho1 : 0 ≤ o := (by omega)); obtain ⟨m, rfl⟩ := Int.eq_ofNat_of_zero_le ho1))
          simp only [msg, comb, beq_self_eq_true, if_true]
          (try simp only [*, if_true, if_false]) <;> first | rfl | simp | (simp; omega)
        · skip
          refine wp_skip ?_
          refine x_blockEnd ?_
          refine x_then ?_
          refine r_seq ?_
          refine r_region ?_
          refine r_y S H (y_move S rfl rfl) rfl rfl rfl fun a S => ?_
          refine r_y S H (y_assign S rfl rfl) rfl rfl rfl fun a S => ?_
          refine r_nil ?_
          refine x_then ?_
          refine wp_ret ?_
          refine r_ret1 S H Try.results22 (ro_tmp S rfl) ?_
          refine ⟨congrArg (Value.int .u64) ?_, H.drop⟩
          (try ((have ho1 : 0 ≤ o := (by omega)); obtain ⟨m, rfl⟩ := Int.eq_ofNat_of_zero_le ho1))
          simp only [msg, comb, beq_self_eq_true, if_true]
          (try simp only [*, if_true, if_false]) <;> first | rfl | simp | (simp; omega)

set_option maxHeartbeats 400000 in
set_option maxRecDepth 4000 in
theorem next_ct (w : World) (fr : List Res) (k : Int) (s x y : Nat) (b : Bool) (hx : x < 18446744073709551616) (hy : y < 18446744073709551616) (H : Sat w (fr)) :
    Rt Try.prog 17 #[.agg #[.int .i64 k, .int .u32 ((s : Nat) : Int)], .int .u64 ((x : Nat) : Int), .int .u64 ((y : Nat) : Int), .bool b] w fun v w' => v = .tuple #[.int .u64 (((nxt k x y b).1 : Nat) : Int), .bool (nxt k x y b).2] ∧ Sat w' fr := by
  refine rt_enter Try.func17 rfl (n := 36) Try.ntmps17 rfl fun a S => ?_
  refine r_seq ?_
  refine r_region ?_
  refine r_box (c := #[.int .i64 k, .int .u32 ((s : Nat) : Int)]) S H rfl rfl rfl rfl rfl rfl fun a w b1 S H => ?_
  refine r_y S H (y_assign S rfl rfl) rfl rfl rfl fun a S => ?_
  refine r_y S H (y_assign S rfl rfl) rfl rfl rfl fun a S => ?_
  refine r_nil ?_
  refine x_then ?_
  refine r_seq ?_
  refine r_seq ?_
  refine r_region ?_
  refine r_y S H (y_move S rfl rfl) rfl rfl rfl fun a S => ?_
  refine r_y S H (y_not S rfl rfl) rfl rfl rfl fun a S => ?_
  refine r_nil ?_
  refine x_then ?_
  refine r_cond S rfl (fun h12 => ?_) (fun h12 => ?_)
  · skip
    refine r_region ?_
    refine r_y S H (y_assign S rfl rfl) rfl rfl rfl fun a S => ?_
    refine r_nil ?_
    refine x_then ?_
    refine r_seq ?_
    refine r_seq ?_
    refine r_region ?_
    refine r_y S H (y_fieldAddr S rfl rfl fa24_0) rfl rfl rfl fun a S => ?_
    refine r_y S H (y_load 0 S rfl rfl Try.isAgg3 rfl rfl) rfl rfl rfl fun a S => ?_
    refine r_nil ?_
    refine x_then ?_
    refine r_block ?_
    refine r_seq ?_
    refine r_region ?_
    refine r_y S H (y_eq S rfl rfl rfl) rfl rfl rfl fun a S => ?_
    refine r_y S H (y_assign S rfl rfl) rfl rfl rfl fun a S => ?_
    refine r_nil ?_
    refine x_then ?_
    refine r_test S rfl (fun h15 => ?_) (fun h15 => ?_)
    · skip
      refine r_seq ?_
      refine r_region ?_
      refine r_y S H (y_move S rfl rfl) rfl rfl rfl fun a S => ?_
      refine r_y S H (y_quoN S rfl rfl rfl (by omega) (by omega) (wdivu64 (by omega) (by omega) (by omega))) rfl rfl rfl fun a S => ?_
      refine r_y S H (y_mul S rfl rfl rfl (wu64 (by omega) (by omega))) rfl rfl rfl fun a S => ?_
      refine r_y S H (y_add S rfl rfl rfl (wu64 (by omega) (by omega))) rfl rfl rfl fun a S => ?_
      refine r_y S H (y_assign S rfl rfl) rfl rfl rfl fun a S => ?_
      refine r_nil ?_
      refine x_then ?_
      refine r_seq ?_
      refine r_region ?_
      refine r_y S H (y_move S rfl rfl) rfl rfl rfl fun a S => ?_
      refine r_y S H (y_move S rfl rfl) rfl rfl rfl fun a S => ?_
      refine r_y S H (y_move S rfl rfl) rfl rfl rfl fun a S => ?_
      refine r_y S H (y_ne S rfl rfl rfl) rfl rfl rfl fun a S => ?_
      refine r_y S H (y_assign S rfl rfl) rfl rfl rfl fun a S => ?_
      refine r_y S H (y_assign S rfl rfl) rfl rfl rfl fun a S => ?_
      refine r_nil ?_
      refine x_then ?_
      refine wp_ret ?_
      refine x_blockRet ?_
      refine x_thenRet ?_
      refine r_ret2 S H Try.results17 (ro_tmp S rfl) (ro_tmp S rfl) ?_
      refine ⟨?_, H.drop⟩
      have hb : b = false := by simpa using h12
      subst hb
      rw [nxt4 h15]
      refine tup_ub ?_ ?_
      · simp
      · simp; try omega
    · skip
      refine r_seq ?_
      refine r_region ?_
      refine r_y S H (y_eq S rfl rfl rfl) rfl rfl rfl fun a S => ?_
      refine r_y S H (y_assign S rfl rfl) rfl rfl rfl fun a S => ?_
      refine r_nil ?_
      refine x_then ?_
      refine r_test S rfl (fun h25 => ?_) (fun h25 => ?_)
      · skip
        refine r_seq ?_
        refine r_region ?_
        refine r_y S H (y_move S rfl rfl) rfl rfl rfl fun a S => ?_
        refine r_y S H (y_assign S rfl rfl) rfl rfl rfl fun a S => ?_
        refine r_y S H (y_assign S rfl rfl) rfl rfl rfl fun a S => ?_
        refine r_nil ?_
        refine x_then ?_
        refine wp_ret ?_
        refine x_blockRet ?_
        refine x_thenRet ?_
        refine r_ret2 S H Try.results17 (ro_tmp S rfl) (ro_tmp S rfl) ?_
        refine ⟨?_, H.drop⟩
        have hb : b = false := by simpa using h12
        subst hb
        rw [nxt5 h25]
        rfl
      · skip
        refine wp_skip ?_
        refine x_blockEnd ?_
        refine x_then ?_
        refine r_seq ?_
        refine r_seq ?_
        refine wp_via (J := fun a w => Slots a 36 [(0, .agg #[.int .i64 k, .int .u32 ((s : Nat) : Int)]), (1, .int .u64 ((x : Nat) : Int)), (2, .int .u64 0), (3, .bool b), (4, .pointer (some ⟨b1, 0, none⟩)), (8, .int .u64 0), (9, .bool false), (11, .bool b), (12, .bool (!b)), (13, .pointer (some ⟨b1, 0, none⟩)), (14, .int .i64 k), (15, .bool (decide (k = 4))), (16, .bool (decide (k = 4))), (25, .bool (decide (k = 5))), (26, .bool (decide (k = 5))), (33, .bool (b && (decide (0 < ((x : Nat) : Int)))))] ∧ Sat w (blk b1 (.cells #[.int .i64 k, .int .u32 ((s : Nat) : Int)] 24) :: fr)) ?_ (fun a w hm => ?_)
        · skip
          refine r_region ?_
          refine r_y S H (y_move S rfl rfl) rfl rfl rfl fun a S => ?_
          refine r_y S H (y_move S rfl rfl) rfl rfl rfl fun a S => ?_
          refine splitB S (d := 29) rfl (fun g29 S => ?_) (fun g29 S => ?_)
          · skip
            refine r_y S H (y_move S rfl rfl) rfl rfl rfl fun a S => ?_
            refine r_y S H (y_move S rfl rfl) rfl rfl rfl fun a S => ?_
            refine r_y S H (y_lt S rfl rfl rfl) rfl rfl rfl fun a S => ?_
            refine r_y S H (y_pickT S rfl rfl rfl) rfl rfl rfl fun a S => ?_
            refine r_nil ?_
            refine x_then ?_
            exact ⟨S.sub ⟨rfl, rfl, rfl, rfl, rfl, rfl, rfl, rfl, rfl, rfl, rfl, rfl, rfl, rfl, rfl, (show lk _ _ = some (.bool (decide (0 < ((x : Nat) : Int)))) from rfl).trans (by first | (simp only [g29, decide_true, decide_false, Bool.true_and, Bool.false_and, Bool.true_or, Bool.false_or]; done) | (simp [-List.getD_eq_getElem?_getD, g29]; done) | (simp [-List.getD_eq_getElem?_getD, g29]; omega)), trivial⟩, H⟩
          · skip
            refine r_skip S rfl rfl rfl fun a S => ?_
            refine r_skip S rfl rfl rfl fun a S => ?_
            refine r_skip S rfl rfl rfl fun a S => ?_
            refine r_y S H (y_pickF S rfl rfl rfl) rfl rfl rfl fun a S => ?_
            refine r_nil ?_
            refine x_then ?_
            exact ⟨S.sub ⟨rfl, rfl, rfl, rfl, rfl, rfl, rfl, rfl, rfl, rfl, rfl, rfl, rfl, rfl, rfl, (show lk _ _ = some (.bool false) from rfl).trans (by first | (simp only [g29, decide_true, decide_false, Bool.true_and, Bool.false_and, Bool.true_or, Bool.false_or]; done) | (simp [-List.getD_eq_getElem?_getD, g29]; done) | (simp [-List.getD_eq_getElem?_getD, g29]; omega)), trivial⟩, H⟩
        obtain ⟨S, H⟩ := hm
        refine x_then ?_
        refine r_cond S rfl (fun h33 => ?_) (fun h33 => ?_)
        · skip
          refine r_seq ?_
          refine r_region ?_
          refine r_y S H (y_move S rfl rfl) rfl rfl rfl fun a S => ?_
          refine r_y S H (y_assign S rfl rfl) rfl rfl rfl fun a S => ?_
          refine r_y S H (y_assign S rfl rfl) rfl rfl rfl fun a S => ?_
          refine r_nil ?_
          refine x_then ?_
          refine wp_ret ?_
          refine x_thenRet ?_
          refine r_ret2 S H Try.results17 (ro_tmp S rfl) (ro_tmp S rfl) ?_
          refine ⟨?_, H.drop⟩
          have hb : b = false := by simpa using h12
          simp only [Bool.and_eq_true, decide_eq_true_eq] at h33
          rw [nxtT h15 h25 h33.1 (by have := h33.2; first | omega | (rw [hb] at h33; simp at h33))]
          all_goals first | rfl | (rw [hb] at h33; simp at h33)
        · skip
          refine wp_skip ?_
          refine x_then ?_
          refine r_seq ?_
          refine r_region ?_
          refine r_y S H (y_move S rfl rfl) rfl rfl rfl fun a S => ?_
          refine r_y S H (y_assign S rfl rfl) rfl rfl rfl fun a S => ?_
          refine r_y S H (y_assign S rfl rfl) rfl rfl rfl fun a S => ?_
          refine r_nil ?_
          refine x_then ?_
          refine wp_ret ?_
          refine r_ret2 S H Try.results17 (ro_tmp S rfl) (ro_tmp S rfl) ?_
          refine ⟨?_, H.drop⟩
          have hb : b = false := by simpa using h12
          simp only [Bool.and_eq_false_iff, decide_eq_false_iff_not] at h33
          rw [nxtF h15 h25 (fun e => by rcases h33 with h | h; (rw [e] at h; cases h); (first | omega | (rw [hb] at e; cases e)))]
  · skip
    refine wp_skip ?_
    refine x_then ?_
    refine r_seq ?_
    refine r_seq ?_
    refine r_region ?_
    refine r_y S H (y_fieldAddr S rfl rfl fa24_0) rfl rfl rfl fun a S => ?_
    refine r_y S H (y_load 0 S rfl rfl Try.isAgg3 rfl rfl) rfl rfl rfl fun a S => ?_
    refine r_nil ?_
    refine x_then ?_
    refine r_block ?_
    refine r_seq ?_
    refine r_region ?_
    refine r_y S H (y_eq S rfl rfl rfl) rfl rfl rfl fun a S => ?_
    refine r_y S H (y_assign S rfl rfl) rfl rfl rfl fun a S => ?_
    refine r_nil ?_
    refine x_then ?_
    refine r_test S rfl (fun h15 => ?_) (fun h15 => ?_)
    · skip
      refine r_seq ?_
      refine r_region ?_
      refine r_y S H (y_move S rfl rfl) rfl rfl rfl fun a S => ?_
      refine r_y S H (y_quoN S rfl rfl rfl (by omega) (by omega) (wdivu64 (by omega) (by omega) (by omega))) rfl rfl rfl fun a S => ?_
      refine r_y S H (y_mul S rfl rfl rfl (wu64 (by omega) (by omega))) rfl rfl rfl fun a S => ?_
      refine r_y S H (y_add S rfl rfl rfl (wu64 (by omega) (by omega))) rfl rfl rfl fun a S => ?_
      refine r_y S H (y_assign S rfl rfl) rfl rfl rfl fun a S => ?_
      refine r_nil ?_
      refine x_then ?_
      refine r_seq ?_
      refine r_region ?_
      refine r_y S H (y_move S rfl rfl) rfl rfl rfl fun a S => ?_
      refine r_y S H (y_move S rfl rfl) rfl rfl rfl fun a S => ?_
      refine r_y S H (y_move S rfl rfl) rfl rfl rfl fun a S => ?_
      refine r_y S H (y_ne S rfl rfl rfl) rfl rfl rfl fun a S => ?_
      refine r_y S H (y_assign S rfl rfl) rfl rfl rfl fun a S => ?_
      refine r_y S H (y_assign S rfl rfl) rfl rfl rfl fun a S => ?_
      refine r_nil ?_
      refine x_then ?_
      refine wp_ret ?_
      refine x_blockRet ?_
      refine x_thenRet ?_
      refine r_ret2 S H Try.results17 (ro_tmp S rfl) (ro_tmp S rfl) ?_
      refine ⟨?_, H.drop⟩
      have hb : b = true := by simpa using h12
      subst hb
      rw [nxt4 h15]
      refine tup_ub ?_ ?_
      · simp
      · simp; try omega
    · skip
      refine r_seq ?_
      refine r_region ?_
      refine r_y S H (y_eq S rfl rfl rfl) rfl rfl rfl fun a S => ?_
      refine r_y S H (y_assign S rfl rfl) rfl rfl rfl fun a S => ?_
      refine r_nil ?_
      refine x_then ?_
      refine r_test S rfl (fun h25 => ?_) (fun h25 => ?_)
      · skip
        refine r_seq ?_
        refine r_region ?_
        refine r_y S H (y_move S rfl rfl) rfl rfl rfl fun a S => ?_
        refine r_y S H (y_assign S rfl rfl) rfl rfl rfl fun a S => ?_
        refine r_y S H (y_assign S rfl rfl) rfl rfl rfl fun a S => ?_
        refine r_nil ?_
        refine x_then ?_
        refine wp_ret ?_
        refine x_blockRet ?_
        refine x_thenRet ?_
        refine r_ret2 S H Try.results17 (ro_tmp S rfl) (ro_tmp S rfl) ?_
        refine ⟨?_, H.drop⟩
        have hb : b = true := by simpa using h12
        subst hb
        rw [nxt5 h25]
        rfl
      · skip
        refine wp_skip ?_
        refine x_blockEnd ?_
        refine x_then ?_
        refine r_seq ?_
        refine r_seq ?_
        refine wp_via (J := fun a w => Slots a 36 [(0, .agg #[.int .i64 k, .int .u32 ((s : Nat) : Int)]), (1, .int .u64 ((x : Nat) : Int)), (2, .int .u64 ((y : Nat) : Int)), (3, .bool b), (4, .pointer (some ⟨b1, 0, none⟩)), (8, .int .u64 0), (9, .bool false), (11, .bool b), (12, .bool (!b)), (13, .pointer (some ⟨b1, 0, none⟩)), (14, .int .i64 k), (15, .bool (decide (k = 4))), (16, .bool (decide (k = 4))), (25, .bool (decide (k = 5))), (26, .bool (decide (k = 5))), (33, .bool (b && (decide (((y : Nat) : Int) < ((x : Nat) : Int)))))] ∧ Sat w (blk b1 (.cells #[.int .i64 k, .int .u32 ((s : Nat) : Int)] 24) :: fr)) ?_ (fun a w hm => ?_)
        · skip
          refine r_region ?_
          refine r_y S H (y_move S rfl rfl) rfl rfl rfl fun a S => ?_
          refine r_y S H (y_move S rfl rfl) rfl rfl rfl fun a S => ?_
          refine splitB S (d := 29) rfl (fun g29 S => ?_) (fun g29 S => ?_)
          · skip
            refine r_y S H (y_move S rfl rfl) rfl rfl rfl fun a S => ?_
            refine r_y S H (y_move S rfl rfl) rfl rfl rfl fun a S => ?_
            refine r_y S H (y_lt S rfl rfl rfl) rfl rfl rfl fun a S => ?_
            refine r_y S H (y_pickT S rfl rfl rfl) rfl rfl rfl fun a S => ?_
            refine r_nil ?_
            refine x_then ?_
            exact ⟨S.sub ⟨rfl, rfl, rfl, rfl, rfl, rfl, rfl, rfl, rfl, rfl, rfl, rfl, rfl, rfl, rfl, (show lk _ _ = some (.bool (decide (((y : Nat) : Int) < ((x : Nat) : Int)))) from rfl).trans (by first | (simp only [g29, decide_true, decide_false, Bool.true_and, Bool.false_and, Bool.true_or, Bool.false_or]; done) | (simp [-List.getD_eq_getElem?_getD, g29]; done) | (simp [-List.getD_eq_getElem?_getD, g29]; omega)), trivial⟩, H⟩
          · skip
            refine r_skip S rfl rfl rfl fun a S => ?_
            refine r_skip S rfl rfl rfl fun a S => ?_
            refine r_skip S rfl rfl rfl fun a S => ?_
            refine r_y S H (y_pickF S rfl rfl rfl) rfl rfl rfl fun a S => ?_
            refine r_nil ?_
            refine x_then ?_
            exact ⟨S.sub ⟨rfl, rfl, rfl, rfl, rfl, rfl, rfl, rfl, rfl, rfl, rfl, rfl, rfl, rfl, rfl, (show lk _ _ = some (.bool false) from rfl).trans (by first | (simp only [g29, decide_true, decide_false, Bool.true_and, Bool.false_and, Bool.true_or, Bool.false_or]; done) | (simp [-List.getD_eq_getElem?_getD, g29]; done) | (simp [-List.getD_eq_getElem?_getD, g29]; omega)), trivial⟩, H⟩
        obtain ⟨S, H⟩ := hm
        refine x_then ?_
        refine r_cond S rfl (fun h33 => ?_) (fun h33 => ?_)
        · skip
          refine r_seq ?_
          refine r_region ?_
          refine r_y S H (y_move S rfl rfl) rfl rfl rfl fun a S => ?_
          refine r_y S H (y_assign S rfl rfl) rfl rfl rfl fun a S => ?_
          refine r_y S H (y_assign S rfl rfl) rfl rfl rfl fun a S => ?_
          refine r_nil ?_
          refine x_then ?_
          refine wp_ret ?_
          refine x_thenRet ?_
          refine r_ret2 S H Try.results17 (ro_tmp S rfl) (ro_tmp S rfl) ?_
          refine ⟨?_, H.drop⟩
          have hb : b = true := by simpa using h12
          simp only [Bool.and_eq_true, decide_eq_true_eq] at h33
          rw [nxtT h15 h25 h33.1 (by have := h33.2; first | omega | (rw [hb] at h33; simp at h33))]
          all_goals first | rfl | (rw [hb] at h33; simp at h33)
        · skip
          refine wp_skip ?_
          refine x_then ?_
          refine r_seq ?_
          refine r_region ?_
          refine r_y S H (y_move S rfl rfl) rfl rfl rfl fun a S => ?_
          refine r_y S H (y_assign S rfl rfl) rfl rfl rfl fun a S => ?_
          refine r_y S H (y_assign S rfl rfl) rfl rfl rfl fun a S => ?_
          refine r_nil ?_
          refine x_then ?_
          refine wp_ret ?_
          refine r_ret2 S H Try.results17 (ro_tmp S rfl) (ro_tmp S rfl) ?_
          refine ⟨?_, H.drop⟩
          have hb : b = true := by simpa using h12
          simp only [Bool.and_eq_false_iff, decide_eq_false_iff_not] at h33
          rw [nxtF h15 h25 (fun e => by rcases h33 with h | h; (rw [e] at h; cases h); (first | omega | (rw [hb] at e; cases e)))]

set_option maxHeartbeats 400000 in
set_option maxRecDepth 4000 in
theorem rnext_ct (w : World) (fr : List Res) (k : Int) (s x y : Nat) (b : Bool) (hx : x < 18446744073709551616) (hy : y < 18446744073709551616) (H : Sat w (fr)) :
    Rt Try.prog 18 #[.agg #[.int .i64 k, .int .u32 ((s : Nat) : Int)], .int .u64 ((x : Nat) : Int), .int .u64 ((y : Nat) : Int), .bool b] w fun v w' => v = .tuple #[.int .u64 (((nxt k x y b).1 : Nat) : Int), .bool (nxt k x y b).2] ∧ Sat w' fr := by
  refine rt_enter Try.func18 rfl (n := 36) Try.ntmps18 rfl fun a S => ?_
  refine r_seq ?_
  refine r_region ?_
  refine r_box (c := #[.int .i64 k, .int .u32 ((s : Nat) : Int)]) S H rfl rfl rfl rfl rfl rfl fun a w b1 S H => ?_
  refine r_y S H (y_assign S rfl rfl) rfl rfl rfl fun a S => ?_
  refine r_y S H (y_assign S rfl rfl) rfl rfl rfl fun a S => ?_
  refine r_nil ?_
  refine x_then ?_
  refine r_seq ?_
  refine r_seq ?_
  refine r_region ?_
  refine r_y S H (y_move S rfl rfl) rfl rfl rfl fun a S => ?_
  refine r_y S H (y_not S rfl rfl) rfl rfl rfl fun a S => ?_
  refine r_nil ?_
  refine x_then ?_
  refine r_cond S rfl (fun h12 => ?_) (fun h12 => ?_)
  · skip
    refine r_region ?_
    refine r_y S H (y_assign S rfl rfl) rfl rfl rfl fun a S => ?_
    refine r_nil ?_
    refine x_then ?_
    refine r_seq ?_
    refine r_seq ?_
    refine r_region ?_
    refine r_y S H (y_fieldAddr S rfl rfl fa24_0) rfl rfl rfl fun a S => ?_
    refine r_y S H (y_load 0 S rfl rfl Try.isAgg3 rfl rfl) rfl rfl rfl fun a S => ?_
    refine r_nil ?_
    refine x_then ?_
    refine r_block ?_
    refine r_seq ?_
    refine r_region ?_
    refine r_y S H (y_eq S rfl rfl rfl) rfl rfl rfl fun a S => ?_
    refine r_y S H (y_assign S rfl rfl) rfl rfl rfl fun a S => ?_
    refine r_nil ?_
    refine x_then ?_
    refine r_test S rfl (fun h15 => ?_) (fun h15 => ?_)
    · skip
      refine r_seq ?_
      refine r_region ?_
      refine r_y S H (y_move S rfl rfl) rfl rfl rfl fun a S => ?_
      refine r_y S H (y_quoN S rfl rfl rfl (by omega) (by omega) (wdivu64 (by omega) (by omega) (by omega))) rfl rfl rfl fun a S => ?_
      refine r_y S H (y_mul S rfl rfl rfl (wu64 (by omega) (by omega))) rfl rfl rfl fun a S => ?_
      refine r_y S H (y_add S rfl rfl rfl (wu64 (by omega) (by omega))) rfl rfl rfl fun a S => ?_
      refine r_y S H (y_assign S rfl rfl) rfl rfl rfl fun a S => ?_
      refine r_nil ?_
      refine x_then ?_
      refine r_seq ?_
      refine r_region ?_
      refine r_y S H (y_move S rfl rfl) rfl rfl rfl fun a S => ?_
      refine r_y S H (y_move S rfl rfl) rfl rfl rfl fun a S => ?_
      refine r_y S H (y_move S rfl rfl) rfl rfl rfl fun a S => ?_
      refine r_y S H (y_ne S rfl rfl rfl) rfl rfl rfl fun a S => ?_
      refine r_y S H (y_assign S rfl rfl) rfl rfl rfl fun a S => ?_
      refine r_y S H (y_assign S rfl rfl) rfl rfl rfl fun a S => ?_
      refine r_nil ?_
      refine x_then ?_
      refine wp_ret ?_
      refine x_blockRet ?_
      refine x_thenRet ?_
      refine r_ret2 S H Try.results18 (ro_tmp S rfl) (ro_tmp S rfl) ?_
      refine ⟨?_, H.drop⟩
      have hb : b = false := by simpa using h12
      subst hb
      rw [nxt4 h15]
      refine tup_ub ?_ ?_
      · simp
      · simp; try omega
    · skip
      refine r_seq ?_
      refine r_region ?_
      refine r_y S H (y_eq S rfl rfl rfl) rfl rfl rfl fun a S => ?_
      refine r_y S H (y_assign S rfl rfl) rfl rfl rfl fun a S => ?_
      refine r_nil ?_
      refine x_then ?_
      refine r_test S rfl (fun h25 => ?_) (fun h25 => ?_)
      · skip
        refine r_seq ?_
        refine r_region ?_
        refine r_y S H (y_move S rfl rfl) rfl rfl rfl fun a S => ?_
        refine r_y S H (y_assign S rfl rfl) rfl rfl rfl fun a S => ?_
        refine r_y S H (y_assign S rfl rfl) rfl rfl rfl fun a S => ?_
        refine r_nil ?_
        refine x_then ?_
        refine wp_ret ?_
        refine x_blockRet ?_
        refine x_thenRet ?_
        refine r_ret2 S H Try.results18 (ro_tmp S rfl) (ro_tmp S rfl) ?_
        refine ⟨?_, H.drop⟩
        have hb : b = false := by simpa using h12
        subst hb
        rw [nxt5 h25]
        rfl
      · skip
        refine wp_skip ?_
        refine x_blockEnd ?_
        refine x_then ?_
        refine r_seq ?_
        refine r_seq ?_
        refine wp_via (J := fun a w => Slots a 36 [(0, .agg #[.int .i64 k, .int .u32 ((s : Nat) : Int)]), (1, .int .u64 ((x : Nat) : Int)), (2, .int .u64 0), (3, .bool b), (4, .pointer (some ⟨b1, 0, none⟩)), (8, .int .u64 0), (9, .bool false), (11, .bool b), (12, .bool (!b)), (13, .pointer (some ⟨b1, 0, none⟩)), (14, .int .i64 k), (15, .bool (decide (k = 4))), (16, .bool (decide (k = 4))), (25, .bool (decide (k = 5))), (26, .bool (decide (k = 5))), (33, .bool (b && (decide (0 < ((x : Nat) : Int)))))] ∧ Sat w (blk b1 (.cells #[.int .i64 k, .int .u32 ((s : Nat) : Int)] 24) :: fr)) ?_ (fun a w hm => ?_)
        · skip
          refine r_region ?_
          refine r_y S H (y_move S rfl rfl) rfl rfl rfl fun a S => ?_
          refine r_y S H (y_move S rfl rfl) rfl rfl rfl fun a S => ?_
          refine splitB S (d := 29) rfl (fun g29 S => ?_) (fun g29 S => ?_)
          · skip
            refine r_y S H (y_move S rfl rfl) rfl rfl rfl fun a S => ?_
            refine r_y S H (y_move S rfl rfl) rfl rfl rfl fun a S => ?_
            refine r_y S H (y_lt S rfl rfl rfl) rfl rfl rfl fun a S => ?_
            refine r_y S H (y_pickT S rfl rfl rfl) rfl rfl rfl fun a S => ?_
            refine r_nil ?_
            refine x_then ?_
            exact ⟨S.sub ⟨rfl, rfl, rfl, rfl, rfl, rfl, rfl, rfl, rfl, rfl, rfl, rfl, rfl, rfl, rfl, (show lk _ _ = some (.bool (decide (0 < ((x : Nat) : Int)))) from rfl).trans (by first | (simp only [g29, decide_true, decide_false, Bool.true_and, Bool.false_and, Bool.true_or, Bool.false_or]; done) | (simp [-List.getD_eq_getElem?_getD, g29]; done) | (simp [-List.getD_eq_getElem?_getD, g29]; omega)), trivial⟩, H⟩
          · skip
            refine r_skip S rfl rfl rfl fun a S => ?_
            refine r_skip S rfl rfl rfl fun a S => ?_
            refine r_skip S rfl rfl rfl fun a S => ?_
            refine r_y S H (y_pickF S rfl rfl rfl) rfl rfl rfl fun a S => ?_
            refine r_nil ?_
            refine x_then ?_
            exact ⟨S.sub ⟨rfl, rfl, rfl, rfl, rfl, rfl, rfl, rfl, rfl, rfl, rfl, rfl, rfl, rfl, rfl, (show lk _ _ = some (.bool false) from rfl).trans (by first | (simp only [g29, decide_true, decide_false, Bool.true_and, Bool.false_and, Bool.true_or, Bool.false_or]; done) | (simp [-List.getD_eq_getElem?_getD, g29]; done) | (simp [-List.getD_eq_getElem?_getD, g29]; omega)), trivial⟩, H⟩
        obtain ⟨S, H⟩ := hm
        refine x_then ?_
        refine r_cond S rfl (fun h33 => ?_) (fun h33 => ?_)
        · skip
          refine r_seq ?_
          refine r_region ?_
          refine r_y S H (y_move S rfl rfl) rfl rfl rfl fun a S => ?_
          refine r_y S H (y_assign S rfl rfl) rfl rfl rfl fun a S => ?_
          refine r_y S H (y_assign S rfl rfl) rfl rfl rfl fun a S => ?_
          refine r_nil ?_
          refine x_then ?_
          refine wp_ret ?_
          refine x_thenRet ?_
          refine r_ret2 S H Try.results18 (ro_tmp S rfl) (ro_tmp S rfl) ?_
          refine ⟨?_, H.drop⟩
          have hb : b = false := by simpa using h12
          simp only [Bool.and_eq_true, decide_eq_true_eq] at h33
          rw [nxtT h15 h25 h33.1 (by have := h33.2; first | omega | (rw [hb] at h33; simp at h33))]
          all_goals first | rfl | (rw [hb] at h33; simp at h33)
        · skip
          refine wp_skip ?_
          refine x_then ?_
          refine r_seq ?_
          refine r_region ?_
          refine r_y S H (y_move S rfl rfl) rfl rfl rfl fun a S => ?_
          refine r_y S H (y_assign S rfl rfl) rfl rfl rfl fun a S => ?_
          refine r_y S H (y_assign S rfl rfl) rfl rfl rfl fun a S => ?_
          refine r_nil ?_
          refine x_then ?_
          refine wp_ret ?_
          refine r_ret2 S H Try.results18 (ro_tmp S rfl) (ro_tmp S rfl) ?_
          refine ⟨?_, H.drop⟩
          have hb : b = false := by simpa using h12
          simp only [Bool.and_eq_false_iff, decide_eq_false_iff_not] at h33
          rw [nxtF h15 h25 (fun e => by rcases h33 with h | h; (rw [e] at h; cases h); (first | omega | (rw [hb] at e; cases e)))]
  · skip
    refine wp_skip ?_
    refine x_then ?_
    refine r_seq ?_
    refine r_seq ?_
    refine r_region ?_
    refine r_y S H (y_fieldAddr S rfl rfl fa24_0) rfl rfl rfl fun a S => ?_
    refine r_y S H (y_load 0 S rfl rfl Try.isAgg3 rfl rfl) rfl rfl rfl fun a S => ?_
    refine r_nil ?_
    refine x_then ?_
    refine r_block ?_
    refine r_seq ?_
    refine r_region ?_
    refine r_y S H (y_eq S rfl rfl rfl) rfl rfl rfl fun a S => ?_
    refine r_y S H (y_assign S rfl rfl) rfl rfl rfl fun a S => ?_
    refine r_nil ?_
    refine x_then ?_
    refine r_test S rfl (fun h15 => ?_) (fun h15 => ?_)
    · skip
      refine r_seq ?_
      refine r_region ?_
      refine r_y S H (y_move S rfl rfl) rfl rfl rfl fun a S => ?_
      refine r_y S H (y_quoN S rfl rfl rfl (by omega) (by omega) (wdivu64 (by omega) (by omega) (by omega))) rfl rfl rfl fun a S => ?_
      refine r_y S H (y_mul S rfl rfl rfl (wu64 (by omega) (by omega))) rfl rfl rfl fun a S => ?_
      refine r_y S H (y_add S rfl rfl rfl (wu64 (by omega) (by omega))) rfl rfl rfl fun a S => ?_
      refine r_y S H (y_assign S rfl rfl) rfl rfl rfl fun a S => ?_
      refine r_nil ?_
      refine x_then ?_
      refine r_seq ?_
      refine r_region ?_
      refine r_y S H (y_move S rfl rfl) rfl rfl rfl fun a S => ?_
      refine r_y S H (y_move S rfl rfl) rfl rfl rfl fun a S => ?_
      refine r_y S H (y_move S rfl rfl) rfl rfl rfl fun a S => ?_
      refine r_y S H (y_ne S rfl rfl rfl) rfl rfl rfl fun a S => ?_
      refine r_y S H (y_assign S rfl rfl) rfl rfl rfl fun a S => ?_
      refine r_y S H (y_assign S rfl rfl) rfl rfl rfl fun a S => ?_
      refine r_nil ?_
      refine x_then ?_
      refine wp_ret ?_
      refine x_blockRet ?_
      refine x_thenRet ?_
      refine r_ret2 S H Try.results18 (ro_tmp S rfl) (ro_tmp S rfl) ?_
      refine ⟨?_, H.drop⟩
      have hb : b = true := by simpa using h12
      subst hb
      rw [nxt4 h15]
      refine tup_ub ?_ ?_
      · simp
      · simp; try omega
    · skip
      refine r_seq ?_
      refine r_region ?_
      refine r_y S H (y_eq S rfl rfl rfl) rfl rfl rfl fun a S => ?_
      refine r_y S H (y_assign S rfl rfl) rfl rfl rfl fun a S => ?_
      refine r_nil ?_
      refine x_then ?_
      refine r_test S rfl (fun h25 => ?_) (fun h25 => ?_)
      · skip
        refine r_seq ?_
        refine r_region ?_
        refine r_y S H (y_move S rfl rfl) rfl rfl rfl fun a S => ?_
        refine r_y S H (y_assign S rfl rfl) rfl rfl rfl fun a S => ?_
        refine r_y S H (y_assign S rfl rfl) rfl rfl rfl fun a S => ?_
        refine r_nil ?_
        refine x_then ?_
        refine wp_ret ?_
        refine x_blockRet ?_
        refine x_thenRet ?_
        refine r_ret2 S H Try.results18 (ro_tmp S rfl) (ro_tmp S rfl) ?_
        refine ⟨?_, H.drop⟩
        have hb : b = true := by simpa using h12
        subst hb
        rw [nxt5 h25]
        rfl
      · skip
        refine wp_skip ?_
        refine x_blockEnd ?_
        refine x_then ?_
        refine r_seq ?_
        refine r_seq ?_
        refine wp_via (J := fun a w => Slots a 36 [(0, .agg #[.int .i64 k, .int .u32 ((s : Nat) : Int)]), (1, .int .u64 ((x : Nat) : Int)), (2, .int .u64 ((y : Nat) : Int)), (3, .bool b), (4, .pointer (some ⟨b1, 0, none⟩)), (8, .int .u64 0), (9, .bool false), (11, .bool b), (12, .bool (!b)), (13, .pointer (some ⟨b1, 0, none⟩)), (14, .int .i64 k), (15, .bool (decide (k = 4))), (16, .bool (decide (k = 4))), (25, .bool (decide (k = 5))), (26, .bool (decide (k = 5))), (33, .bool (b && (decide (((y : Nat) : Int) < ((x : Nat) : Int)))))] ∧ Sat w (blk b1 (.cells #[.int .i64 k, .int .u32 ((s : Nat) : Int)] 24) :: fr)) ?_ (fun a w hm => ?_)
        · skip
          refine r_region ?_
          refine r_y S H (y_move S rfl rfl) rfl rfl rfl fun a S => ?_
          refine r_y S H (y_move S rfl rfl) rfl rfl rfl fun a S => ?_
          refine splitB S (d := 29) rfl (fun g29 S => ?_) (fun g29 S => ?_)
          · skip
            refine r_y S H (y_move S rfl rfl) rfl rfl rfl fun a S => ?_
            refine r_y S H (y_move S rfl rfl) rfl rfl rfl fun a S => ?_
            refine r_y S H (y_lt S rfl rfl rfl) rfl rfl rfl fun a S => ?_
            refine r_y S H (y_pickT S rfl rfl rfl) rfl rfl rfl fun a S => ?_
            refine r_nil ?_
            refine x_then ?_
            exact ⟨S.sub ⟨rfl, rfl, rfl, rfl, rfl, rfl, rfl, rfl, rfl, rfl, rfl, rfl, rfl, rfl, rfl, (show lk _ _ = some (.bool (decide (((y : Nat) : Int) < ((x : Nat) : Int)))) from rfl).trans (by first | (simp only [g29, decide_true, decide_false, Bool.true_and, Bool.false_and, Bool.true_or, Bool.false_or]; done) | (simp [-List.getD_eq_getElem?_getD, g29]; done) | (simp [-List.getD_eq_getElem?_getD, g29]; omega)), trivial⟩, H⟩
          · skip
            refine r_skip S rfl rfl rfl fun a S => ?_
            refine r_skip S rfl rfl rfl fun a S => ?_
            refine r_skip S rfl rfl rfl fun a S => ?_
            refine r_y S H (y_pickF S rfl rfl rfl) rfl rfl rfl fun a S => ?_
            refine r_nil ?_
            refine x_then ?_
            exact ⟨S.sub ⟨rfl, rfl, rfl, rfl, rfl, rfl, rfl, rfl, rfl, rfl, rfl, rfl, rfl, rfl, rfl, (show lk _ _ = some (.bool false) from rfl).trans (by first | (simp only [g29, decide_true, decide_false, Bool.true_and, Bool.false_and, Bool.true_or, Bool.false_or]; done) | (simp [-List.getD_eq_getElem?_getD, g29]; done) | (simp [-List.getD_eq_getElem?_getD, g29]; omega)), trivial⟩, H⟩
        obtain ⟨S, H⟩ := hm
        refine x_then ?_
        refine r_cond S rfl (fun h33 => ?_) (fun h33 => ?_)
        · skip
          refine r_seq ?_
          refine r_region ?_
          refine r_y S H (y_move S rfl rfl) rfl rfl rfl fun a S => ?_
          refine r_y S H (y_assign S rfl rfl) rfl rfl rfl fun a S => ?_
          refine r_y S H (y_assign S rfl rfl) rfl rfl rfl fun a S => ?_
          refine r_nil ?_
          refine x_then ?_
          refine wp_ret ?_
          refine x_thenRet ?_
          refine r_ret2 S H Try.results18 (ro_tmp S rfl) (ro_tmp S rfl) ?_
          refine ⟨?_, H.drop⟩
          have hb : b = true := by simpa using h12
          simp only [Bool.and_eq_true, decide_eq_true_eq] at h33
          rw [nxtT h15 h25 h33.1 (by have := h33.2; first | omega | (rw [hb] at h33; simp at h33))]
          all_goals first | rfl | (rw [hb] at h33; simp at h33)
        · skip
          refine wp_skip ?_
          refine x_then ?_
          refine r_seq ?_
          refine r_region ?_
          refine r_y S H (y_move S rfl rfl) rfl rfl rfl fun a S => ?_
          refine r_y S H (y_assign S rfl rfl) rfl rfl rfl fun a S => ?_
          refine r_y S H (y_assign S rfl rfl) rfl rfl rfl fun a S => ?_
          refine r_nil ?_
          refine x_then ?_
          refine wp_ret ?_
          refine r_ret2 S H Try.results18 (ro_tmp S rfl) (ro_tmp S rfl) ?_
          refine ⟨?_, H.drop⟩
          have hb : b = true := by simpa using h12
          simp only [Bool.and_eq_false_iff, decide_eq_false_iff_not] at h33
          rw [nxtF h15 h25 (fun e => by rcases h33 with h | h; (rw [e] at h; cases h); (first | omega | (rw [hb] at e; cases e)))]

set_option maxRecDepth 4000 in
theorem index_ct (w : World) (fr : List Res) (Al : Option Addr) (cl : Nat) (live : List Bool) (okl : SlOk fr 1 Al live.length cl (bools live)) (b : Bool) (H : Sat w (fr)) :
    Rt Try.prog 45 #[.slice Al live.length cl, .bool b] w fun v w' => (∃ r : Int, v = .int .i64 r ∧ (0 ≤ r ↔ b ∈ live)) ∧ Sat w' fr := by
  have hcap := okl.le
  have hmax : cl ≤ 9223372036854775807 := okl.cap
  refine rt_enter Try.func45 rfl (n := 19) Try.ntmps45 rfl fun a S => ?_
  refine r_seq ?_
  refine r_region ?_
  refine r_y S H (y_assign S rfl rfl) rfl rfl rfl fun a S => ?_
  refine r_nil ?_
  refine x_then ?_
  refine r_seq ?_
  refine r_seq ?_
  refine r_region ?_
  refine r_y S H (y_move S rfl rfl) rfl rfl rfl fun a S => ?_
  refine r_y S H (y_len S rfl rfl Try.underlying38) rfl rfl rfl fun a S => ?_
  refine r_y S H (y_move S rfl rfl) rfl rfl rfl fun a S => ?_
  refine r_nil ?_
  refine x_then ?_
  refine r_block ?_
  refine r_loop (ι := Nat) (fun k a w => Slots a 19 [(0, .slice Al live.length cl), (1, .bool b), (6, .slice Al live.length cl), (7, .int .i64 ((live.length : Nat) : Int)), (8, .int .i64 ((k : Nat) : Int))] ∧ Sat w (fr) ∧ (k ≤ live.length ∧ ∀ j, j < k → live.getD j false ≠ b)) (fun k => live.length - k) 0 ⟨S.sub ⟨rfl, rfl, rfl, rfl, rfl, trivial⟩, H, ⟨Nat.zero_le _, fun j hj => absurd hj (Nat.not_lt_zero j)⟩⟩ (fun k a w hI => ?_)
  obtain ⟨S, H, hI⟩ := hI
  obtain ⟨hk, hne⟩ := hI
  refine r_seq ?_
  refine r_region ?_
  refine r_y S H (y_lt S rfl rfl rfl) rfl rfl rfl fun a S => ?_
  refine r_nil ?_
  refine x_then ?_
  refine r_seq ?_
  refine r_test S rfl (fun h9 => ?_) (fun h9 => ?_)
  · skip
    refine wp_skip ?_
    refine x_then ?_
    refine r_seq ?_
    refine r_block ?_
    refine r_seq ?_
    refine r_region ?_
    refine r_y S H (y_move S rfl rfl) rfl rfl rfl fun a S => ?_
    refine r_y S H (y_assign S rfl rfl) rfl rfl rfl fun a S => ?_
    refine r_nil ?_
    refine x_then ?_
    refine r_seq ?_
    refine r_region ?_
    refine r_y S H (y_move S rfl rfl) rfl rfl rfl fun a S => ?_
    refine r_y S H (y_move S rfl rfl) rfl rfl rfl fun a S => ?_
    refine r_y S H (y_move S rfl rfl) rfl rfl rfl fun a S => ?_
    obtain ⟨b1, o2, rfl⟩ := okl.addr H (by first | omega | (simp <;> omega))
    refine r_y S H (y_index S rfl rfl rfl Try.underlying38 Try.sizeOf4 (by omega) (by omega)) rfl rfl rfl fun a S => ?_
    refine r_y S H (y_loadAt S rfl rfl Try.isAgg4 (fun w H => okl.cell w H (bools_at (i := k) (by first | omega | (simp <;> omega))))) rfl rfl rfl fun a S => ?_
    refine r_y S H (y_eqB S rfl rfl rfl Try.underlying4) rfl rfl rfl fun a S => ?_
    refine r_nil ?_
    refine x_then ?_
    refine r_cond S rfl (fun h16 => ?_) (fun h16 => ?_)
    · skip
      refine r_seq ?_
      refine r_region ?_
      refine r_y S H (y_move S rfl rfl) rfl rfl rfl fun a S => ?_
      refine r_y S H (y_assign S rfl rfl) rfl rfl rfl fun a S => ?_
      refine r_nil ?_
      refine x_then ?_
      refine wp_ret ?_
      refine x_blockRet ?_
      refine x_thenRet ?_
      refine x_thenRet ?_
      refine x_blockRet ?_
      refine x_thenRet ?_
      refine r_ret1 S H Try.results45 (ro_tmp S rfl) ?_
      refine ⟨⟨_, rfl, ?_⟩, H⟩
      constructor
      · intro _; have hx : live.getD k false = b := by simpa using (beq_iff_eq.1 h16).symm
        rw [← hx, List.getD_eq_getElem?_getD, List.getElem?_eq_getElem (by omega)]; exact List.getElem_mem _
      · intro _; omega
    · skip
      refine wp_skip ?_
      refine x_blockEnd ?_
      refine x_then ?_
      refine r_region ?_
      refine r_y S H (y_add S rfl rfl rfl (wi64 (by omega) (by omega))) rfl rfl rfl fun a S => ?_
      refine r_y S H (y_move S rfl rfl) rfl rfl rfl fun a S => ?_
      refine r_nil ?_
      refine x_then ?_
      exact ⟨k + 1, ⟨S.sub ⟨rfl, rfl, rfl, rfl, rfl, trivial⟩, H, ⟨by omega, fun j hj => by rcases Nat.lt_succ_iff_lt_or_eq.1 hj with h | h; (exact hne j h); (subst h; intro e; rw [e] at h16; simp at h16)⟩⟩, by omega⟩
  · skip
    refine wp_exit ?_
    refine x_thenExit ?_
    refine x_thenExit ?_
    refine x_blockHere ?_
    refine x_then ?_
    refine r_seq ?_
    refine r_region ?_
    refine r_y S H (y_assign S rfl rfl) rfl rfl rfl fun a S => ?_
    refine r_nil ?_
    refine x_then ?_
    refine wp_ret ?_
    refine r_ret1 S H Try.results45 (ro_tmp S rfl) ?_
    refine ⟨⟨_, rfl, ?_⟩, H⟩
    constructor
    · intro h; omega
    · intro hm
      obtain ⟨j, hj, e⟩ := List.mem_iff_getElem.1 hm
      exact absurd (by rw [List.getD_eq_getElem?_getD, List.getElem?_eq_getElem hj]; exact e) (hne j (by omega))

set_option maxRecDepth 4000 in
theorem contains_ct (w : World) (fr : List Res) (Al : Option Addr) (cl : Nat) (live : List Bool) (okl : SlOk fr 1 Al live.length cl (bools live)) (b : Bool) (H : Sat w (fr)) :
    Rt Try.prog 40 #[.slice Al live.length cl, .bool b] w fun v w' => v = .bool (live.contains b) ∧ Sat w' fr := by
  refine rt_enter Try.func40 rfl (n := 9) Try.ntmps40 rfl fun a S => ?_
  refine r_seq ?_
  refine r_region ?_
  refine r_y S H (y_assign S rfl rfl) rfl rfl rfl fun a S => ?_
  refine r_nil ?_
  refine x_then ?_
  refine r_seq ?_
  refine r_region ?_
  refine r_y S H (y_move S rfl rfl) rfl rfl rfl fun a S => ?_
  refine r_y S H (y_move S rfl rfl) rfl rfl rfl fun a S => ?_
  refine r_call (args := #[.slice Al live.length cl, .bool b]) S rfl rfl Try.call45 (index_ct (H := H) _ _ _ _ live okl b) rfl rfl rfl fun v a w hR S => ?_
  obtain ⟨⟨r, rfl, hr⟩, H⟩ := hR
  refine r_y S H (y_ge S rfl rfl rfl) rfl rfl rfl fun a S => ?_
  refine r_y S H (y_assign S rfl rfl) rfl rfl rfl fun a S => ?_
  refine r_nil ?_
  refine x_then ?_
  refine wp_ret ?_
  refine r_ret1 S H Try.results40 (ro_tmp S rfl) ?_
  refine ⟨congrArg Value.bool ?_, H⟩
  rw [Bool.eq_iff_iff, decide_eq_true_eq, hr]; simp

set_option maxRecDepth 4000 in
theorem quiet_ct (w : World) (fr : List Res) (Av : Option Addr) (cv : Nat) (vals : List Nat) (okv : SlOk fr 1 Av vals.length cv (u64s vals)) (Al : Option Addr) (cl : Nat) (live : List Bool) (okl : SlOk fr 1 Al live.length cl (bools live)) (H : Sat w (fr)) :
    Rt Try.prog 25 #[.agg #[.slice Av vals.length cv, .slice Al live.length cl]] w fun v w' => v = .bool (quiet live) ∧ Sat w' fr := by
  refine rt_enter Try.func25 rfl (n := 7) Try.ntmps25 rfl fun a S => ?_
  refine r_seq ?_
  refine r_region ?_
  refine r_box (c := #[.slice Av vals.length cv, .slice Al live.length cl]) S H rfl rfl rfl rfl rfl rfl fun a w b1 S H => ?_
  refine r_y S H (y_assign S rfl rfl) rfl rfl rfl fun a S => ?_
  refine r_nil ?_
  refine x_then ?_
  refine r_seq ?_
  refine r_region ?_
  refine r_y S H (y_fieldAddr S rfl rfl fa40_1) rfl rfl rfl fun a S => ?_
  refine r_y S H (y_load 0 S rfl rfl Try.isAgg38 rfl rfl) rfl rfl rfl fun a S => ?_
  refine r_call (args := #[.slice Al live.length cl, .bool true]) S rfl rfl Try.call40 (contains_ct (H := H) _ _ _ _ live (okl.more _) true) rfl rfl rfl fun v a w hR S => ?_
  obtain ⟨rfl, H⟩ := hR
  refine r_y S H (y_not S rfl rfl) rfl rfl rfl fun a S => ?_
  refine r_y S H (y_assign S rfl rfl) rfl rfl rfl fun a S => ?_
  refine r_nil ?_
  refine x_then ?_
  refine wp_ret ?_
  refine r_ret1 S H Try.results25 (ro_tmp S rfl) ?_
  exact ⟨rfl, H.drop⟩

set_option maxRecDepth 4000 in
theorem rquiet_ct (w : World) (fr : List Res) (Av : Option Addr) (cv : Nat) (vals : List Nat) (okv : SlOk fr 1 Av vals.length cv (u64s vals)) (Al : Option Addr) (cl : Nat) (live : List Bool) (okl : SlOk fr 1 Al live.length cl (bools live)) (H : Sat w (fr)) :
    Rt Try.prog 32 #[.agg #[.slice Av vals.length cv, .slice Al live.length cl]] w fun v w' => v = .bool (quiet live) ∧ Sat w' fr := by
  have hcap := okl.le
  have hmax : cl ≤ 9223372036854775807 := okl.cap
  refine rt_enter Try.func32 rfl (n := 16) Try.ntmps32 rfl fun a S => ?_
  refine r_seq ?_
  refine r_region ?_
  refine r_box (c := #[.slice Av vals.length cv, .slice Al live.length cl]) S H rfl rfl rfl rfl rfl rfl fun a w b1 S H => ?_
  refine r_y S H (y_assign S rfl rfl) rfl rfl rfl fun a S => ?_
  refine r_nil ?_
  refine x_then ?_
  refine r_seq ?_
  refine r_seq ?_
  refine r_region ?_
  refine r_y S H (y_assign S rfl rfl) rfl rfl rfl fun a S => ?_
  refine r_nil ?_
  refine x_then ?_
  refine r_block ?_
  refine r_loop (ι := Nat) (fun k a w => Slots a 16 [(0, .agg #[.slice Av vals.length cv, .slice Al live.length cl]), (1, .pointer (some ⟨b1, 0, none⟩)), (3, .int .i64 ((k : Nat) : Int))] ∧ Sat w (blk b1 (.cells #[.slice Av vals.length cv, .slice Al live.length cl] 40) :: fr) ∧ (k ≤ live.length ∧ ∀ j, j < k → live.getD j false = false)) (fun k => live.length - k) 0 ⟨S.sub ⟨rfl, rfl, rfl, trivial⟩, H, ⟨Nat.zero_le _, fun j hj => absurd hj (Nat.not_lt_zero j)⟩⟩ (fun k a w hI => ?_)
  obtain ⟨S, H, hI⟩ := hI
  obtain ⟨hk, hne⟩ := hI
  refine r_seq ?_
  refine r_seq ?_
  refine r_region ?_
  refine r_y S H (y_move S rfl rfl) rfl rfl rfl fun a S => ?_
  refine r_y S H (y_fieldAddr S rfl rfl fa40_1) rfl rfl rfl fun a S => ?_
  refine r_y S H (y_load 0 S rfl rfl Try.isAgg38 rfl rfl) rfl rfl rfl fun a S => ?_
  refine r_y S H (y_len S rfl rfl Try.underlying38) rfl rfl rfl fun a S => ?_
  refine r_y S H (y_lt S rfl rfl rfl) rfl rfl rfl fun a S => ?_
  refine r_nil ?_
  refine x_then ?_
  refine r_test S rfl (fun h8 => ?_) (fun h8 => ?_)
  · skip
    refine wp_skip ?_
    refine x_then ?_
    refine r_seq ?_
    refine r_block ?_
    refine r_seq ?_
    refine r_region ?_
    refine r_y S H (y_fieldAddr S rfl rfl fa40_1) rfl rfl rfl fun a S => ?_
    refine r_y S H (y_load 0 S rfl rfl Try.isAgg38 rfl rfl) rfl rfl rfl fun a S => ?_
    refine r_y S H (y_move S rfl rfl) rfl rfl rfl fun a S => ?_
    obtain ⟨b2, o3, rfl⟩ := (okl.more _).addr H (by first | omega | (simp <;> omega))
    refine r_y S H (y_index S rfl rfl rfl Try.underlying38 Try.sizeOf4 (by omega) (by omega)) rfl rfl rfl fun a S => ?_
    refine r_y S H (y_loadAt S rfl rfl Try.isAgg4 (fun w H => (okl.more _).cell w H (bools_at (i := k) (by first | omega | (simp <;> omega))))) rfl rfl rfl fun a S => ?_
    refine r_nil ?_
    refine x_then ?_
    refine r_cond S rfl (fun h15 => ?_) (fun h15 => ?_)
    · skip
      refine r_seq ?_
      refine r_region ?_
      refine r_y S H (y_assign S rfl rfl) rfl rfl rfl fun a S => ?_
      refine r_nil ?_
      refine x_then ?_
      refine wp_ret ?_
      refine x_blockRet ?_
      refine x_thenRet ?_
      refine x_thenRet ?_
      refine x_blockRet ?_
      refine x_thenRet ?_
      refine r_ret1 S H Try.results32 (ro_tmp S rfl) ?_
      refine ⟨congrArg Value.bool ?_, H.drop⟩
      cases hq : quiet live with
      | false => rfl
      | true => rw [quiet_iff] at hq; rw [hq] at h15; cases h15
    · skip
      refine wp_skip ?_
      refine x_blockEnd ?_
      refine x_then ?_
      refine r_region ?_
      refine r_y S H (y_move S rfl rfl) rfl rfl rfl fun a S => ?_
      refine r_y S H (y_add S rfl rfl rfl (wi64 (by omega) (by omega))) rfl rfl rfl fun a S => ?_
      refine r_y S H (y_assign S rfl rfl) rfl rfl rfl fun a S => ?_
      refine r_nil ?_
      refine x_then ?_
      exact ⟨k + 1, ⟨S.sub ⟨rfl, rfl, rfl, trivial⟩, H, ⟨by omega, fun j hj => by rcases Nat.lt_succ_iff_lt_or_eq.1 hj with h | h; (exact hne j h); (subst h; exact h15)⟩⟩, by omega⟩
  · skip
    refine wp_exit ?_
    refine x_thenExit ?_
    refine x_thenExit ?_
    refine x_blockHere ?_
    refine x_then ?_
    refine r_seq ?_
    refine r_region ?_
    refine r_y S H (y_assign S rfl rfl) rfl rfl rfl fun a S => ?_
    refine r_nil ?_
    refine x_then ?_
    refine wp_ret ?_
    refine r_ret1 S H Try.results32 (ro_tmp S rfl) ?_
    refine ⟨congrArg Value.bool ?_, H.drop⟩
    symm; rw [quiet_iff]; intro j
    by_cases hj : j < live.length
    · exact hne j (by omega)
    · rw [List.getD_eq_getElem?_getD, List.getElem?_eq_none (by omega)]; rfl

set_option maxRecDepth 4000 in
theorem sends_ct (w : World) (fr : List Res) (k : Int) (s : Nat) (Av : Option Addr) (cv : Nat) (vals : List Nat) (okv : SlOk fr 1 Av vals.length cv (u64s vals)) (Al : Option Addr) (cl : Nat) (live : List Bool) (okl : SlOk fr 1 Al live.length cl (bools live)) (i : Int) (hi : -9223372036854775808 ≤ i ∧ i ≤ 9223372036854775807) (H : Sat w (fr)) :
    Rt Try.prog 33 #[.agg #[.int .i64 k, .int .u32 ((s : Nat) : Int)], .agg #[.slice Av vals.length cv, .slice Al live.length cl], .int .i64 i] w fun v w' => v = .bool (Tr.sendsI k live i) ∧ Sat w' fr := by
  have hcap := okl.le
  have hmax : cl ≤ 9223372036854775807 := okl.cap
  refine rt_enter Try.func33 rfl (n := 29) Try.ntmps33 rfl fun a S => ?_
  refine r_seq ?_
  refine r_region ?_
  refine r_box (c := #[.int .i64 k, .int .u32 ((s : Nat) : Int)]) S H rfl rfl rfl rfl rfl rfl fun a w b1 S H => ?_
  refine r_box (c := #[.slice Av vals.length cv, .slice Al live.length cl]) S H rfl rfl rfl rfl rfl rfl fun a w b2 S H => ?_
  refine r_y S H (y_assign S rfl rfl) rfl rfl rfl fun a S => ?_
  refine r_nil ?_
  refine x_then ?_
  refine r_seq ?_
  refine r_block ?_
  refine r_seq ?_
  refine wp_via (J := fun a w => Slots a 29 [(0, .agg #[.int .i64 k, .int .u32 ((s : Nat) : Int)]), (1, .agg #[.slice Av vals.length cv, .slice Al live.length cl]), (2, .int .i64 i), (3, .pointer (some ⟨b1, 0, none⟩)), (4, .pointer (some ⟨b2, 0, none⟩)), (6, .bool false), (7, .bool ((decide (i < 0)) || (decide (((live.length : Nat) : Int) ≤ i))))] ∧ Sat w (blk b2 (.cells #[.slice Av vals.length cv, .slice Al live.length cl] 40) :: blk b1 (.cells #[.int .i64 k, .int .u32 ((s : Nat) : Int)] 24) :: fr)) ?_ (fun a w hm => ?_)
  · skip
    refine r_region ?_
    refine r_y S H (y_move S rfl rfl) rfl rfl rfl fun a S => ?_
    refine r_y S H (y_lt S rfl rfl rfl) rfl rfl rfl fun a S => ?_
    refine r_y S H (y_move S rfl rfl) rfl rfl rfl fun a S => ?_
    refine splitP S (d := 10) rfl (fun g10 S => ?_) (fun g10 S => ?_)
    · skip
      refine r_skip S rfl rfl rfl fun a S => ?_
      refine r_skip S rfl rfl rfl fun a S => ?_
      refine r_skip S rfl rfl rfl fun a S => ?_
      refine r_skip S rfl rfl rfl fun a S => ?_
      refine r_skip S rfl rfl rfl fun a S => ?_
      refine r_y S H (y_pickT S rfl rfl rfl) rfl rfl rfl fun a S => ?_
      refine r_y S H (y_assign S rfl rfl) rfl rfl rfl fun a S => ?_
      refine r_nil ?_
      refine x_then ?_
      exact ⟨S.sub ⟨rfl, rfl, rfl, rfl, rfl, rfl, (show lk _ _ = some (.bool true) from rfl).trans (by first | (simp only [g10, decide_true, decide_false, Bool.true_and, Bool.false_and, Bool.true_or, Bool.false_or]; done) | (simp [-List.getD_eq_getElem?_getD, g10]; done) | (simp [-List.getD_eq_getElem?_getD, g10]; omega)), trivial⟩, H⟩
    · skip
      refine r_y S H (y_move S rfl rfl) rfl rfl rfl fun a S => ?_
      refine r_y S H (y_fieldAddr S rfl rfl fa40_1) rfl rfl rfl fun a S => ?_
      refine r_y S H (y_load 0 S rfl rfl Try.isAgg38 rfl rfl) rfl rfl rfl fun a S => ?_
      refine r_y S H (y_len S rfl rfl Try.underlying38) rfl rfl rfl fun a S => ?_
      refine r_y S H (y_ge S rfl rfl rfl) rfl rfl rfl fun a S => ?_
      refine r_y S H (y_pickF S rfl rfl rfl) rfl rfl rfl fun a S => ?_
      refine r_y S H (y_assign S rfl rfl) rfl rfl rfl fun a S => ?_
      refine r_nil ?_
      refine x_then ?_
      exact ⟨S.sub ⟨rfl, rfl, rfl, rfl, rfl, rfl, (show lk _ _ = some (.bool (decide (((live.length : Nat) : Int) ≤ i))) from rfl).trans (by first | (simp only [g10, decide_true, decide_false, Bool.true_and, Bool.false_and, Bool.true_or, Bool.false_or]; done) | (simp [-List.getD_eq_getElem?_getD, g10]; done) | (simp [-List.getD_eq_getElem?_getD, g10]; omega)), trivial⟩, H⟩
  obtain ⟨S, H⟩ := hm
  refine x_then ?_
  refine r_cond S rfl (fun h7 => ?_) (fun h7 => ?_)
  · skip
    refine r_seq ?_
    refine r_region ?_
    refine r_y S H (y_assign S rfl rfl) rfl rfl rfl fun a S => ?_
    refine r_nil ?_
    refine x_then ?_
    refine wp_ret ?_
    refine x_blockRet ?_
    refine x_thenRet ?_
    refine r_ret1 S H Try.results33 (ro_tmp S rfl) ?_
    refine ⟨congrArg Value.bool ?_, H.drop.drop⟩
    unfold Tr.sendsI
    rw [if_pos (by simp at h7; omega)]
  · skip
    have hin : 0 ≤ i ∧ i < (live.length : Int) := by simp at h7; omega
    refine r_seq ?_
    refine r_region ?_
    refine r_y S H (y_fieldAddr S rfl rfl fa24_0) rfl rfl rfl fun a S => ?_
    refine r_y S H (y_load 1 S rfl rfl Try.isAgg3 rfl rfl) rfl rfl rfl fun a S => ?_
    refine r_y S H (y_eq S rfl rfl rfl) rfl rfl rfl fun a S => ?_
    refine r_y S H (y_assign S rfl rfl) rfl rfl rfl fun a S => ?_
    refine r_nil ?_
    refine x_then ?_
    refine r_test S rfl (fun h17 => ?_) (fun h17 => ?_)
    · skip
      refine r_seq ?_
      refine r_region ?_
      refine r_y S H (y_loadAgg [_, _] 0 S rfl rfl (fun w => ⟨Try.isAgg40 w, Try.sizeOf40 w⟩) rfl rfl ⟨rfl, rfl, trivial⟩) rfl rfl rfl fun a S => ?_
      refine r_call (args := #[.agg #[.slice Av vals.length cv, .slice Al live.length cl]]) S rfl rfl Try.call25 (quiet_ct (H := H) _ _ _ _ vals ((okv.more _).more _) _ _ live ((okl.more _).more _)) rfl rfl rfl fun v a w hR S => ?_
      obtain ⟨rfl, H⟩ := hR
      refine r_y S H (y_not S rfl rfl) rfl rfl rfl fun a S => ?_
      refine r_y S H (y_assign S rfl rfl) rfl rfl rfl fun a S => ?_
      refine r_nil ?_
      refine x_then ?_
      refine wp_ret ?_
      refine x_blockRet ?_
      refine x_thenRet ?_
      refine r_ret1 S H Try.results33 (ro_tmp S rfl) ?_
      refine ⟨congrArg Value.bool ?_, H.drop.drop⟩
      unfold Tr.sendsI
      rw [if_neg (by omega)]
      rw [if_pos h17]
    · skip
      refine wp_skip ?_
      refine x_blockEnd ?_
      refine x_then ?_
      refine r_seq ?_
      refine r_region ?_
      refine r_y S H (y_fieldAddr S rfl rfl fa40_1) rfl rfl rfl fun a S => ?_
      refine r_y S H (y_load 0 S rfl rfl Try.isAgg38 rfl rfl) rfl rfl rfl fun a S => ?_
      refine r_y S H (y_move S rfl rfl) rfl rfl rfl fun a S => ?_
      obtain ⟨b3, o4, rfl⟩ := ((okl.more _).more _).addr H (by first | omega | (simp <;> omega))
      refine r_y S H (y_index S rfl rfl rfl Try.underlying38 Try.sizeOf4 (by omega) (by omega)) rfl rfl rfl fun a S => ?_
      refine r_y S H (y_loadAt S rfl rfl Try.isAgg4 (fun w H => ((okl.more _).more _).cell w H (bools_at (i := (i).toNat) (by first | omega | (simp <;> omega))))) rfl rfl rfl fun a S => ?_
      refine r_y S H (y_assign S rfl rfl) rfl rfl rfl fun a S => ?_
      refine r_nil ?_
      refine x_then ?_
      refine wp_ret ?_
      refine r_ret1 S H Try.results33 (ro_tmp S rfl) ?_
      refine ⟨congrArg Value.bool ?_, H.drop.drop⟩
      unfold Tr.sendsI
      rw [if_neg (by omega)]
      rw [if_neg h17]

set_option maxRecDepth 4000 in
theorem rsends_ct (w : World) (fr : List Res) (k : Int) (s : Nat) (Av : Option Addr) (cv : Nat) (vals : List Nat) (okv : SlOk fr 1 Av vals.length cv (u64s vals)) (Al : Option Addr) (cl : Nat) (live : List Bool) (okl : SlOk fr 1 Al live.length cl (bools live)) (i : Int) (hi : -9223372036854775808 ≤ i ∧ i ≤ 9223372036854775807) (H : Sat w (fr)) :
    Rt Try.prog 34 #[.agg #[.int .i64 k, .int .u32 ((s : Nat) : Int)], .agg #[.slice Av vals.length cv, .slice Al live.length cl], .int .i64 i] w fun v w' => v = .bool (Tr.sendsI k live i) ∧ Sat w' fr := by
  have hcap := okl.le
  have hmax : cl ≤ 9223372036854775807 := okl.cap
  refine rt_enter Try.func34 rfl (n := 27) Try.ntmps34 rfl fun a S => ?_
  refine r_seq ?_
  refine r_region ?_
  refine r_box (c := #[.int .i64 k, .int .u32 ((s : Nat) : Int)]) S H rfl rfl rfl rfl rfl rfl fun a w b1 S H => ?_
  refine r_box (c := #[.slice Av vals.length cv, .slice Al live.length cl]) S H rfl rfl rfl rfl rfl rfl fun a w b2 S H => ?_
  refine r_y S H (y_assign S rfl rfl) rfl rfl rfl fun a S => ?_
  refine r_nil ?_
  refine x_then ?_
  refine r_seq ?_
  refine r_seq ?_
  refine wp_via (J := fun a w => Slots a 27 [(0, .agg #[.int .i64 k, .int .u32 ((s : Nat) : Int)]), (1, .agg #[.slice Av vals.length cv, .slice Al live.length cl]), (2, .int .i64 i), (3, .pointer (some ⟨b1, 0, none⟩)), (4, .pointer (some ⟨b2, 0, none⟩)), (6, .bool false), (15, .bool ((decide (i < 0)) || (decide (((live.length : Nat) : Int) ≤ i))))] ∧ Sat w (blk b2 (.cells #[.slice Av vals.length cv, .slice Al live.length cl] 40) :: blk b1 (.cells #[.int .i64 k, .int .u32 ((s : Nat) : Int)] 24) :: fr)) ?_ (fun a w hm => ?_)
  · skip
    refine r_region ?_
    refine r_y S H (y_move S rfl rfl) rfl rfl rfl fun a S => ?_
    refine r_y S H (y_lt S rfl rfl rfl) rfl rfl rfl fun a S => ?_
    refine r_y S H (y_move S rfl rfl) rfl rfl rfl fun a S => ?_
    refine splitP S (d := 9) rfl (fun g9 S => ?_) (fun g9 S => ?_)
    · skip
      refine r_skip S rfl rfl rfl fun a S => ?_
      refine r_skip S rfl rfl rfl fun a S => ?_
      refine r_skip S rfl rfl rfl fun a S => ?_
      refine r_skip S rfl rfl rfl fun a S => ?_
      refine r_skip S rfl rfl rfl fun a S => ?_
      refine r_y S H (y_pickT S rfl rfl rfl) rfl rfl rfl fun a S => ?_
      refine r_nil ?_
      refine x_then ?_
      exact ⟨S.sub ⟨rfl, rfl, rfl, rfl, rfl, rfl, (show lk _ _ = some (.bool true) from rfl).trans (by first | (simp only [g9, decide_true, decide_false, Bool.true_and, Bool.false_and, Bool.true_or, Bool.false_or]; done) | (simp [-List.getD_eq_getElem?_getD, g9]; done) | (simp [-List.getD_eq_getElem?_getD, g9]; omega)), trivial⟩, H⟩
    · skip
      refine r_y S H (y_move S rfl rfl) rfl rfl rfl fun a S => ?_
      refine r_y S H (y_fieldAddr S rfl rfl fa40_1) rfl rfl rfl fun a S => ?_
      refine r_y S H (y_load 0 S rfl rfl Try.isAgg38 rfl rfl) rfl rfl rfl fun a S => ?_
      refine r_y S H (y_len S rfl rfl Try.underlying38) rfl rfl rfl fun a S => ?_
      refine r_y S H (y_ge S rfl rfl rfl) rfl rfl rfl fun a S => ?_
      refine r_y S H (y_pickF S rfl rfl rfl) rfl rfl rfl fun a S => ?_
      refine r_nil ?_
      refine x_then ?_
      exact ⟨S.sub ⟨rfl, rfl, rfl, rfl, rfl, rfl, (show lk _ _ = some (.bool (decide (((live.length : Nat) : Int) ≤ i))) from rfl).trans (by first | (simp only [g9, decide_true, decide_false, Bool.true_and, Bool.false_and, Bool.true_or, Bool.false_or]; done) | (simp [-List.getD_eq_getElem?_getD, g9]; done) | (simp [-List.getD_eq_getElem?_getD, g9]; omega)), trivial⟩, H⟩
  obtain ⟨S, H⟩ := hm
  refine x_then ?_
  refine r_cond S rfl (fun h15 => ?_) (fun h15 => ?_)
  · skip
    refine r_seq ?_
    refine r_region ?_
    refine r_y S H (y_assign S rfl rfl) rfl rfl rfl fun a S => ?_
    refine r_nil ?_
    refine x_then ?_
    refine wp_ret ?_
    refine x_thenRet ?_
    refine r_ret1 S H Try.results34 (ro_tmp S rfl) ?_
    refine ⟨congrArg Value.bool ?_, H.drop.drop⟩
    unfold Tr.sendsI
    rw [if_pos (by simp at h15; omega)]
  · skip
    have hin : 0 ≤ i ∧ i < (live.length : Int) := by simp at h15; omega
    refine wp_skip ?_
    refine x_then ?_
    refine r_seq ?_
    refine r_seq ?_
    refine r_region ?_
    refine r_y S H (y_fieldAddr S rfl rfl fa24_0) rfl rfl rfl fun a S => ?_
    refine r_y S H (y_load 1 S rfl rfl Try.isAgg3 rfl rfl) rfl rfl rfl fun a S => ?_
    refine r_y S H (y_eq S rfl rfl rfl) rfl rfl rfl fun a S => ?_
    refine r_nil ?_
    refine x_then ?_
    refine r_test S rfl (fun h18 => ?_) (fun h18 => ?_)
    · skip
      refine r_seq ?_
      refine r_region ?_
      refine r_y S H (y_loadAgg [_, _] 0 S rfl rfl (fun w => ⟨Try.isAgg40 w, Try.sizeOf40 w⟩) rfl rfl ⟨rfl, rfl, trivial⟩) rfl rfl rfl fun a S => ?_
      refine r_call (args := #[.agg #[.slice Av vals.length cv, .slice Al live.length cl]]) S rfl rfl Try.call32 (rquiet_ct (H := H) _ _ _ _ vals ((okv.more _).more _) _ _ live ((okl.more _).more _)) rfl rfl rfl fun v a w hR S => ?_
      obtain ⟨rfl, H⟩ := hR
      refine r_y S H (y_not S rfl rfl) rfl rfl rfl fun a S => ?_
      refine r_y S H (y_assign S rfl rfl) rfl rfl rfl fun a S => ?_
      refine r_nil ?_
      refine x_then ?_
      refine wp_ret ?_
      refine x_thenRet ?_
      refine r_ret1 S H Try.results34 (ro_tmp S rfl) ?_
      refine ⟨congrArg Value.bool ?_, H.drop.drop⟩
      unfold Tr.sendsI
      rw [if_neg (by omega)]
      rw [if_pos h18]
    · skip
      refine wp_skip ?_
      refine x_then ?_
      refine r_seq ?_
      refine r_region ?_
      refine r_y S H (y_fieldAddr S rfl rfl fa40_1) rfl rfl rfl fun a S => ?_
      refine r_y S H (y_load 0 S rfl rfl Try.isAgg38 rfl rfl) rfl rfl rfl fun a S => ?_
      refine r_y S H (y_move S rfl rfl) rfl rfl rfl fun a S => ?_
      obtain ⟨b3, o4, rfl⟩ := ((okl.more _).more _).addr H (by first | omega | (simp <;> omega))
      refine r_y S H (y_index S rfl rfl rfl Try.underlying38 Try.sizeOf4 (by omega) (by omega)) rfl rfl rfl fun a S => ?_
      refine r_y S H (y_loadAt S rfl rfl Try.isAgg4 (fun w H => ((okl.more _).more _).cell w H (bools_at (i := (i).toNat) (by first | omega | (simp <;> omega))))) rfl rfl rfl fun a S => ?_
      refine r_y S H (y_assign S rfl rfl) rfl rfl rfl fun a S => ?_
      refine r_nil ?_
      refine x_then ?_
      refine wp_ret ?_
      refine r_ret1 S H Try.results34 (ro_tmp S rfl) ?_
      refine ⟨congrArg Value.bool ?_, H.drop.drop⟩
      unfold Tr.sendsI
      rw [if_neg (by omega)]
      rw [if_neg h18]

end Go.Proofs.Ytfmpgdhmfjllnaa
