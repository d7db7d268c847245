/- Walks of functions of the program, over slots and resources. No condition. -/
import Derived.Test.YtfmpgdhmfjllnaaW13f
namespace Go.Proofs.Ytfmpgdhmfjllnaa
open Go.RowKit Go.Cg
set_option linter.unusedVariables false
set_option linter.unusedSimpArgs false
open Go.Cg.Tr (E top right graph quiet msg comb nxt summed)
set_option maxRecDepth 4000 in
theorem few_ct (w : World) (fr : List Res) (n : Int) (A : Option Addr) (c : Nat) (es : List E) (ok : SlOk fr 3 A es.length c (ecells es)) (hes : ∀ e ∈ es, e.f < 4294967296 ∧ e.t < 4294967296) (H : Sat w (fr)) :
    Rt Try.prog 23 #[.agg #[.int .i64 n, .slice A es.length c]] w fun v w' => (∃ A c, v = .agg #[.int .i64 (Tr.few n es).1, .slice A (Tr.few n es).2.length c] ∧ Sat w' (row 47 3 (.slice A (Tr.few n es).2.length c) (Tr.few n es).2.length (ecells (Tr.few n es).2) :: fr)) := by
  have hcap := ok.le
  have hmax : c ≤ 9223372036854775807 := ok.cap
  refine rt_enter Try.func23 rfl (n := 28) Try.ntmps23 rfl fun a S => ?_
  refine r_seq ?_
  refine r_region ?_
  refine r_box (c := #[.int .i64 n, .slice A es.length c]) S H rfl rfl rfl rfl rfl rfl fun a w b1 S H => ?_
  refine r_alloc S H rfl Try.zeroValue35 rfl rfl rfl rfl fun a w b2 S H => ?_
  refine r_nil ?_
  refine x_then ?_
  refine r_seq ?_
  refine wp_via (J := fun a w => ∃ A4 : Option Addr, ∃ c5 : Nat, ∃ b6 : Nat, Slots a 28 [(0, .agg #[.int .i64 n, .slice A es.length c]), (1, .pointer (some ⟨b1, 0, none⟩)), (2, .pointer (some ⟨b2, 0, none⟩)), (3, .pointer (some ⟨b6, 0, none⟩))] ∧ Sat w (blk b6 (.cells #[.int .i64 n, .slice A4 ((es.take (min es.length 40)).length) c5] 35) :: row 47 3 (.slice A4 ((es.take (min es.length 40)).length) c5) ((es.take (min es.length 40)).length) (ecells (es.take (min es.length 40))) :: blk b2 (.cells #[.int .i64 0, .slice none 0 0] 35) :: blk b1 (.cells #[.int .i64 n, .slice A es.length c] 35) :: fr)) ?_ (fun a w hm => ?_)
  · skip
    refine h_start (blk b2 (.cells #[.int .i64 0, .slice none 0 0] 35) :: blk b1 (.cells #[.int .i64 n, .slice A es.length c] 35) :: fr) (ls := [false, false, false, false, false, false, false, false, false, false, false, false, false, false]) H rfl rfl fun w H => ?_
    have HS : Sat _ (blk b2 (.cells #[.int .i64 0, .slice none 0 0] 35) :: blk b1 (.cells #[.int .i64 n, .slice A es.length c] 35) :: fr) := H
    refine h_y 0 S HS rfl (y_fieldAddr S rfl rfl fa35_0) rfl rfl rfl (by kernel_rfl) (by kernel_rfl) (by kernel_rfl) (ls' := [true, false, false, false, false, false, false, false, false, false, false, false, false, false]) rfl (fun _ _ _ h => h) fun a S => ?_
    refine h_y 1 S HS rfl (y_load 1 S rfl rfl Try.isAgg3 rfl rfl) rfl rfl rfl (by kernel_rfl) (by kernel_rfl) (by kernel_rfl) (ls' := [true, true, false, false, false, false, false, false, false, false, false, false, false, false]) rfl (fun _ _ _ h => h) fun a S => ?_
    refine h_y 3 S HS rfl (y_fieldAddr S rfl rfl fa35_1) rfl rfl rfl (by kernel_rfl) (by kernel_rfl) (by kernel_rfl) (ls' := [true, true, false, true, false, false, false, false, false, false, false, false, false, false]) rfl (fun _ _ _ h => h) fun a S => ?_
    refine h_y 4 S HS rfl (y_load 1 S rfl rfl Try.isAgg33 rfl rfl) rfl rfl rfl (by kernel_rfl) (by kernel_rfl) (by kernel_rfl) (ls' := [true, true, false, true, true, false, false, false, false, false, false, false, false, false]) rfl (fun _ _ _ h => h) fun a S => ?_
    refine h_y 5 S HS rfl (y_fieldAddr S rfl rfl fa35_1) rfl rfl rfl (by kernel_rfl) (by kernel_rfl) (by kernel_rfl) (ls' := [true, true, false, true, true, true, false, false, false, false, false, false, false, false]) rfl (fun _ _ _ h => h) fun a S => ?_
    refine h_y 6 S HS rfl (y_load 1 S rfl rfl Try.isAgg33 rfl rfl) rfl rfl rfl (by kernel_rfl) (by kernel_rfl) (by kernel_rfl) (ls' := [true, true, false, true, true, true, true, false, false, false, false, false, false, false]) rfl (fun _ _ _ h => h) fun a S => ?_
    refine h_y 7 S HS rfl (y_len S rfl rfl Try.underlying33) rfl rfl rfl (by kernel_rfl) (by kernel_rfl) (by kernel_rfl) (ls' := [true, true, false, true, true, true, true, true, false, false, false, false, false, false]) rfl (fun _ _ _ h => h) fun a S => ?_
    refine h_y 8 S HS rfl (y_min S rfl rfl rfl) rfl rfl rfl (by kernel_rfl) (by kernel_rfl) (by kernel_rfl) (ls' := [true, true, false, true, true, true, true, true, true, false, false, false, false, false]) rfl (fun _ _ _ h => h) fun a S => ?_
    refine h_y 9 S HS rfl (y_sliceH (k := (min es.length 40)) S rfl rfl rfl Try.underlying33 Try.sizeOf47 (by first | omega | (simp <;> omega)) (by first | omega | (simp <;> omega))) rfl rfl rfl (by kernel_rfl) (by kernel_rfl) (by kernel_rfl) (ls' := [true, true, false, true, true, true, true, true, true, true, false, false, false, false]) rfl (fun _ _ _ h => h) fun a S => ?_
    refine h_all (r := 2) (rs := [12]) (by kernel_rfl) ⟨h_op (ls' := [true, true, true, true, true, true, true, true, true, true, false, false, false, false]) rfl rfl ?_, h_op (ls' := [true, true, false, true, true, true, true, true, true, true, false, false, true, false]) rfl rfl ?_, trivial⟩
    · skip
      refine r_lit (vs := #[]) (cs := ecells []) S H rfl rfl el33 (by kernel_rfl) (by decide) (by rfl) rfl rfl rfl fun a w b3 S H => ?_
      refine r_nil ?_
      refine x_then ?_
      have HS : Sat _ (blk b2 (.cells #[.int .i64 0, .slice none 0 0] 35) :: blk b1 (.cells #[.int .i64 n, .slice A es.length c] 35) :: fr) := (H.pick [1, 2] 3 rfl)
      refine ⟨HS, ?_⟩
      refine h_all (r := 10) (rs := [12]) (by kernel_rfl) ⟨h_op (ls' := [true, true, true, true, true, true, true, true, true, true, true, false, false, false]) rfl rfl ?_, h_op (ls' := [true, true, true, true, true, true, true, true, true, true, false, false, true, false]) rfl rfl ?_, trivial⟩
      · skip
        refine r_appendS (L' := fun A4 c5 => row 47 3 (.slice A4 ((es.take (min es.length 40)).length) c5) ((es.take (min es.length 40)).length) (ecells (es.take (min es.length 40))) :: blk b2 (.cells #[.int .i64 0, .slice none 0 0] 35) :: blk b1 (.cells #[.int .i64 n, .slice A es.length c] 35) :: fr) (xs' := ecells (es.take (min es.length 40))) 0 S H rfl rfl rfl rfl el33 (ecells_take es (min es.length 40) ▸ (((ok.more _).more _).more _).init (min es.length 40) (by first | omega | (simp <;> omega))) (one_ecells _) (by simp only [maxLen]; first | omega | (simp <;> omega)) (by first | omega | (simp <;> omega)) (List.nil_append _) (by first | omega | (simp <;> omega)) (fun _ _ => rfl) rfl rfl rfl fun a w A4 c5 hA4 S H => ?_
        refine r_nil ?_
        refine x_then ?_
        have HS : Sat _ (blk b2 (.cells #[.int .i64 0, .slice none 0 0] 35) :: blk b1 (.cells #[.int .i64 n, .slice A es.length c] 35) :: fr) := (H.pick [1, 2] 3 rfl)
        refine ⟨HS, ?_⟩
        refine h_y 11 S HS rfl (y_build (vs := #[(0, .int .i64 n), (1, .slice A4 ((es.take (min es.length 40)).length) c5)]) (v := .agg #[.int .i64 n, .slice A4 ((es.take (min es.length 40)).length) c5]) S rfl rfl (fun w => by kernel_rfl)) rfl rfl rfl (by kernel_rfl) (by kernel_rfl) (by kernel_rfl) (ls' := [true, true, true, true, true, true, true, true, true, true, true, true, false, false]) rfl (fun _ _ _ h => h) fun a S => ?_
        refine h_all (r := 12) (rs := []) (by kernel_rfl) ⟨h_op (ls' := [true, true, true, true, true, true, true, true, true, true, true, true, true, false]) rfl rfl ?_, trivial⟩
        refine r_alloc S H rfl Try.zeroValue35 rfl rfl rfl rfl fun a w b6 S H => ?_
        refine r_nil ?_
        refine x_then ?_
        have HS : Sat _ (blk b2 (.cells #[.int .i64 0, .slice none 0 0] 35) :: blk b1 (.cells #[.int .i64 n, .slice A es.length c] 35) :: fr) := (H.pick [2, 3] 4 rfl)
        refine ⟨HS, ?_⟩
        refine h_all (r := 13) (rs := []) (by kernel_rfl) ⟨h_op (ls' := [true, true, true, true, true, true, true, true, true, true, true, true, true, true]) rfl rfl ?_, trivial⟩
        refine r_store (vs := [.int .i64 n, .slice A4 ((es.take (min es.length 40)).length) c5]) 0 S H rfl rfl rfl rfl Try.sizeOf35 rfl rfl (by simp [Value.oneCell']) rfl rfl rfl rfl rfl fun w H => ?_
        refine r_nil ?_
        refine x_then ?_
        have HS : Sat _ (blk b2 (.cells #[.int .i64 0, .slice none 0 0] 35) :: blk b1 (.cells #[.int .i64 n, .slice A es.length c] 35) :: fr) := (H.pick [2, 3] 4 rfl)
        refine ⟨HS, ?_⟩
        refine h_done (by kernel_rfl) ?_
        refine x_then ?_
        exact ⟨_, _, _, S.sub ⟨rfl, rfl, rfl, rfl, trivial⟩, H⟩
      · skip
        refine r_alloc S H rfl Try.zeroValue35 rfl rfl rfl rfl fun a w b7 S H => ?_
        refine r_nil ?_
        refine x_then ?_
        have HS : Sat _ (blk b2 (.cells #[.int .i64 0, .slice none 0 0] 35) :: blk b1 (.cells #[.int .i64 n, .slice A es.length c] 35) :: fr) := (H.pick [2, 3] 4 rfl)
        refine ⟨HS, ?_⟩
        refine h_all (r := 10) (rs := []) (by kernel_rfl) ⟨h_op (ls' := [true, true, true, true, true, true, true, true, true, true, true, false, true, false]) rfl rfl ?_, trivial⟩
        refine r_appendS (L' := fun A8 c9 => blk b7 (.cells #[.int .i64 0, .slice none 0 0] 35) :: row 47 3 (.slice A8 ((es.take (min es.length 40)).length) c9) ((es.take (min es.length 40)).length) (ecells (es.take (min es.length 40))) :: blk b2 (.cells #[.int .i64 0, .slice none 0 0] 35) :: blk b1 (.cells #[.int .i64 n, .slice A es.length c] 35) :: fr) (xs' := ecells (es.take (min es.length 40))) 1 S H rfl rfl rfl rfl el33 (ecells_take es (min es.length 40) ▸ ((((ok.more _).more _).more _).more _).init (min es.length 40) (by first | omega | (simp <;> omega))) (one_ecells _) (by simp only [maxLen]; first | omega | (simp <;> omega)) (by first | omega | (simp <;> omega)) (List.nil_append _) (by first | omega | (simp <;> omega)) (fun _ _ => rfl) rfl rfl rfl fun a w A8 c9 hA8 S H => ?_
        refine r_nil ?_
        refine x_then ?_
        have HS : Sat _ (blk b2 (.cells #[.int .i64 0, .slice none 0 0] 35) :: blk b1 (.cells #[.int .i64 n, .slice A es.length c] 35) :: fr) := (H.pick [2, 3] 4 rfl)
        refine ⟨HS, ?_⟩
        refine h_y 11 S HS rfl (y_build (vs := #[(0, .int .i64 n), (1, .slice A8 ((es.take (min es.length 40)).length) c9)]) (v := .agg #[.int .i64 n, .slice A8 ((es.take (min es.length 40)).length) c9]) S rfl rfl (fun w => by kernel_rfl)) rfl rfl rfl (by kernel_rfl) (by kernel_rfl) (by kernel_rfl) (ls' := [true, true, true, true, true, true, true, true, true, true, true, true, true, false]) rfl (fun _ _ _ h => h) fun a S => ?_
        refine h_all (r := 13) (rs := []) (by kernel_rfl) ⟨h_op (ls' := [true, true, true, true, true, true, true, true, true, true, true, true, true, true]) rfl rfl ?_, trivial⟩
        refine r_store (vs := [.int .i64 n, .slice A8 ((es.take (min es.length 40)).length) c9]) 0 S H rfl rfl rfl rfl Try.sizeOf35 rfl rfl (by simp [Value.oneCell']) rfl rfl rfl rfl rfl fun w H => ?_
        refine r_nil ?_
        refine x_then ?_
        have HS : Sat _ (blk b2 (.cells #[.int .i64 0, .slice none 0 0] 35) :: blk b1 (.cells #[.int .i64 n, .slice A es.length c] 35) :: fr) := (H.pick [2, 3] 4 rfl)
        refine ⟨HS, ?_⟩
        refine h_done (by kernel_rfl) ?_
        refine x_then ?_
        exact ⟨_, _, _, S.sub ⟨rfl, rfl, rfl, rfl, trivial⟩, H⟩
    · skip
      refine r_alloc S H rfl Try.zeroValue35 rfl rfl rfl rfl fun a w b10 S H => ?_
      refine r_nil ?_
      refine x_then ?_
      have HS : Sat _ (blk b2 (.cells #[.int .i64 0, .slice none 0 0] 35) :: blk b1 (.cells #[.int .i64 n, .slice A es.length c] 35) :: fr) := (H.pick [1, 2] 3 rfl)
      refine ⟨HS, ?_⟩
      refine h_all (r := 2) (rs := []) (by kernel_rfl) ⟨h_op (ls' := [true, true, true, true, true, true, true, true, true, true, false, false, true, false]) rfl rfl ?_, trivial⟩
      refine r_lit (vs := #[]) (cs := ecells []) S H rfl rfl el33 (by kernel_rfl) (by decide) (by rfl) rfl rfl rfl fun a w b11 S H => ?_
      refine r_nil ?_
      refine x_then ?_
      have HS : Sat _ (blk b2 (.cells #[.int .i64 0, .slice none 0 0] 35) :: blk b1 (.cells #[.int .i64 n, .slice A es.length c] 35) :: fr) := (H.pick [2, 3] 4 rfl)
      refine ⟨HS, ?_⟩
      refine h_all (r := 10) (rs := []) (by kernel_rfl) ⟨h_op (ls' := [true, true, true, true, true, true, true, true, true, true, true, false, true, false]) rfl rfl ?_, trivial⟩
      refine r_appendS (L' := fun A12 c13 => row 47 3 (.slice A12 ((es.take (min es.length 40)).length) c13) ((es.take (min es.length 40)).length) (ecells (es.take (min es.length 40))) :: blk b10 (.cells #[.int .i64 0, .slice none 0 0] 35) :: blk b2 (.cells #[.int .i64 0, .slice none 0 0] 35) :: blk b1 (.cells #[.int .i64 n, .slice A es.length c] 35) :: fr) (xs' := ecells (es.take (min es.length 40))) 0 S H rfl rfl rfl rfl el33 (ecells_take es (min es.length 40) ▸ ((((ok.more _).more _).more _).more _).init (min es.length 40) (by first | omega | (simp <;> omega))) (one_ecells _) (by simp only [maxLen]; first | omega | (simp <;> omega)) (by first | omega | (simp <;> omega)) (List.nil_append _) (by first | omega | (simp <;> omega)) (fun _ _ => rfl) rfl rfl rfl fun a w A12 c13 hA12 S H => ?_
      refine r_nil ?_
      refine x_then ?_
      have HS : Sat _ (blk b2 (.cells #[.int .i64 0, .slice none 0 0] 35) :: blk b1 (.cells #[.int .i64 n, .slice A es.length c] 35) :: fr) := (H.pick [2, 3] 4 rfl)
      refine ⟨HS, ?_⟩
      refine h_y 11 S HS rfl (y_build (vs := #[(0, .int .i64 n), (1, .slice A12 ((es.take (min es.length 40)).length) c13)]) (v := .agg #[.int .i64 n, .slice A12 ((es.take (min es.length 40)).length) c13]) S rfl rfl (fun w => by kernel_rfl)) rfl rfl rfl (by kernel_rfl) (by kernel_rfl) (by kernel_rfl) (ls' := [true, true, true, true, true, true, true, true, true, true, true, true, true, false]) rfl (fun _ _ _ h => h) fun a S => ?_
      refine h_all (r := 13) (rs := []) (by kernel_rfl) ⟨h_op (ls' := [true, true, true, true, true, true, true, true, true, true, true, true, true, true]) rfl rfl ?_, trivial⟩
      refine r_store (vs := [.int .i64 n, .slice A12 ((es.take (min es.length 40)).length) c13]) 1 S H rfl rfl rfl rfl Try.sizeOf35 rfl rfl (by simp [Value.oneCell']) rfl rfl rfl rfl rfl fun w H => ?_
      refine r_nil ?_
      refine x_then ?_
      have HS : Sat _ (blk b2 (.cells #[.int .i64 0, .slice none 0 0] 35) :: blk b1 (.cells #[.int .i64 n, .slice A es.length c] 35) :: fr) := (H.pick [2, 3] 4 rfl)
      refine ⟨HS, ?_⟩
      refine h_done (by kernel_rfl) ?_
      refine x_then ?_
      exact ⟨_, _, _, S.sub ⟨rfl, rfl, rfl, rfl, trivial⟩, (H.pick [1, 0, 2, 3] 4 rfl)⟩
  obtain ⟨A4, c5, b6, S, H⟩ := hm
  refine x_then ?_
  refine r_seq ?_
  refine r_region ?_
  refine r_y S H (y_loadAgg [_, _] 0 S rfl rfl (fun w => ⟨Try.isAgg35 w, Try.sizeOf35 w⟩) rfl rfl ⟨rfl, rfl, trivial⟩) rfl rfl rfl fun a S => ?_
  refine r_call (args := #[.agg #[.int .i64 n, .slice A4 ((es.take (min es.length 40)).length) c5]]) S rfl rfl Try.call38 (rgraph_ct (H := H) _ _ n _ _ (es.take (min es.length 40)) (SlOk.ofRow (i := 1) H rfl) (fun e he => hes e (List.mem_of_mem_take he))) rfl rfl rfl fun v a w hR S => ?_
  obtain ⟨rfl, H⟩ := hR
  refine r_y S H (y_assign S rfl rfl) rfl rfl rfl fun a S => ?_
  refine r_nil ?_
  refine x_then ?_
  refine r_seq ?_
  refine r_seq ?_
  refine wp_via (J := fun a w => Slots a 28 [(0, .agg #[.int .i64 n, .slice A es.length c]), (1, .pointer (some ⟨b1, 0, none⟩)), (2, .pointer (some ⟨b2, 0, none⟩)), (3, .pointer (some ⟨b6, 0, none⟩)), (4, .bool (graph n (es.take (min es.length 40)))), (17, .agg #[.int .i64 n, .slice A4 ((es.take (min es.length 40)).length) c5]), (18, .bool (graph n (es.take (min es.length 40)))), (25, .bool ((!(graph n (es.take (min es.length 40)))) || (decide (60 < n))))] ∧ Sat w (blk b6 (.cells #[.int .i64 n, .slice A4 ((es.take (min es.length 40)).length) c5] 35) :: row 47 3 (.slice A4 ((es.take (min es.length 40)).length) c5) ((es.take (min es.length 40)).length) (ecells (es.take (min es.length 40))) :: blk b2 (.cells #[.int .i64 0, .slice none 0 0] 35) :: blk b1 (.cells #[.int .i64 n, .slice A es.length c] 35) :: fr)) ?_ (fun a w hm => ?_)
  · skip
    refine r_region ?_
    refine r_y S H (y_move S rfl rfl) rfl rfl rfl fun a S => ?_
    refine r_y S H (y_not S rfl rfl) rfl rfl rfl fun a S => ?_
    refine r_y S H (y_move S rfl rfl) rfl rfl rfl fun a S => ?_
    refine splitB S (d := 21) rfl (fun g21 S => ?_) (fun g21 S => ?_)
    · skip
      refine r_skip S rfl rfl rfl fun a S => ?_
      refine r_skip S rfl rfl rfl fun a S => ?_
      refine r_skip S rfl rfl rfl fun a S => ?_
      refine r_y S H (y_pickT S rfl rfl rfl) rfl rfl rfl fun a S => ?_
      refine r_nil ?_
      refine x_then ?_
      exact ⟨S.sub ⟨rfl, rfl, rfl, rfl, rfl, rfl, rfl, (show lk _ _ = some (.bool true) from rfl).trans (by first | (simp only [g21, decide_true, decide_false, Bool.true_and, Bool.false_and, Bool.true_or, Bool.false_or]; done) | (simp [-List.getD_eq_getElem?_getD, g21]; done) | (simp [-List.getD_eq_getElem?_getD, g21]; omega)), trivial⟩, H⟩
    · skip
      refine r_y S H (y_fieldAddr S rfl rfl fa35_0) rfl rfl rfl fun a S => ?_
      refine r_y S H (y_load 0 S rfl rfl Try.isAgg3 rfl rfl) rfl rfl rfl fun a S => ?_
      refine r_y S H (y_gt S rfl rfl rfl) rfl rfl rfl fun a S => ?_
      refine r_y S H (y_pickF S rfl rfl rfl) rfl rfl rfl fun a S => ?_
      refine r_nil ?_
      refine x_then ?_
      exact ⟨S.sub ⟨rfl, rfl, rfl, rfl, rfl, rfl, rfl, (show lk _ _ = some (.bool (decide (60 < n))) from rfl).trans (by first | (simp only [g21, decide_true, decide_false, Bool.true_and, Bool.false_and, Bool.true_or, Bool.false_or]; done) | (simp [-List.getD_eq_getElem?_getD, g21]; done) | (simp [-List.getD_eq_getElem?_getD, g21]; omega)), trivial⟩, H⟩
  obtain ⟨S, H⟩ := hm
  refine x_then ?_
  refine r_cond S rfl (fun h25 => ?_) (fun h25 => ?_)
  · skip
    refine r_seq ?_
    refine r_region ?_
    refine r_y S H (y_build (vs := #[]) (v := .agg #[.int .i64 0, .slice none 0 0]) S rfl rfl (fun w => by kernel_rfl)) rfl rfl rfl fun a S => ?_
    refine r_store (vs := [.int .i64 0, .slice none 0 0]) 2 S H rfl rfl rfl rfl Try.sizeOf35 rfl rfl (by simp [Value.oneCell']) rfl rfl rfl rfl rfl fun w H => ?_
    refine r_nil ?_
    refine x_then ?_
    refine wp_ret ?_
    refine x_thenRet ?_
    refine r_ret1 S H Try.results23 (ro_agg [_, _] (i := 2) S rfl (fun w => ⟨Try.isAgg35 w, Try.sizeOf35 w⟩) rfl rfl ⟨rfl, rfl, trivial⟩) ?_
    have hF : Tr.few n es = (0, []) := by unfold Tr.few; rw [if_neg]; intro h; simp only [Bool.and_eq_true, decide_eq_true_eq] at h; rw [h.1] at h25; simp at h25; omega
    rw [hF]
    exact ⟨none, 0, rfl, ((H.pick [] 4 rfl)).nilRow _ _⟩
  · skip
    refine wp_skip ?_
    refine x_then ?_
    refine r_seq ?_
    refine r_region ?_
    refine r_y S H (y_loadAgg [_, _] 0 S rfl rfl (fun w => ⟨Try.isAgg35 w, Try.sizeOf35 w⟩) rfl rfl ⟨rfl, rfl, trivial⟩) rfl rfl rfl fun a S => ?_
    refine r_store (vs := [.int .i64 n, .slice A4 ((es.take (min es.length 40)).length) c5]) 2 S H rfl rfl rfl rfl Try.sizeOf35 rfl rfl (by simp [Value.oneCell']) rfl rfl rfl rfl rfl fun w H => ?_
    refine r_nil ?_
    refine x_then ?_
    refine wp_ret ?_
    refine r_ret1 S H Try.results23 (ro_agg [_, _] (i := 2) S rfl (fun w => ⟨Try.isAgg35 w, Try.sizeOf35 w⟩) rfl rfl ⟨rfl, rfl, trivial⟩) ?_
    have hF : Tr.few n es = (n, es.take (min es.length 40)) := by unfold Tr.few; rw [if_pos]; simp only [Bool.or_eq_false_iff, Bool.not_eq_false', decide_eq_false_iff_not] at h25; rw [h25.1]; simp; omega
    rw [hF]
    exact ⟨_, _, rfl, (H.pick [1] 4 rfl)⟩

theorem few_ct2 (w : World) (fr : List Res) (n : Int) (A : Option Addr) (c : Nat) (es : List E) (ok : SlOk fr 3 A es.length c (ecells es)) (hes : ∀ e ∈ es, e.f < 4294967296 ∧ e.t < 4294967296) (H : Sat w fr) :
    Rt Try.prog 23 #[.agg #[.int .i64 n, .slice A es.length c]] w fun v w' => ∃ (m : Nat) (gl : List E) (A' : Option Addr) (c' : Nat), Tr.FewOk es m gl ∧ v = .agg #[.int .i64 ((m : Nat) : Int), .slice A' gl.length c'] ∧ Sat w' (row 47 3 (.slice A' gl.length c') gl.length (ecells gl) :: fr) := by
  refine (few_ct w fr n A c es ok hes H).mono fun v w' ⟨A', c', hv, H'⟩ => ?_
  obtain ⟨h0, h1, h2, h3, h4⟩ := Tr.few_facts (n := n) (es := es)
  obtain ⟨m, hm⟩ := Int.eq_ofNat_of_zero_le h0
  rw [hm] at hv h1 h3
  exact ⟨m, _, A', c', ⟨by omega, h2, h3, h4⟩, hv, H'⟩

set_option maxRecDepth 4000 in
theorem same_ct (w : World) (fr : List Res) (Av : Option Addr) (cv : Nat) (vals : List Nat) (okv : SlOk fr 1 Av vals.length cv (u64s vals)) (Al : Option Addr) (cl : Nat) (live : List Bool) (okl : SlOk fr 1 Al live.length cl (bools live)) (Bv : Option Addr) (dv : Nat) (vals2 : List Nat) (okv2 : SlOk fr 1 Bv vals2.length dv (u64s vals2)) (Bl : Option Addr) (dl : Nat) (live2 : List Bool) (okl2 : SlOk fr 1 Bl live2.length dl (bools live2)) (H : Sat w (fr)) :
    Rt Try.prog 26 #[.agg #[.slice Av vals.length cv, .slice Al live.length cl], .agg #[.slice Bv vals2.length dv, .slice Bl live2.length dl]] w fun v w' => v = .bool (decide ((vals, live) = (vals2, live2))) ∧ Sat w' fr := by
  have h1 := okv.le
  have h2 : cv ≤ 9223372036854775807 := okv.cap
  have h3 := okl.le
  have h4 : cl ≤ 9223372036854775807 := okl.cap
  have h5 := okv2.le
  have h6 : dv ≤ 9223372036854775807 := okv2.cap
  have h7 := okl2.le
  have h8 : dl ≤ 9223372036854775807 := okl2.cap
  refine rt_enter Try.func26 rfl (n := 59) Try.ntmps26 rfl fun a S => ?_
  refine r_seq ?_
  refine r_region ?_
  refine r_box (c := #[.slice Av vals.length cv, .slice Al live.length cl]) S H rfl rfl rfl rfl rfl rfl fun a w b1 S H => ?_
  refine r_box (c := #[.slice Bv vals2.length dv, .slice Bl live2.length dl]) S H rfl rfl rfl rfl rfl rfl fun a w b2 S H => ?_
  refine r_y S H (y_assign S rfl rfl) rfl rfl rfl fun a S => ?_
  refine r_nil ?_
  refine x_then ?_
  refine r_seq ?_
  refine r_seq ?_
  refine wp_via (J := fun a w => Slots a 59 [(0, .agg #[.slice Av vals.length cv, .slice Al live.length cl]), (1, .agg #[.slice Bv vals2.length dv, .slice Bl live2.length dl]), (2, .pointer (some ⟨b1, 0, none⟩)), (3, .pointer (some ⟨b2, 0, none⟩)), (4, .bool false), (22, .bool ((decide (((vals.length : Nat) : Int) ≠ ((vals2.length : Nat) : Int))) || (decide (((live.length : Nat) : Int) ≠ ((live2.length : Nat) : Int)))))] ∧ Sat w (blk b2 (.cells #[.slice Bv vals2.length dv, .slice Bl live2.length dl] 40) :: blk b1 (.cells #[.slice Av vals.length cv, .slice Al live.length cl] 40) :: fr)) ?_ (fun a w hm => ?_)
  · skip
    refine r_region ?_
    refine r_y S H (y_fieldAddr S rfl rfl fa40_0) rfl rfl rfl fun a S => ?_
    refine r_y S H (y_load 1 S rfl rfl Try.isAgg37 rfl rfl) rfl rfl rfl fun a S => ?_
    refine r_y S H (y_len S rfl rfl Try.underlying37) rfl rfl rfl fun a S => ?_
    refine r_y S H (y_fieldAddr S rfl rfl fa40_0) rfl rfl rfl fun a S => ?_
    refine r_y S H (y_load 0 S rfl rfl Try.isAgg37 rfl rfl) rfl rfl rfl fun a S => ?_
    refine r_y S H (y_len S rfl rfl Try.underlying37) rfl rfl rfl fun a S => ?_
    refine r_y S H (y_ne S rfl rfl rfl) rfl rfl rfl fun a S => ?_
    refine r_y S H (y_move S rfl rfl) rfl rfl rfl fun a S => ?_
    refine splitP S (d := 14) rfl (fun g14 S => ?_) (fun g14 S => ?_)
    · skip
      refine r_skip S rfl rfl rfl fun a S => ?_
      refine r_skip S rfl rfl rfl fun a S => ?_
      refine r_skip S rfl rfl rfl fun a S => ?_
      refine r_skip S rfl rfl rfl fun a S => ?_
      refine r_skip S rfl rfl rfl fun a S => ?_
      refine r_skip S rfl rfl rfl fun a S => ?_
      refine r_skip S rfl rfl rfl fun a S => ?_
      refine r_y S H (y_pickT S rfl rfl rfl) rfl rfl rfl fun a S => ?_
      refine r_nil ?_
      refine x_then ?_
      exact ⟨S.sub ⟨rfl, rfl, rfl, rfl, rfl, (show lk _ _ = some (.bool true) from rfl).trans (by first | (simp only [g14, decide_true, decide_false, Bool.true_and, Bool.false_and, Bool.true_or, Bool.false_or]; done) | (simp [-List.getD_eq_getElem?_getD, g14]; done) | (simp [-List.getD_eq_getElem?_getD, g14]; omega)), trivial⟩, H⟩
    · skip
      refine r_y S H (y_fieldAddr S rfl rfl fa40_1) rfl rfl rfl fun a S => ?_
      refine r_y S H (y_load 1 S rfl rfl Try.isAgg38 rfl rfl) rfl rfl rfl fun a S => ?_
      refine r_y S H (y_len S rfl rfl Try.underlying38) rfl rfl rfl fun a S => ?_
      refine r_y S H (y_fieldAddr S rfl rfl fa40_1) rfl rfl rfl fun a S => ?_
      refine r_y S H (y_load 0 S rfl rfl Try.isAgg38 rfl rfl) rfl rfl rfl fun a S => ?_
      refine r_y S H (y_len S rfl rfl Try.underlying38) rfl rfl rfl fun a S => ?_
      refine r_y S H (y_ne S rfl rfl rfl) rfl rfl rfl fun a S => ?_
      refine r_y S H (y_pickF S rfl rfl rfl) rfl rfl rfl fun a S => ?_
      refine r_nil ?_
      refine x_then ?_
      exact ⟨S.sub ⟨rfl, rfl, rfl, rfl, rfl, (show lk _ _ = some (.bool (decide (((live.length : Nat) : Int) ≠ ((live2.length : Nat) : Int)))) from rfl).trans (by first | (simp only [g14, decide_true, decide_false, Bool.true_and, Bool.false_and, Bool.true_or, Bool.false_or]; done) | (simp [-List.getD_eq_getElem?_getD, g14]; done) | (simp [-List.getD_eq_getElem?_getD, g14]; omega)), trivial⟩, H⟩
  obtain ⟨S, H⟩ := hm
  refine x_then ?_
  refine r_cond S rfl (fun h22 => ?_) (fun h22 => ?_)
  · skip
    refine r_seq ?_
    refine r_region ?_
    refine r_y S H (y_assign S rfl rfl) rfl rfl rfl fun a S => ?_
    refine r_nil ?_
    refine x_then ?_
    refine wp_ret ?_
    refine x_thenRet ?_
    refine r_ret1 S H Try.results26 (ro_tmp S rfl) ?_
    refine ⟨congrArg Value.bool ?_, H.drop.drop⟩
    symm
    rw [decide_eq_false_iff_not]; intro e; injection e with e1 e2; rw [e1, e2] at h22; simp at h22
  · skip
    have h22' := h22
    simp only [Bool.or_eq_false_iff, decide_eq_false_iff_not, Decidable.not_not] at h22'
    have hlv : vals.length = vals2.length := by omega
    have hll : live.length = live2.length := by omega
    refine wp_skip ?_
    refine x_then ?_
    refine r_seq ?_
    refine r_seq ?_
    refine r_region ?_
    refine r_y S H (y_assign S rfl rfl) rfl rfl rfl fun a S => ?_
    refine r_nil ?_
    refine x_then ?_
    refine r_block ?_
    refine r_loop (ι := Nat) (fun q a w => Slots a 59 [(0, .agg #[.slice Av vals.length cv, .slice Al live.length cl]), (1, .agg #[.slice Bv vals2.length dv, .slice Bl live2.length dl]), (2, .pointer (some ⟨b1, 0, none⟩)), (3, .pointer (some ⟨b2, 0, none⟩)), (5, .int .i64 ((q : Nat) : Int)), (22, .bool ((decide (((vals.length : Nat) : Int) ≠ ((vals2.length : Nat) : Int))) || (decide (((live.length : Nat) : Int) ≠ ((live2.length : Nat) : Int)))))] ∧ Sat w (blk b2 (.cells #[.slice Bv vals2.length dv, .slice Bl live2.length dl] 40) :: blk b1 (.cells #[.slice Av vals.length cv, .slice Al live.length cl] 40) :: fr) ∧ (q ≤ vals.length ∧ ∀ j, j < q → vals.getD j 0 = vals2.getD j 0)) (fun q => vals.length - q) 0 ⟨S.sub ⟨rfl, rfl, rfl, rfl, rfl, rfl, trivial⟩, H, ⟨Nat.zero_le _, fun j hj => absurd hj (Nat.not_lt_zero j)⟩⟩ (fun q a w hI => ?_)
    obtain ⟨S, H, hI⟩ := hI
    obtain ⟨hq, heq⟩ := hI
    refine r_seq ?_
    refine r_seq ?_
    refine r_region ?_
    refine r_y S H (y_move S rfl rfl) rfl rfl rfl fun a S => ?_
    refine r_y S H (y_fieldAddr S rfl rfl fa40_0) rfl rfl rfl fun a S => ?_
    refine r_y S H (y_load 1 S rfl rfl Try.isAgg37 rfl rfl) rfl rfl rfl fun a S => ?_
    refine r_y S H (y_len S rfl rfl Try.underlying37) rfl rfl rfl fun a S => ?_
    refine r_y S H (y_lt S rfl rfl rfl) rfl rfl rfl fun a S => ?_
    refine r_nil ?_
    refine x_then ?_
    refine r_test S rfl (fun h27 => ?_) (fun h27 => ?_)
    · skip
      refine wp_skip ?_
      refine x_then ?_
      refine r_seq ?_
      refine r_block ?_
      refine r_seq ?_
      obtain ⟨b3, o4, rfl⟩ := ((okv.more _).more _).addr H (by first | omega | (simp <;> omega))
      obtain ⟨b5, o6, rfl⟩ := ((okv2.more _).more _).addr H (by first | omega | (simp <;> omega))
      refine r_quiet (n := 59) (E' := [(0, .agg #[.slice (some ⟨b3, o4, none⟩) vals.length cv, .slice Al live.length cl]), (1, .agg #[.slice (some ⟨b5, o6, none⟩) vals2.length dv, .slice Bl live2.length dl]), (2, .pointer (some ⟨b1, 0, none⟩)), (3, .pointer (some ⟨b2, 0, none⟩)), (5, .int .i64 ((q : Nat) : Int)), (22, .bool ((decide (((vals.length : Nat) : Int) ≠ ((vals2.length : Nat) : Int))) || (decide (((live.length : Nat) : Int) ≠ ((live2.length : Nat) : Int))))), (23, .int .i64 ((q : Nat) : Int)), (24, .pointer (some ⟨b1, 0, none⟩)), (25, .slice (some ⟨b3, o4, none⟩) vals.length cv), (26, .int .i64 ((vals.length : Nat) : Int)), (27, .bool (decide (((q : Nat) : Int) < ((vals.length : Nat) : Int)))), (40, .bool (decide (((vals.getD q 0 : Nat) : Int) ≠ ((vals2.getD q 0 : Nat) : Int))))]) H rfl (by kernel_rfl) ?_ (fun a w S H => ?_)
      · skip
        refine q_y S (y_fieldAddr S rfl rfl fa40_0) rfl rfl rfl fun a S => ?_
        refine q_y S (y_load 1 S rfl rfl Try.isAgg37 rfl rfl) rfl rfl rfl fun a S => ?_
        refine q_y S (y_move S rfl rfl) rfl rfl rfl fun a S => ?_
        refine q_y S (y_index S rfl rfl rfl Try.underlying37 Try.sizeOf25 (by omega) (by omega)) rfl rfl rfl fun a S => ?_
        refine q_y S (y_loadAt S rfl rfl Try.isAgg25 (fun w H => ((okv.more _).more _).cell w H (u64s_at (i := q) (by first | omega | (simp <;> omega))))) rfl rfl rfl fun a S => ?_
        refine q_y S (y_fieldAddr S rfl rfl fa40_0) rfl rfl rfl fun a S => ?_
        refine q_y S (y_load 0 S rfl rfl Try.isAgg37 rfl rfl) rfl rfl rfl fun a S => ?_
        refine q_y S (y_move S rfl rfl) rfl rfl rfl fun a S => ?_
        refine q_y S (y_index S rfl rfl rfl Try.underlying37 Try.sizeOf25 (by omega) (by omega)) rfl rfl rfl fun a S => ?_
        refine q_y S (y_loadAt S rfl rfl Try.isAgg25 (fun w H => ((okv2.more _).more _).cell w H (u64s_at (i := q) (by first | omega | (simp <;> omega))))) rfl rfl rfl fun a S => ?_
        refine q_y S (y_ne S rfl rfl rfl) rfl rfl rfl fun a S => ?_
        exact q_nil (S.sub ⟨rfl, rfl, rfl, rfl, rfl, rfl, rfl, rfl, rfl, rfl, rfl, rfl, trivial⟩)
      · skip
        refine x_then ?_
        refine r_test S rfl (fun h40 => ?_) (fun h40 => ?_)
        · skip
          refine r_seq ?_
          refine r_region ?_
          refine r_y S H (y_assign S rfl rfl) rfl rfl rfl fun a S => ?_
          refine r_nil ?_
          refine x_then ?_
          refine wp_ret ?_
          refine x_blockRet ?_
          refine x_thenRet ?_
          refine x_thenRet ?_
          refine x_blockRet ?_
          refine x_thenRet ?_
          refine r_ret1 S H Try.results26 (ro_tmp S rfl) ?_
          refine ⟨congrArg Value.bool ?_, H.drop.drop⟩
          symm
          rw [decide_eq_false_iff_not]; intro e; injection e with e1 e2; rw [e1] at h40; simp at h40
        · skip
          refine wp_skip ?_
          refine x_blockEnd ?_
          refine x_then ?_
          refine r_region ?_
          refine r_y S H (y_move S rfl rfl) rfl rfl rfl fun a S => ?_
          refine r_y S H (y_add S rfl rfl rfl (wi64 (by omega) (by omega))) rfl rfl rfl fun a S => ?_
          refine r_y S H (y_assign S rfl rfl) rfl rfl rfl fun a S => ?_
          refine r_nil ?_
          refine x_then ?_
          exact ⟨q + 1, ⟨S.sub ⟨rfl, rfl, rfl, rfl, rfl, rfl, trivial⟩, H, ⟨by omega, fun j hj => by rcases Nat.lt_succ_iff_lt_or_eq.1 hj with h | h; (exact heq j h); (subst h; simp [-List.getD_eq_getElem?_getD] at h40; omega)⟩⟩, by omega⟩
    · skip
      refine wp_exit ?_
      refine x_thenExit ?_
      refine x_thenExit ?_
      refine x_blockHere ?_
      refine x_then ?_
      refine r_seq ?_
      refine r_seq ?_
      refine r_region ?_
      refine r_y S H (y_assign S rfl rfl) rfl rfl rfl fun a S => ?_
      refine r_nil ?_
      refine x_then ?_
      refine r_block ?_
      have heq : ∀ j, j < vals.length → vals.getD j 0 = vals2.getD j 0 := fun j hj => heq j (by omega)
      refine r_loop (ι := Nat) (fun q a w => Slots a 59 [(0, .agg #[.slice Av vals.length cv, .slice Al live.length cl]), (1, .agg #[.slice Bv vals2.length dv, .slice Bl live2.length dl]), (2, .pointer (some ⟨b1, 0, none⟩)), (3, .pointer (some ⟨b2, 0, none⟩)), (6, .int .i64 ((q : Nat) : Int)), (22, .bool ((decide (((vals.length : Nat) : Int) ≠ ((vals2.length : Nat) : Int))) || (decide (((live.length : Nat) : Int) ≠ ((live2.length : Nat) : Int))))), (24, .pointer (some ⟨b1, 0, none⟩)), (25, .slice Av vals.length cv), (26, .int .i64 ((vals.length : Nat) : Int))] ∧ Sat w (blk b2 (.cells #[.slice Bv vals2.length dv, .slice Bl live2.length dl] 40) :: blk b1 (.cells #[.slice Av vals.length cv, .slice Al live.length cl] 40) :: fr) ∧ (q ≤ live.length ∧ ∀ j, j < q → live.getD j false = live2.getD j false)) (fun q => live.length - q) 0 ⟨S.sub ⟨rfl, rfl, rfl, rfl, rfl, rfl, rfl, rfl, rfl, trivial⟩, H, ⟨Nat.zero_le _, fun j hj => absurd hj (Nat.not_lt_zero j)⟩⟩ (fun q a w hI => ?_)
      obtain ⟨S, H, hI⟩ := hI
      obtain ⟨hq2, heq2⟩ := hI
      refine r_seq ?_
      refine r_seq ?_
      refine r_region ?_
      refine r_y S H (y_move S rfl rfl) rfl rfl rfl fun a S => ?_
      refine r_y S H (y_fieldAddr S rfl rfl fa40_1) rfl rfl rfl fun a S => ?_
      refine r_y S H (y_load 1 S rfl rfl Try.isAgg38 rfl rfl) rfl rfl rfl fun a S => ?_
      refine r_y S H (y_len S rfl rfl Try.underlying38) rfl rfl rfl fun a S => ?_
      refine r_y S H (y_lt S rfl rfl rfl) rfl rfl rfl fun a S => ?_
      refine r_nil ?_
      refine x_then ?_
      refine r_test S rfl (fun h45 => ?_) (fun h45 => ?_)
      · skip
        refine wp_skip ?_
        refine x_then ?_
        refine r_seq ?_
        refine r_block ?_
        refine r_seq ?_
        obtain ⟨b7, o8, rfl⟩ := ((okl.more _).more _).addr H (by first | omega | (simp <;> omega))
        obtain ⟨b9, o10, rfl⟩ := ((okl2.more _).more _).addr H (by first | omega | (simp <;> omega))
        refine r_quiet (n := 59) (E' := [(0, .agg #[.slice Av vals.length cv, .slice (some ⟨b7, o8, none⟩) live.length cl]), (1, .agg #[.slice Bv vals2.length dv, .slice (some ⟨b9, o10, none⟩) live2.length dl]), (2, .pointer (some ⟨b1, 0, none⟩)), (3, .pointer (some ⟨b2, 0, none⟩)), (6, .int .i64 ((q : Nat) : Int)), (22, .bool ((decide (((vals.length : Nat) : Int) ≠ ((vals2.length : Nat) : Int))) || (decide (((live.length : Nat) : Int) ≠ ((live2.length : Nat) : Int))))), (24, .pointer (some ⟨b1, 0, none⟩)), (25, .slice Av vals.length cv), (26, .int .i64 ((vals.length : Nat) : Int)), (41, .int .i64 ((q : Nat) : Int)), (42, .pointer (some ⟨b1, 1, none⟩)), (43, .slice (some ⟨b7, o8, none⟩) live.length cl), (44, .int .i64 ((live.length : Nat) : Int)), (45, .bool (decide (((q : Nat) : Int) < ((live.length : Nat) : Int)))), (58, .bool ((live.getD q false) != (live2.getD q false)))]) H rfl (by kernel_rfl) ?_ (fun a w S H => ?_)
        · skip
          refine q_y S (y_fieldAddr S rfl rfl fa40_1) rfl rfl rfl fun a S => ?_
          refine q_y S (y_load 1 S rfl rfl Try.isAgg38 rfl rfl) rfl rfl rfl fun a S => ?_
          refine q_y S (y_move S rfl rfl) rfl rfl rfl fun a S => ?_
          refine q_y S (y_index S rfl rfl rfl Try.underlying38 Try.sizeOf4 (by omega) (by omega)) rfl rfl rfl fun a S => ?_
          refine q_y S (y_loadAt S rfl rfl Try.isAgg4 (fun w H => ((okl.more _).more _).cell w H (bools_at (i := q) (by first | omega | (simp <;> omega))))) rfl rfl rfl fun a S => ?_
          refine q_y S (y_fieldAddr S rfl rfl fa40_1) rfl rfl rfl fun a S => ?_
          refine q_y S (y_load 0 S rfl rfl Try.isAgg38 rfl rfl) rfl rfl rfl fun a S => ?_
          refine q_y S (y_move S rfl rfl) rfl rfl rfl fun a S => ?_
          refine q_y S (y_index S rfl rfl rfl Try.underlying38 Try.sizeOf4 (by omega) (by omega)) rfl rfl rfl fun a S => ?_
          refine q_y S (y_loadAt S rfl rfl Try.isAgg4 (fun w H => ((okl2.more _).more _).cell w H (bools_at (i := q) (by first | omega | (simp <;> omega))))) rfl rfl rfl fun a S => ?_
          refine q_y S (y_neB S rfl rfl rfl Try.underlying4) rfl rfl rfl fun a S => ?_
          exact q_nil (S.sub ⟨rfl, rfl, rfl, rfl, rfl, rfl, rfl, rfl, rfl, rfl, rfl, rfl, rfl, rfl, rfl, trivial⟩)
        · skip
          refine x_then ?_
          refine r_cond S rfl (fun h58 => ?_) (fun h58 => ?_)
          · skip
            refine r_seq ?_
            refine r_region ?_
            refine r_y S H (y_assign S rfl rfl) rfl rfl rfl fun a S => ?_
            refine r_nil ?_
            refine x_then ?_
            refine wp_ret ?_
            refine x_blockRet ?_
            refine x_thenRet ?_
            refine x_thenRet ?_
            refine x_blockRet ?_
            refine x_thenRet ?_
            refine r_ret1 S H Try.results26 (ro_tmp S rfl) ?_
            refine ⟨congrArg Value.bool ?_, H.drop.drop⟩
            symm
            rw [decide_eq_false_iff_not]; intro e; injection e with e1 e2; rw [e2] at h58; simp at h58
          · skip
            refine wp_skip ?_
            refine x_blockEnd ?_
            refine x_then ?_
            refine r_region ?_
            refine r_y S H (y_move S rfl rfl) rfl rfl rfl fun a S => ?_
            refine r_y S H (y_add S rfl rfl rfl (wi64 (by omega) (by omega))) rfl rfl rfl fun a S => ?_
            refine r_y S H (y_assign S rfl rfl) rfl rfl rfl fun a S => ?_
            refine r_nil ?_
            refine x_then ?_
            exact ⟨q + 1, ⟨S.sub ⟨rfl, rfl, rfl, rfl, rfl, rfl, rfl, rfl, rfl, trivial⟩, H, ⟨by omega, fun j hj => by rcases Nat.lt_succ_iff_lt_or_eq.1 hj with h | h; (exact heq2 j h); (subst h; simpa [-List.getD_eq_getElem?_getD] using h58)⟩⟩, by omega⟩
      · skip
        refine wp_exit ?_
        refine x_thenExit ?_
        refine x_thenExit ?_
        refine x_blockHere ?_
        refine x_then ?_
        refine r_seq ?_
        refine r_region ?_
        refine r_y S H (y_assign S rfl rfl) rfl rfl rfl fun a S => ?_
        refine r_nil ?_
        refine x_then ?_
        refine wp_ret ?_
        refine r_ret1 S H Try.results26 (ro_tmp S rfl) ?_
        refine ⟨congrArg Value.bool ?_, H.drop.drop⟩
        symm
        simp only [Bool.or_eq_false_iff, decide_eq_false_iff_not, Decidable.not_not, bne_eq_false_iff_eq] at h22
        rw [decide_eq_true_eq]
        refine Prod.ext (Tr.list_same 0 (by omega) fun j hj => heq j (by have : j < vals.length := hj; omega)) (Tr.list_same false (by omega) fun j hj => heq2 j (by have : j < live.length := hj; omega))

end Go.Proofs.Ytfmpgdhmfjllnaa
