/- Walks of functions of the program, over slots and resources. No condition. -/
import Derived.Test.YtfmpgdhmfjllnaaW13c
import Derived.Test.YtfmpgdhmfjllnaaTw
namespace Go.Proofs.Ytfmpgdhmfjllnaa
open Go.RowKit Go.Cg
set_option linter.unusedVariables false
set_option linter.unusedSimpArgs false
open Go.Cg.Tr (E top right graph)
set_option maxRecDepth 4000 in
theorem mul64_ct (w : World) (fr : List Res) (x y : Nat) (hx : x < 18446744073709551616) (hy : y < 18446744073709551616) (H : Sat w (fr)) :
    Rt Try.prog 53 #[.int .u64 ((x : Nat) : Int), .int .u64 ((y : Nat) : Int)] w fun v w' => v = .tuple #[.int .u64 ((x * y / 18446744073709551616 : Nat) : Int), .int .u64 ((x * y % 18446744073709551616 : Nat) : Int)] ∧ Sat w' fr := by
  obtain ⟨bd, bt, bw, hhi⟩ := Lib.mul64_hi x y hx hy
  have ba := Lib.half_mul_le (a := x / 4294967296) (b := y / 4294967296) (by omega) (by omega)
  have bb := Lib.half_mul_le (a := x / 4294967296) (b := y % 4294967296) (by omega) (by omega)
  have bc := Lib.half_mul_le (a := x % 4294967296) (b := y / 4294967296) (by omega) (by omega)
  refine rt_enter Try.func53 rfl (n := 51) Try.ntmps53 rfl fun a S => ?_
  refine r_seq ?_
  refine r_region ?_
  refine r_y S H (y_assign S rfl rfl) rfl rfl rfl fun a S => ?_
  refine r_y S H (y_assign S rfl rfl) rfl rfl rfl fun a S => ?_
  refine r_nil ?_
  refine x_then ?_
  refine r_seq ?_
  refine r_region ?_
  refine r_y S H (y_move S rfl rfl) rfl rfl rfl fun a S => ?_
  refine r_y S H (y_bitop S rfl rfl rfl (fun w => mask32 x (by omega) w)) rfl rfl rfl fun a S => ?_
  refine r_y S H (y_assign S rfl rfl) rfl rfl rfl fun a S => ?_
  refine r_nil ?_
  refine x_then ?_
  refine r_seq ?_
  refine r_region ?_
  refine r_y S H (y_move S rfl rfl) rfl rfl rfl fun a S => ?_
  refine r_y S H (y_bitop S rfl rfl rfl (fun w => div32 x w)) rfl rfl rfl fun a S => ?_
  refine r_y S H (y_assign S rfl rfl) rfl rfl rfl fun a S => ?_
  refine r_nil ?_
  refine x_then ?_
  refine r_seq ?_
  refine r_region ?_
  refine r_y S H (y_move S rfl rfl) rfl rfl rfl fun a S => ?_
  refine r_y S H (y_bitop S rfl rfl rfl (fun w => mask32 y (by omega) w)) rfl rfl rfl fun a S => ?_
  refine r_y S H (y_assign S rfl rfl) rfl rfl rfl fun a S => ?_
  refine r_nil ?_
  refine x_then ?_
  refine r_seq ?_
  refine r_region ?_
  refine r_y S H (y_move S rfl rfl) rfl rfl rfl fun a S => ?_
  refine r_y S H (y_bitop S rfl rfl rfl (fun w => div32 y w)) rfl rfl rfl fun a S => ?_
  refine r_y S H (y_assign S rfl rfl) rfl rfl rfl fun a S => ?_
  refine r_nil ?_
  refine x_then ?_
  refine r_seq ?_
  refine r_region ?_
  refine r_y S H (y_move S rfl rfl) rfl rfl rfl fun a S => ?_
  refine r_y S H (y_move S rfl rfl) rfl rfl rfl fun a S => ?_
  refine r_y S H (y_mul S rfl rfl rfl (wu64 (by omega) (by omega))) rfl rfl rfl fun a S => ?_
  refine r_y S H (y_assign S rfl rfl) rfl rfl rfl fun a S => ?_
  refine r_nil ?_
  refine x_then ?_
  refine r_seq ?_
  refine r_region ?_
  refine r_y S H (y_move S rfl rfl) rfl rfl rfl fun a S => ?_
  refine r_y S H (y_move S rfl rfl) rfl rfl rfl fun a S => ?_
  refine r_y S H (y_mul S rfl rfl rfl (wu64 (by omega) (by omega))) rfl rfl rfl fun a S => ?_
  refine r_y S H (y_move S rfl rfl) rfl rfl rfl fun a S => ?_
  refine r_y S H (y_bitop S rfl rfl rfl (fun w => div32 ((x % 4294967296) * (y % 4294967296)) w)) rfl rfl rfl fun a S => ?_
  refine r_y S H (y_add S rfl rfl rfl (wu64 (by omega) (by omega))) rfl rfl rfl fun a S => ?_
  refine r_y S H (y_assign S rfl rfl) rfl rfl rfl fun a S => ?_
  refine r_nil ?_
  refine x_then ?_
  refine r_seq ?_
  refine r_region ?_
  refine r_y S H (y_move S rfl rfl) rfl rfl rfl fun a S => ?_
  refine r_y S H (y_bitop S rfl rfl rfl (fun w => mask32 (((x / 4294967296) * (y % 4294967296)) + (((x % 4294967296) * (y % 4294967296)) / 4294967296)) (by omega) w)) rfl rfl rfl fun a S => ?_
  refine r_y S H (y_assign S rfl rfl) rfl rfl rfl fun a S => ?_
  refine r_nil ?_
  refine x_then ?_
  refine r_seq ?_
  refine r_region ?_
  refine r_y S H (y_move S rfl rfl) rfl rfl rfl fun a S => ?_
  refine r_y S H (y_bitop S rfl rfl rfl (fun w => div32 (((x / 4294967296) * (y % 4294967296)) + (((x % 4294967296) * (y % 4294967296)) / 4294967296)) w)) rfl rfl rfl fun a S => ?_
  refine r_y S H (y_assign S rfl rfl) rfl rfl rfl fun a S => ?_
  refine r_nil ?_
  refine x_then ?_
  refine r_seq ?_
  refine r_region ?_
  refine r_y S H (y_move S rfl rfl) rfl rfl rfl fun a S => ?_
  refine r_y S H (y_move S rfl rfl) rfl rfl rfl fun a S => ?_
  refine r_y S H (y_move S rfl rfl) rfl rfl rfl fun a S => ?_
  refine r_y S H (y_mul S rfl rfl rfl (wu64 (by omega) (by omega))) rfl rfl rfl fun a S => ?_
  refine r_y S H (y_add S rfl rfl rfl (wu64 (by omega) (by omega))) rfl rfl rfl fun a S => ?_
  refine r_y S H (y_assign S rfl rfl) rfl rfl rfl fun a S => ?_
  refine r_nil ?_
  refine x_then ?_
  refine r_seq ?_
  refine r_region ?_
  refine r_y S H (y_move S rfl rfl) rfl rfl rfl fun a S => ?_
  refine r_y S H (y_move S rfl rfl) rfl rfl rfl fun a S => ?_
  refine r_y S H (y_mul S rfl rfl rfl (wu64 (by omega) (by omega))) rfl rfl rfl fun a S => ?_
  refine r_y S H (y_move S rfl rfl) rfl rfl rfl fun a S => ?_
  refine r_y S H (y_add S rfl rfl rfl (wu64 (by omega) (by omega))) rfl rfl rfl fun a S => ?_
  refine r_y S H (y_move S rfl rfl) rfl rfl rfl fun a S => ?_
  refine r_y S H (y_bitop S rfl rfl rfl (fun w => div32 (((((x / 4294967296) * (y % 4294967296)) + (((x % 4294967296) * (y % 4294967296)) / 4294967296)) % 4294967296) + ((x % 4294967296) * (y / 4294967296))) w)) rfl rfl rfl fun a S => ?_
  refine r_y S H (y_add S rfl rfl rfl (wu64 (by omega) (by omega))) rfl rfl rfl fun a S => ?_
  refine r_y S H (y_assign S rfl rfl) rfl rfl rfl fun a S => ?_
  refine r_nil ?_
  refine x_then ?_
  refine r_seq ?_
  refine r_region ?_
  refine r_y S H (y_move S rfl rfl) rfl rfl rfl fun a S => ?_
  refine r_y S H (y_move S rfl rfl) rfl rfl rfl fun a S => ?_
  refine r_y S H (y_mulW S rfl rfl rfl) rfl rfl rfl fun a S => ?_
  refine r_y S H (y_assign S rfl rfl) rfl rfl rfl fun a S => ?_
  refine r_nil ?_
  refine x_then ?_
  refine wp_ret ?_
  refine r_ret2 S H Try.results53 (ro_tmp S rfl) (ro_tmp S rfl) ?_
  rw [← hhi]
  exact ⟨by simp only [wrap_u64]; rfl, H⟩

set_option maxRecDepth 4000 in
theorem mul_ct (w : World) (fr : List Res) (x y : Nat) (hx : x < 18446744073709551616) (hy : y < 18446744073709551616) (H : Sat w (fr)) :
    Rt Try.prog 47 #[.int .u64 ((x : Nat) : Int), .int .u64 ((y : Nat) : Int)] w fun v w' => v = .tuple #[.int .u64 ((x * y / 18446744073709551616 : Nat) : Int), .int .u64 ((x * y % 18446744073709551616 : Nat) : Int)] ∧ Sat w' fr := by
  refine rt_enter Try.func47 rfl (n := 30) Try.ntmps47 rfl fun a S => ?_
  refine r_seq ?_
  refine r_region ?_
  refine r_y S H (y_assign S rfl rfl) rfl rfl rfl fun a S => ?_
  refine r_y S H (y_assign S rfl rfl) rfl rfl rfl fun a S => ?_
  refine r_nil ?_
  refine x_then ?_
  refine r_seq ?_
  refine r_condF S rfl ?_
  refine wp_skip ?_
  refine x_then ?_
  refine r_seq ?_
  refine r_region ?_
  refine r_y S H (y_move S rfl rfl) rfl rfl rfl fun a S => ?_
  refine r_y S H (y_move S rfl rfl) rfl rfl rfl fun a S => ?_
  refine r_call (args := #[.int .u64 ((x : Nat) : Int), .int .u64 ((y : Nat) : Int)]) S rfl rfl Try.call53 (mul64_ct (H := H) _ _ x y (by omega) (by omega)) rfl rfl rfl fun v a w hR S => ?_
  obtain ⟨rfl, H⟩ := hR
  refine r_y S H (y_move S rfl rfl) rfl rfl rfl fun a S => ?_
  refine r_y S H (y_extract (v := .int .u64 ((x * y / 18446744073709551616 : Nat) : Int)) S rfl rfl rfl) rfl rfl rfl fun a S => ?_
  refine r_y S H (y_extract (v := .int .u64 ((x * y % 18446744073709551616 : Nat) : Int)) S rfl rfl rfl) rfl rfl rfl fun a S => ?_
  refine r_y S H (y_assign S rfl rfl) rfl rfl rfl fun a S => ?_
  refine r_y S H (y_assign S rfl rfl) rfl rfl rfl fun a S => ?_
  refine r_nil ?_
  refine x_then ?_
  refine r_seq ?_
  refine r_region ?_
  refine r_y S H (y_move S rfl rfl) rfl rfl rfl fun a S => ?_
  refine r_y S H (y_move S rfl rfl) rfl rfl rfl fun a S => ?_
  refine r_y S H (y_assign S rfl rfl) rfl rfl rfl fun a S => ?_
  refine r_y S H (y_assign S rfl rfl) rfl rfl rfl fun a S => ?_
  refine r_nil ?_
  refine x_then ?_
  refine wp_ret ?_
  refine r_ret2 S H Try.results47 (ro_tmp S rfl) (ro_tmp S rfl) ?_
  exact ⟨rfl, H⟩

set_option maxRecDepth 4000 in
theorem repeat_ct (w : World) (fr : List Res) (Ab : Option Addr) (cb : Nat) (tt : Bool) (okb : SlOk fr 1 Ab 1 cb (bools [tt])) (m : Nat) (hm : m ≤ 1048576) (H : Sat w (fr)) :
    Rt Try.prog 42 #[.slice Ab 1 cb, .int .i64 ((m : Nat) : Int)] w fun v w' => (∃ A c, v = .slice A m c ∧ Sat w' (row 4 1 (.slice A m c) m (bools (List.replicate m tt)) :: fr)) := by
  refine rt_enter Try.func42 rfl (n := 48) Try.ntmps42 rfl fun a S => ?_
  refine r_seq ?_
  refine r_region ?_
  refine r_y S H (y_assign S rfl rfl) rfl rfl rfl fun a S => ?_
  refine r_nil ?_
  refine x_then ?_
  refine r_seq ?_
  refine r_seq ?_
  refine r_region ?_
  refine r_y S H (y_move S rfl rfl) rfl rfl rfl fun a S => ?_
  refine r_y S H (y_lt S rfl rfl rfl) rfl rfl rfl fun a S => ?_
  refine r_nil ?_
  refine x_then ?_
  refine r_test S rfl (fun h10 => ?_) (fun h10 => ?_)
  · skip
    exfalso; omega
  · skip
    refine wp_skip ?_
    refine x_then ?_
    refine r_seq ?_
    refine r_region ?_
    refine r_y S H (y_move S rfl rfl) rfl rfl rfl fun a S => ?_
    refine r_y S H (y_len S rfl rfl Try.underlying38) rfl rfl rfl fun a S => ?_
    refine r_y S H (y_conv S rfl rfl Try.underlying3 Try.underlying71 (wu64 (by omega) (by omega))) rfl rfl rfl fun a S => ?_
    refine r_y S H (y_move S rfl rfl) rfl rfl rfl fun a S => ?_
    refine r_y S H (y_conv S rfl rfl Try.underlying3 Try.underlying71 (wu64 (by omega) (by omega))) rfl rfl rfl fun a S => ?_
    refine r_call (args := #[.int .u64 1, .int .u64 ((m : Nat) : Int)]) S rfl rfl Try.call47 (mul_ct (H := H) _ _ 1 m (by omega) (by omega)) rfl rfl rfl fun v a w hR S => ?_
    obtain ⟨rfl, H⟩ := hR
    refine r_y S H (y_move S rfl rfl) rfl rfl rfl fun a S => ?_
    refine r_y S H (y_extract (v := .int .u64 ((1 * m / 18446744073709551616 : Nat) : Int)) S rfl rfl rfl) rfl rfl rfl fun a S => ?_
    have S := S.retell (v' := .int .u64 0) 19 rfl (int_eq (by omega))
    refine r_y S H (y_extract (v := .int .u64 ((1 * m % 18446744073709551616 : Nat) : Int)) S rfl rfl rfl) rfl rfl rfl fun a S => ?_
    have S := S.retell (v' := .int .u64 ((m : Nat) : Int)) 20 rfl (int_eq (by omega))
    refine r_y S H (y_assign S rfl rfl) rfl rfl rfl fun a S => ?_
    refine r_y S H (y_assign S rfl rfl) rfl rfl rfl fun a S => ?_
    refine r_nil ?_
    refine x_then ?_
    refine r_seq ?_
    refine r_seq ?_
    refine wp_via (J := fun a w => Slots a 48 [(0, .slice Ab 1 cb), (1, .int .i64 ((m : Nat) : Int)), (4, .slice none 0 0), (5, .int .u64 0), (6, .int .u64 ((m : Nat) : Int)), (9, .int .i64 ((m : Nat) : Int)), (10, .bool (decide (((m : Nat) : Int) < 0))), (12, .tuple #[.int .u64 ((1 * m / 18446744073709551616 : Nat) : Int), .int .u64 ((1 * m % 18446744073709551616 : Nat) : Int)]), (13, .slice Ab 1 cb), (14, .int .i64 1), (15, .int .u64 1), (16, .int .i64 ((m : Nat) : Int)), (17, .int .u64 ((m : Nat) : Int)), (18, .tuple #[.int .u64 ((1 * m / 18446744073709551616 : Nat) : Int), .int .u64 ((1 * m % 18446744073709551616 : Nat) : Int)]), (19, .int .u64 0), (20, .int .u64 ((m : Nat) : Int)), (26, .bool (decide (9223372036854775807 < ((m : Nat) : Int))))] ∧ Sat w (fr)) ?_ (fun a w hm => ?_)
    · skip
      refine r_region ?_
      refine r_y S H (y_move S rfl rfl) rfl rfl rfl fun a S => ?_
      refine r_y S H (y_gt S rfl rfl rfl) rfl rfl rfl fun a S => ?_
      refine r_y S H (y_move S rfl rfl) rfl rfl rfl fun a S => ?_
      refine r_y S H (y_move S rfl rfl) rfl rfl rfl fun a S => ?_
      refine r_y S H (y_gt S rfl rfl rfl) rfl rfl rfl fun a S => ?_
      refine r_y S H (y_pickF S rfl rfl rfl) rfl rfl rfl fun a S => ?_
      refine r_nil ?_
      refine x_then ?_
      exact ⟨S.sub ⟨rfl, rfl, rfl, rfl, rfl, rfl, rfl, rfl, rfl, rfl, rfl, rfl, rfl, rfl, rfl, rfl, rfl, trivial⟩, H⟩
    obtain ⟨S, H⟩ := hm
    refine x_then ?_
    refine r_test S rfl (fun h26 => ?_) (fun h26 => ?_)
    · skip
      exfalso; (try simp at h26); omega
    · skip
      refine wp_skip ?_
      refine x_then ?_
      refine r_seq ?_
      refine r_region ?_
      refine r_y S H (y_move S rfl rfl) rfl rfl rfl fun a S => ?_
      refine r_y S H (y_conv S rfl rfl Try.underlying71 Try.underlying3 (wi64 (by omega) (by omega))) rfl rfl rfl fun a S => ?_
      refine r_make (len := m) S H rfl rfl rfl el38 (by simp only [maxLen]; omega) (by omega) rfl rfl rfl fun a w b S H => ?_
      rw [made_bools] at H
      refine r_y S H (y_assign S rfl rfl) rfl rfl rfl fun a S => ?_
      refine r_nil ?_
      refine x_then ?_
      refine r_seq ?_
      refine r_region ?_
      refine r_y S H (y_move S rfl rfl) rfl rfl rfl fun a S => ?_
      refine r_y S H (y_move S rfl rfl) rfl rfl rfl fun a S => ?_
      refine r_copy (L' := row 4 1 (.slice (some ⟨b, 0, none⟩) m m) m (bools (List.replicate (min 1 m) tt ++ List.replicate (m - min 1 m) false)) :: fr) 0 S H rfl rfl rfl Try.underlying38 (by kernel_rfl) (okb.more _) (one_bools _) rfl (by first | omega | (simp <;> omega)) (by rcases Nat.eq_zero_or_pos m with h | h; (subst h; rfl); (obtain ⟨q, rfl⟩ : ∃ q, m = q + 1 := ⟨m - 1, by omega⟩; simp [bools, List.replicate_succ])) rfl rfl rfl fun a w S H => ?_
      refine r_y S H (y_assign S rfl rfl) rfl rfl rfl fun a S => ?_
      refine r_nil ?_
      refine x_then ?_
      refine r_seq ?_
      refine r_block ?_
      refine r_loop (ι := Nat) (fun k a w => Slots a 48 [(0, .slice Ab 1 cb), (1, .int .i64 ((m : Nat) : Int)), (4, .slice none 0 0), (5, .int .u64 0), (6, .int .u64 ((m : Nat) : Int)), (7, .slice (some ⟨b, 0, none⟩) m m), (8, .int .i64 ((k : Nat) : Int)), (9, .int .i64 ((m : Nat) : Int)), (10, .bool (decide (((m : Nat) : Int) < 0))), (12, .tuple #[.int .u64 ((1 * m / 18446744073709551616 : Nat) : Int), .int .u64 ((1 * m % 18446744073709551616 : Nat) : Int)]), (13, .slice Ab 1 cb), (14, .int .i64 1), (15, .int .u64 1), (16, .int .i64 ((m : Nat) : Int)), (17, .int .u64 ((m : Nat) : Int)), (18, .tuple #[.int .u64 ((1 * m / 18446744073709551616 : Nat) : Int), .int .u64 ((1 * m % 18446744073709551616 : Nat) : Int)]), (19, .int .u64 0), (20, .int .u64 ((m : Nat) : Int)), (26, .bool (decide (9223372036854775807 < ((m : Nat) : Int)))), (28, .int .u64 ((m : Nat) : Int)), (29, .int .i64 ((m : Nat) : Int)), (30, .slice (some ⟨b, 0, none⟩) m m), (31, .slice (some ⟨b, 0, none⟩) m m), (32, .slice Ab 1 cb), (33, .int .i64 ((min 1 m : Nat) : Int))] ∧ Sat w (row 4 1 (.slice (some ⟨b, 0, none⟩) m m) m (bools (List.replicate k tt ++ List.replicate (m - k) false)) :: fr) ∧ (k ≤ m ∧ (0 < m → 0 < k))) (fun k => m - k) (min 1 m) ⟨S.sub ⟨rfl, rfl, rfl, rfl, rfl, rfl, rfl, rfl, rfl, rfl, rfl, rfl, rfl, rfl, rfl, rfl, rfl, rfl, rfl, rfl, rfl, rfl, rfl, rfl, rfl, trivial⟩, H, ⟨by omega, by omega⟩⟩ (fun k a w hI => ?_)
      obtain ⟨S, H, hI⟩ := hI
      obtain ⟨hk, h0⟩ := hI
      refine r_seq ?_
      refine r_seq ?_
      refine r_region ?_
      refine r_y S H (y_move S rfl rfl) rfl rfl rfl fun a S => ?_
      refine r_y S H (y_move S rfl rfl) rfl rfl rfl fun a S => ?_
      refine r_y S H (y_len S rfl rfl Try.underlying38) rfl rfl rfl fun a S => ?_
      refine r_y S H (y_lt S rfl rfl rfl) rfl rfl rfl fun a S => ?_
      refine r_nil ?_
      refine x_then ?_
      refine r_test S rfl (fun h37 => ?_) (fun h37 => ?_)
      · skip
        refine wp_skip ?_
        refine x_then ?_
        refine r_block ?_
        refine h_start (fr) (ls := [false, false, false, false, false, false, false, false, false, false]) H rfl rfl fun w H => ?_
        have HS : Sat _ (fr) := (H.pick [] 1 rfl)
        refine h_y 0 S HS rfl (y_move S rfl rfl) rfl rfl rfl (by kernel_rfl) (by kernel_rfl) (by kernel_rfl) (ls' := [true, false, false, false, false, false, false, false, false, false]) rfl (fun _ _ _ h => h) fun a S => ?_
        refine h_y 1 S HS rfl (y_move S rfl rfl) rfl rfl rfl (by kernel_rfl) (by kernel_rfl) (by kernel_rfl) (ls' := [true, true, false, false, false, false, false, false, false, false]) rfl (fun _ _ _ h => h) fun a S => ?_
        refine h_y 2 S HS rfl (y_move S rfl rfl) rfl rfl rfl (by kernel_rfl) (by kernel_rfl) (by kernel_rfl) (ls' := [true, true, true, false, false, false, false, false, false, false]) rfl (fun _ _ _ h => h) fun a S => ?_
        refine h_y 3 S HS rfl (y_sliceRow (k := k) (by omega) S rfl rfl rfl Try.underlying38 Try.sizeOf4 rfl) rfl rfl rfl (by kernel_rfl) (by kernel_rfl) (by kernel_rfl) (ls' := [true, true, true, true, false, false, false, false, false, false]) rfl (fun _ _ _ h => h) fun a S => ?_
        refine h_y 4 S HS rfl (y_move S rfl rfl) rfl rfl rfl (by kernel_rfl) (by kernel_rfl) (by kernel_rfl) (ls' := [true, true, true, true, true, false, false, false, false, false]) rfl (fun _ _ _ h => h) fun a S => ?_
        refine h_y 5 S HS rfl (y_move S rfl rfl) rfl rfl rfl (by kernel_rfl) (by kernel_rfl) (by kernel_rfl) (ls' := [true, true, true, true, true, true, false, false, false, false]) rfl (fun _ _ _ h => h) fun a S => ?_
        refine h_all (r := 6) (rs := []) (by kernel_rfl) ⟨h_op (ls' := [true, true, true, true, true, true, true, false, false, false]) rfl rfl ?_, trivial⟩
        refine r_y S H (y_sliceH (k := k) S rfl rfl rfl Try.underlying38 Try.sizeOf4 (by first | omega | (simp <;> omega)) (by first | omega | (simp <;> omega))) rfl rfl rfl fun a S => ?_
        refine r_nil ?_
        refine x_then ?_
        have HS : Sat _ (fr) := (H.pick [] 1 rfl)
        refine ⟨HS, ?_⟩
        refine h_all (r := 7) (rs := []) (by kernel_rfl) ⟨h_op (ls' := [true, true, true, true, true, true, true, true, false, false]) rfl rfl ?_, trivial⟩
        refine r_copy (L' := row 4 1 (.slice (some ⟨b, 0, none⟩) m m) m (bools (List.replicate (k + min k (m - k)) tt ++ List.replicate (m - (k + min k (m - k))) false)) :: fr) 0 S H rfl rfl rfl Try.underlying38 (by kernel_rfl) (bools_take (List.replicate k tt ++ List.replicate (m - k) false) k ▸ (SlOk.ofRow (i := 0) H rfl).init k (by first | omega | (simp <;> omega))) (one_bools _) rfl (by first | omega | (simp <;> omega)) (by rw [rep_copy (by omega)]; rfl) rfl rfl rfl fun a w S H => ?_
        refine r_nil ?_
        refine x_then ?_
        have HS : Sat _ (fr) := (H.pick [] 1 rfl)
        refine ⟨HS, ?_⟩
        refine h_y 8 S HS rfl (y_add S rfl rfl rfl (wi64 (by omega) (by omega))) rfl rfl rfl (by kernel_rfl) (by kernel_rfl) (by kernel_rfl) (ls' := [true, true, true, true, true, true, true, true, true, false]) rfl (fun _ _ _ h => h) fun a S => ?_
        refine h_y 9 S HS rfl (y_assign S rfl rfl) rfl rfl rfl (by kernel_rfl) (by kernel_rfl) (by kernel_rfl) (ls' := [true, true, true, true, true, true, true, true, true, true]) rfl (fun _ _ _ h => h) fun a S => ?_
        refine h_done (by kernel_rfl) ?_
        refine x_blockEnd ?_
        refine x_then ?_
        exact ⟨k + min k (m - k), ⟨S.sub ⟨rfl, rfl, rfl, rfl, rfl, rfl, rfl, rfl, rfl, rfl, rfl, rfl, rfl, rfl, rfl, rfl, rfl, rfl, rfl, rfl, rfl, rfl, rfl, rfl, rfl, trivial⟩, H, ⟨by omega, by omega⟩⟩, by omega⟩
      · skip
        refine wp_exit ?_
        refine x_thenExit ?_
        refine x_thenExit ?_
        refine x_blockHere ?_
        refine x_then ?_
        refine r_seq ?_
        refine r_region ?_
        refine r_y S H (y_move S rfl rfl) rfl rfl rfl fun a S => ?_
        refine r_y S H (y_assign S rfl rfl) rfl rfl rfl fun a S => ?_
        refine r_nil ?_
        refine x_then ?_
        refine wp_ret ?_
        refine r_ret1 S H Try.results42 (ro_tmp S rfl) ?_
        have hkm : k = m := by omega
        subst hkm
        refine ⟨_, _, rfl, ?_⟩
        simpa using H

set_option maxRecDepth 4000 in
theorem start_ct (w : World) (fr : List Res) (k : Int) (s : Nat) (hs : s < 4294967296) (n : Int) (A : Option Addr) (c : Nat) (es : List E) (ok : SlOk fr 3 A es.length c (ecells es)) (hes : ∀ e ∈ es, e.f < 4294967296 ∧ e.t < 4294967296) (H : Sat w (fr)) :
    Rt Try.prog 29 #[.agg #[.int .i64 k, .int .u32 ((s : Nat) : Int)], .agg #[.int .i64 n, .slice A es.length c]] w fun v w' => (∃ A1 c1 A2 c2, v = .tuple #[.agg #[.slice A1 (Tr.startR k s n es).1.length c1, .slice A2 (Tr.startR k s n es).2.length c2], .int .i64 (Tr.err (Tr.may k s n es))] ∧ Sat w' (row 25 1 (.slice A1 (Tr.startR k s n es).1.length c1) (Tr.startR k s n es).1.length (u64s (Tr.startR k s n es).1) :: row 4 1 (.slice A2 (Tr.startR k s n es).2.length c2) (Tr.startR k s n es).2.length (bools (Tr.startR k s n es).2) :: fr)) := by
  refine rt_enter Try.func29 rfl (n := 74) Try.ntmps29 rfl fun a S => ?_
  refine r_seq ?_
  refine r_region ?_
  refine r_box (c := #[.int .i64 k, .int .u32 ((s : Nat) : Int)]) S H rfl rfl rfl rfl rfl rfl fun a w b1 S H => ?_
  refine r_box (c := #[.int .i64 n, .slice A es.length c]) S H rfl rfl rfl rfl rfl rfl fun a w b2 S H => ?_
  refine r_alloc S H rfl Try.zeroValue40 rfl rfl rfl rfl fun a w b3 S H => ?_
  refine r_y S H (y_assign S rfl rfl) rfl rfl rfl fun a S => ?_
  refine r_nil ?_
  refine x_then ?_
  refine r_seq ?_
  refine r_seq ?_
  refine r_region ?_
  refine r_y S H (y_loadAgg [_, _] 2 S rfl rfl (fun w => ⟨Try.isAgg24 w, Try.sizeOf24 w⟩) rfl rfl ⟨rfl, rfl, trivial⟩) rfl rfl rfl fun a S => ?_
  refine r_y S H (y_loadAgg [_, _] 1 S rfl rfl (fun w => ⟨Try.isAgg35 w, Try.sizeOf35 w⟩) rfl rfl ⟨rfl, rfl, trivial⟩) rfl rfl rfl fun a S => ?_
  refine r_call (args := #[.agg #[.int .i64 k, .int .u32 ((s : Nat) : Int)], .agg #[.int .i64 n, .slice A es.length c]]) S rfl rfl Try.call41 (may_ct (H := H) _ _ k s (by omega) n _ _ es (((ok.more _).more _).more _) hes) rfl rfl rfl fun v a w hR S => ?_
  obtain ⟨rfl, H⟩ := hR
  refine r_y S H (y_not S rfl rfl) rfl rfl rfl fun a S => ?_
  refine r_nil ?_
  refine x_then ?_
  refine r_cond S rfl (fun h11 => ?_) (fun h11 => ?_)
  · skip
    refine r_seq ?_
    refine r_region ?_
    refine r_y S H (y_build (vs := #[]) (v := .agg #[.slice none 0 0, .slice none 0 0]) S rfl rfl (fun w => by kernel_rfl)) rfl rfl rfl fun a S => ?_
    refine r_store (vs := [.slice none 0 0, .slice none 0 0]) 0 S H rfl rfl rfl rfl Try.sizeOf40 rfl rfl (by simp [Value.oneCell']) rfl rfl rfl rfl rfl fun w H => ?_
    refine r_y S H (y_assign S rfl rfl) rfl rfl rfl fun a S => ?_
    refine r_nil ?_
    refine x_then ?_
    refine wp_ret ?_
    refine x_thenRet ?_
    refine r_ret2 S H Try.results29 (ro_agg [_, _] (i := 0) S rfl (fun w => ⟨Try.isAgg40 w, Try.sizeOf40 w⟩) rfl rfl ⟨rfl, rfl, trivial⟩) (ro_tmp S rfl) ?_
    have hm : Tr.may k s n es = false := by simpa using h11
    rw [Tr.startR_no hm, hm]
    exact ⟨none, 0, none, 0, rfl, (H.drop.drop.drop.nilRow _ _).nilRow _ _⟩
  · skip
    have hmay : Tr.may k s n es = true := by simpa using h11
    obtain ⟨hn0, hn1, hel, hee, hk1, hk5, hks⟩ := Tr.may_facts hmay
    obtain ⟨m, rfl⟩ := Int.eq_ofNat_of_zero_le hn0
    refine wp_skip ?_
    refine x_then ?_
    refine r_seq ?_
    refine wp_via (J := fun a w => ∃ b4 : Nat, ∃ b5 : Nat, ∃ A6 : Option Addr, ∃ c7 : Nat, ∃ b8 : Nat, Slots a 74 [(0, .agg #[.int .i64 k, .int .u32 ((s : Nat) : Int)]), (1, .agg #[.int .i64 ((m : Nat) : Int), .slice A es.length c]), (2, .pointer (some ⟨b1, 0, none⟩)), (3, .pointer (some ⟨b2, 0, none⟩)), (4, .pointer (some ⟨b3, 0, none⟩)), (5, .int .i64 0), (6, .pointer (some ⟨b8, 0, none⟩)), (8, .agg #[.int .i64 k, .int .u32 ((s : Nat) : Int)]), (9, .agg #[.int .i64 ((m : Nat) : Int), .slice A es.length c]), (10, .bool (Tr.may k s ((m : Nat) : Int) es)), (11, .bool (!(Tr.may k s ((m : Nat) : Int) es)))] ∧ Sat w (blk b8 (.cells #[.slice (some ⟨b4, 0, none⟩) m m, .slice A6 m c7] 40) :: row 4 1 (.slice A6 m c7) m (bools (List.replicate m true)) :: row 4 1 (.slice (some ⟨b5, 0, none⟩) 1 1) 1 (bools [true]) :: row 25 1 (.slice (some ⟨b4, 0, none⟩) m m) m (u64s (List.replicate m 0)) :: blk b3 (.cells #[.slice none 0 0, .slice none 0 0] 40) :: blk b2 (.cells #[.int .i64 ((m : Nat) : Int), .slice A es.length c] 35) :: blk b1 (.cells #[.int .i64 k, .int .u32 ((s : Nat) : Int)] 24) :: fr)) ?_ (fun a w hm => ?_)
    · skip
      refine h_start (blk b3 (.cells #[.slice none 0 0, .slice none 0 0] 40) :: blk b2 (.cells #[.int .i64 ((m : Nat) : Int), .slice A es.length c] 35) :: blk b1 (.cells #[.int .i64 k, .int .u32 ((s : Nat) : Int)] 24) :: fr) (ls := [false, false, false, false, false, false, false, false, false, false]) H rfl rfl fun w H => ?_
      have HS : Sat _ (blk b3 (.cells #[.slice none 0 0, .slice none 0 0] 40) :: blk b2 (.cells #[.int .i64 ((m : Nat) : Int), .slice A es.length c] 35) :: blk b1 (.cells #[.int .i64 k, .int .u32 ((s : Nat) : Int)] 24) :: fr) := H
      refine h_y 0 S HS rfl (y_fieldAddr S rfl rfl fa35_0) rfl rfl rfl (by kernel_rfl) (by kernel_rfl) (by kernel_rfl) (ls' := [true, false, false, false, false, false, false, false, false, false]) rfl (fun _ _ _ h => h) fun a S => ?_
      refine h_y 1 S HS rfl (y_load 1 S rfl rfl Try.isAgg3 rfl rfl) rfl rfl rfl (by kernel_rfl) (by kernel_rfl) (by kernel_rfl) (ls' := [true, true, false, false, false, false, false, false, false, false]) rfl (fun _ _ _ h => h) fun a S => ?_
      refine h_y 4 S HS rfl (y_fieldAddr S rfl rfl fa35_0) rfl rfl rfl (by kernel_rfl) (by kernel_rfl) (by kernel_rfl) (ls' := [true, true, false, false, true, false, false, false, false, false]) rfl (fun _ _ _ h => h) fun a S => ?_
      refine h_y 5 S HS rfl (y_load 1 S rfl rfl Try.isAgg3 rfl rfl) rfl rfl rfl (by kernel_rfl) (by kernel_rfl) (by kernel_rfl) (ls' := [true, true, false, false, true, true, false, false, false, false]) rfl (fun _ _ _ h => h) fun a S => ?_
      refine h_all (r := 2) (rs := [3, 8]) (by kernel_rfl) ⟨h_op (ls' := [true, true, true, false, true, true, false, false, false, false]) rfl rfl ?_, h_op (ls' := [true, true, false, true, true, true, false, false, false, false]) rfl rfl ?_, h_op (ls' := [true, true, false, false, true, true, false, false, true, false]) rfl rfl ?_, trivial⟩
      · skip
        refine r_make (len := m) S H rfl rfl rfl el37 (by simp only [maxLen]; omega) (by omega) rfl rfl rfl fun a w b4 S H => ?_
        rw [made_u64s] at H
        refine r_nil ?_
        refine x_then ?_
        have HS : Sat _ (blk b3 (.cells #[.slice none 0 0, .slice none 0 0] 40) :: blk b2 (.cells #[.int .i64 ((m : Nat) : Int), .slice A es.length c] 35) :: blk b1 (.cells #[.int .i64 k, .int .u32 ((s : Nat) : Int)] 24) :: fr) := (H.pick [1, 2, 3] 4 rfl)
        refine ⟨HS, ?_⟩
        refine h_all (r := 3) (rs := [8]) (by kernel_rfl) ⟨h_op (ls' := [true, true, true, true, true, true, false, false, false, false]) rfl rfl ?_, h_op (ls' := [true, true, true, false, true, true, false, false, true, false]) rfl rfl ?_, trivial⟩
        · skip
          refine r_lit (vs := #[(0, .bool true)]) (cs := bools [true]) S H rfl rfl el38 (by kernel_rfl) (by decide) (by rfl) rfl rfl rfl fun a w b5 S H => ?_
          refine r_nil ?_
          refine x_then ?_
          have HS : Sat _ (blk b3 (.cells #[.slice none 0 0, .slice none 0 0] 40) :: blk b2 (.cells #[.int .i64 ((m : Nat) : Int), .slice A es.length c] 35) :: blk b1 (.cells #[.int .i64 k, .int .u32 ((s : Nat) : Int)] 24) :: fr) := (H.pick [2, 3, 4] 5 rfl)
          refine ⟨HS, ?_⟩
          refine h_all (r := 6) (rs := [8]) (by kernel_rfl) ⟨h_op (ls' := [true, true, true, true, true, true, true, false, false, false]) rfl rfl ?_, h_op (ls' := [true, true, true, true, true, true, false, false, true, false]) rfl rfl ?_, trivial⟩
          · skip
            refine r_call (args := #[.slice (some ⟨b5, 0, none⟩) 1 1, .int .i64 ((m : Nat) : Int)]) S rfl rfl Try.call42 (repeat_ct (H := H) _ _ _ _ true (SlOk.ofRow (i := 0) H rfl) m (by omega)) rfl rfl rfl fun v a w hR S => ?_
            obtain ⟨A6, c7, rfl, H⟩ := hR
            refine r_nil ?_
            refine x_then ?_
            have HS : Sat _ (blk b3 (.cells #[.slice none 0 0, .slice none 0 0] 40) :: blk b2 (.cells #[.int .i64 ((m : Nat) : Int), .slice A es.length c] 35) :: blk b1 (.cells #[.int .i64 k, .int .u32 ((s : Nat) : Int)] 24) :: fr) := (H.pick [3, 4, 5] 6 rfl)
            refine ⟨HS, ?_⟩
            refine h_y 7 S HS rfl (y_build (vs := #[(0, .slice (some ⟨b4, 0, none⟩) m m), (1, .slice A6 m c7)]) (v := .agg #[.slice (some ⟨b4, 0, none⟩) m m, .slice A6 m c7]) S rfl rfl (fun w => by kernel_rfl)) rfl rfl rfl (by kernel_rfl) (by kernel_rfl) (by kernel_rfl) (ls' := [true, true, true, true, true, true, true, true, false, false]) rfl (fun _ _ _ h => h) fun a S => ?_
            refine h_all (r := 8) (rs := []) (by kernel_rfl) ⟨h_op (ls' := [true, true, true, true, true, true, true, true, true, false]) rfl rfl ?_, trivial⟩
            refine r_alloc S H rfl Try.zeroValue40 rfl rfl rfl rfl fun a w b8 S H => ?_
            refine r_nil ?_
            refine x_then ?_
            have HS : Sat _ (blk b3 (.cells #[.slice none 0 0, .slice none 0 0] 40) :: blk b2 (.cells #[.int .i64 ((m : Nat) : Int), .slice A es.length c] 35) :: blk b1 (.cells #[.int .i64 k, .int .u32 ((s : Nat) : Int)] 24) :: fr) := (H.pick [4, 5, 6] 7 rfl)
            refine ⟨HS, ?_⟩
            refine h_all (r := 9) (rs := []) (by kernel_rfl) ⟨h_op (ls' := [true, true, true, true, true, true, true, true, true, true]) rfl rfl ?_, trivial⟩
            refine r_store (vs := [.slice (some ⟨b4, 0, none⟩) m m, .slice A6 m c7]) 0 S H rfl rfl rfl rfl Try.sizeOf40 rfl rfl (by simp [Value.oneCell']) rfl rfl rfl rfl rfl fun w H => ?_
            refine r_nil ?_
            refine x_then ?_
            have HS : Sat _ (blk b3 (.cells #[.slice none 0 0, .slice none 0 0] 40) :: blk b2 (.cells #[.int .i64 ((m : Nat) : Int), .slice A es.length c] 35) :: blk b1 (.cells #[.int .i64 k, .int .u32 ((s : Nat) : Int)] 24) :: fr) := (H.pick [4, 5, 6] 7 rfl)
            refine ⟨HS, ?_⟩
            refine h_done (by kernel_rfl) ?_
            refine x_then ?_
            exact ⟨_, _, _, _, _, S.sub ⟨rfl, rfl, rfl, rfl, rfl, rfl, rfl, rfl, rfl, rfl, rfl, trivial⟩, H⟩
          · skip
            refine r_alloc S H rfl Try.zeroValue40 rfl rfl rfl rfl fun a w b9 S H => ?_
            refine r_nil ?_
            refine x_then ?_
            have HS : Sat _ (blk b3 (.cells #[.slice none 0 0, .slice none 0 0] 40) :: blk b2 (.cells #[.int .i64 ((m : Nat) : Int), .slice A es.length c] 35) :: blk b1 (.cells #[.int .i64 k, .int .u32 ((s : Nat) : Int)] 24) :: fr) := (H.pick [3, 4, 5] 6 rfl)
            refine ⟨HS, ?_⟩
            refine h_all (r := 6) (rs := []) (by kernel_rfl) ⟨h_op (ls' := [true, true, true, true, true, true, true, false, true, false]) rfl rfl ?_, trivial⟩
            refine r_call (args := #[.slice (some ⟨b5, 0, none⟩) 1 1, .int .i64 ((m : Nat) : Int)]) S rfl rfl Try.call42 (repeat_ct (H := H) _ _ _ _ true (SlOk.ofRow (i := 1) H rfl) m (by omega)) rfl rfl rfl fun v a w hR S => ?_
            obtain ⟨A10, c11, rfl, H⟩ := hR
            refine r_nil ?_
            refine x_then ?_
            have HS : Sat _ (blk b3 (.cells #[.slice none 0 0, .slice none 0 0] 40) :: blk b2 (.cells #[.int .i64 ((m : Nat) : Int), .slice A es.length c] 35) :: blk b1 (.cells #[.int .i64 k, .int .u32 ((s : Nat) : Int)] 24) :: fr) := (H.pick [4, 5, 6] 7 rfl)
            refine ⟨HS, ?_⟩
            refine h_y 7 S HS rfl (y_build (vs := #[(0, .slice (some ⟨b4, 0, none⟩) m m), (1, .slice A10 m c11)]) (v := .agg #[.slice (some ⟨b4, 0, none⟩) m m, .slice A10 m c11]) S rfl rfl (fun w => by kernel_rfl)) rfl rfl rfl (by kernel_rfl) (by kernel_rfl) (by kernel_rfl) (ls' := [true, true, true, true, true, true, true, true, true, false]) rfl (fun _ _ _ h => h) fun a S => ?_
            refine h_all (r := 9) (rs := []) (by kernel_rfl) ⟨h_op (ls' := [true, true, true, true, true, true, true, true, true, true]) rfl rfl ?_, trivial⟩
            refine r_store (vs := [.slice (some ⟨b4, 0, none⟩) m m, .slice A10 m c11]) 1 S H rfl rfl rfl rfl Try.sizeOf40 rfl rfl (by simp [Value.oneCell']) rfl rfl rfl rfl rfl fun w H => ?_
            refine r_nil ?_
            refine x_then ?_
            have HS : Sat _ (blk b3 (.cells #[.slice none 0 0, .slice none 0 0] 40) :: blk b2 (.cells #[.int .i64 ((m : Nat) : Int), .slice A es.length c] 35) :: blk b1 (.cells #[.int .i64 k, .int .u32 ((s : Nat) : Int)] 24) :: fr) := (H.pick [4, 5, 6] 7 rfl)
            refine ⟨HS, ?_⟩
            refine h_done (by kernel_rfl) ?_
            refine x_then ?_
            exact ⟨_, _, _, _, _, S.sub ⟨rfl, rfl, rfl, rfl, rfl, rfl, rfl, rfl, rfl, rfl, rfl, trivial⟩, (H.pick [1, 0, 2, 3, 4, 5, 6] 7 rfl)⟩
        · skip
          refine r_alloc S H rfl Try.zeroValue40 rfl rfl rfl rfl fun a w b12 S H => ?_
          refine r_nil ?_
          refine x_then ?_
          have HS : Sat _ (blk b3 (.cells #[.slice none 0 0, .slice none 0 0] 40) :: blk b2 (.cells #[.int .i64 ((m : Nat) : Int), .slice A es.length c] 35) :: blk b1 (.cells #[.int .i64 k, .int .u32 ((s : Nat) : Int)] 24) :: fr) := (H.pick [2, 3, 4] 5 rfl)
          refine ⟨HS, ?_⟩
          refine h_all (r := 3) (rs := []) (by kernel_rfl) ⟨h_op (ls' := [true, true, true, true, true, true, false, false, true, false]) rfl rfl ?_, trivial⟩
          refine r_lit (vs := #[(0, .bool true)]) (cs := bools [true]) S H rfl rfl el38 (by kernel_rfl) (by decide) (by rfl) rfl rfl rfl fun a w b13 S H => ?_
          refine r_nil ?_
          refine x_then ?_
          have HS : Sat _ (blk b3 (.cells #[.slice none 0 0, .slice none 0 0] 40) :: blk b2 (.cells #[.int .i64 ((m : Nat) : Int), .slice A es.length c] 35) :: blk b1 (.cells #[.int .i64 k, .int .u32 ((s : Nat) : Int)] 24) :: fr) := (H.pick [3, 4, 5] 6 rfl)
          refine ⟨HS, ?_⟩
          refine h_all (r := 6) (rs := []) (by kernel_rfl) ⟨h_op (ls' := [true, true, true, true, true, true, true, false, true, false]) rfl rfl ?_, trivial⟩
          refine r_call (args := #[.slice (some ⟨b13, 0, none⟩) 1 1, .int .i64 ((m : Nat) : Int)]) S rfl rfl Try.call42 (repeat_ct (H := H) _ _ _ _ true (SlOk.ofRow (i := 0) H rfl) m (by omega)) rfl rfl rfl fun v a w hR S => ?_
          obtain ⟨A14, c15, rfl, H⟩ := hR
          refine r_nil ?_
          refine x_then ?_
          have HS : Sat _ (blk b3 (.cells #[.slice none 0 0, .slice none 0 0] 40) :: blk b2 (.cells #[.int .i64 ((m : Nat) : Int), .slice A es.length c] 35) :: blk b1 (.cells #[.int .i64 k, .int .u32 ((s : Nat) : Int)] 24) :: fr) := (H.pick [4, 5, 6] 7 rfl)
          refine ⟨HS, ?_⟩
          refine h_y 7 S HS rfl (y_build (vs := #[(0, .slice (some ⟨b4, 0, none⟩) m m), (1, .slice A14 m c15)]) (v := .agg #[.slice (some ⟨b4, 0, none⟩) m m, .slice A14 m c15]) S rfl rfl (fun w => by kernel_rfl)) rfl rfl rfl (by kernel_rfl) (by kernel_rfl) (by kernel_rfl) (ls' := [true, true, true, true, true, true, true, true, true, false]) rfl (fun _ _ _ h => h) fun a S => ?_
          refine h_all (r := 9) (rs := []) (by kernel_rfl) ⟨h_op (ls' := [true, true, true, true, true, true, true, true, true, true]) rfl rfl ?_, trivial⟩
          refine r_store (vs := [.slice (some ⟨b4, 0, none⟩) m m, .slice A14 m c15]) 2 S H rfl rfl rfl rfl Try.sizeOf40 rfl rfl (by simp [Value.oneCell']) rfl rfl rfl rfl rfl fun w H => ?_
          refine r_nil ?_
          refine x_then ?_
          have HS : Sat _ (blk b3 (.cells #[.slice none 0 0, .slice none 0 0] 40) :: blk b2 (.cells #[.int .i64 ((m : Nat) : Int), .slice A es.length c] 35) :: blk b1 (.cells #[.int .i64 k, .int .u32 ((s : Nat) : Int)] 24) :: fr) := (H.pick [4, 5, 6] 7 rfl)
          refine ⟨HS, ?_⟩
          refine h_done (by kernel_rfl) ?_
          refine x_then ?_
          exact ⟨_, _, _, _, _, S.sub ⟨rfl, rfl, rfl, rfl, rfl, rfl, rfl, rfl, rfl, rfl, rfl, trivial⟩, (H.pick [2, 0, 1, 3, 4, 5, 6] 7 rfl)⟩
      · skip
        refine r_lit (vs := #[(0, .bool true)]) (cs := bools [true]) S H rfl rfl el38 (by kernel_rfl) (by decide) (by rfl) rfl rfl rfl fun a w b16 S H => ?_
        refine r_nil ?_
        refine x_then ?_
        have HS : Sat _ (blk b3 (.cells #[.slice none 0 0, .slice none 0 0] 40) :: blk b2 (.cells #[.int .i64 ((m : Nat) : Int), .slice A es.length c] 35) :: blk b1 (.cells #[.int .i64 k, .int .u32 ((s : Nat) : Int)] 24) :: fr) := (H.pick [1, 2, 3] 4 rfl)
        refine ⟨HS, ?_⟩
        refine h_all (r := 2) (rs := [6, 8]) (by kernel_rfl) ⟨h_op (ls' := [true, true, true, true, true, true, false, false, false, false]) rfl rfl ?_, h_op (ls' := [true, true, false, true, true, true, true, false, false, false]) rfl rfl ?_, h_op (ls' := [true, true, false, true, true, true, false, false, true, false]) rfl rfl ?_, trivial⟩
        · skip
          refine r_make (len := m) S H rfl rfl rfl el37 (by simp only [maxLen]; omega) (by omega) rfl rfl rfl fun a w b17 S H => ?_
          rw [made_u64s] at H
          refine r_nil ?_
          refine x_then ?_
          have HS : Sat _ (blk b3 (.cells #[.slice none 0 0, .slice none 0 0] 40) :: blk b2 (.cells #[.int .i64 ((m : Nat) : Int), .slice A es.length c] 35) :: blk b1 (.cells #[.int .i64 k, .int .u32 ((s : Nat) : Int)] 24) :: fr) := (H.pick [2, 3, 4] 5 rfl)
          refine ⟨HS, ?_⟩
          refine h_all (r := 6) (rs := [8]) (by kernel_rfl) ⟨h_op (ls' := [true, true, true, true, true, true, true, false, false, false]) rfl rfl ?_, h_op (ls' := [true, true, true, true, true, true, false, false, true, false]) rfl rfl ?_, trivial⟩
          · skip
            refine r_call (args := #[.slice (some ⟨b16, 0, none⟩) 1 1, .int .i64 ((m : Nat) : Int)]) S rfl rfl Try.call42 (repeat_ct (H := H) _ _ _ _ true (SlOk.ofRow (i := 1) H rfl) m (by omega)) rfl rfl rfl fun v a w hR S => ?_
            obtain ⟨A18, c19, rfl, H⟩ := hR
            refine r_nil ?_
            refine x_then ?_
            have HS : Sat _ (blk b3 (.cells #[.slice none 0 0, .slice none 0 0] 40) :: blk b2 (.cells #[.int .i64 ((m : Nat) : Int), .slice A es.length c] 35) :: blk b1 (.cells #[.int .i64 k, .int .u32 ((s : Nat) : Int)] 24) :: fr) := (H.pick [3, 4, 5] 6 rfl)
            refine ⟨HS, ?_⟩
            refine h_y 7 S HS rfl (y_build (vs := #[(0, .slice (some ⟨b17, 0, none⟩) m m), (1, .slice A18 m c19)]) (v := .agg #[.slice (some ⟨b17, 0, none⟩) m m, .slice A18 m c19]) S rfl rfl (fun w => by kernel_rfl)) rfl rfl rfl (by kernel_rfl) (by kernel_rfl) (by kernel_rfl) (ls' := [true, true, true, true, true, true, true, true, false, false]) rfl (fun _ _ _ h => h) fun a S => ?_
            refine h_all (r := 8) (rs := []) (by kernel_rfl) ⟨h_op (ls' := [true, true, true, true, true, true, true, true, true, false]) rfl rfl ?_, trivial⟩
            refine r_alloc S H rfl Try.zeroValue40 rfl rfl rfl rfl fun a w b20 S H => ?_
            refine r_nil ?_
            refine x_then ?_
            have HS : Sat _ (blk b3 (.cells #[.slice none 0 0, .slice none 0 0] 40) :: blk b2 (.cells #[.int .i64 ((m : Nat) : Int), .slice A es.length c] 35) :: blk b1 (.cells #[.int .i64 k, .int .u32 ((s : Nat) : Int)] 24) :: fr) := (H.pick [4, 5, 6] 7 rfl)
            refine ⟨HS, ?_⟩
            refine h_all (r := 9) (rs := []) (by kernel_rfl) ⟨h_op (ls' := [true, true, true, true, true, true, true, true, true, true]) rfl rfl ?_, trivial⟩
            refine r_store (vs := [.slice (some ⟨b17, 0, none⟩) m m, .slice A18 m c19]) 0 S H rfl rfl rfl rfl Try.sizeOf40 rfl rfl (by simp [Value.oneCell']) rfl rfl rfl rfl rfl fun w H => ?_
            refine r_nil ?_
            refine x_then ?_
            have HS : Sat _ (blk b3 (.cells #[.slice none 0 0, .slice none 0 0] 40) :: blk b2 (.cells #[.int .i64 ((m : Nat) : Int), .slice A es.length c] 35) :: blk b1 (.cells #[.int .i64 k, .int .u32 ((s : Nat) : Int)] 24) :: fr) := (H.pick [4, 5, 6] 7 rfl)
            refine ⟨HS, ?_⟩
            refine h_done (by kernel_rfl) ?_
            refine x_then ?_
            exact ⟨_, _, _, _, _, S.sub ⟨rfl, rfl, rfl, rfl, rfl, rfl, rfl, rfl, rfl, rfl, rfl, trivial⟩, (H.pick [0, 1, 3, 2, 4, 5, 6] 7 rfl)⟩
          · skip
            refine r_alloc S H rfl Try.zeroValue40 rfl rfl rfl rfl fun a w b21 S H => ?_
            refine r_nil ?_
            refine x_then ?_
            have HS : Sat _ (blk b3 (.cells #[.slice none 0 0, .slice none 0 0] 40) :: blk b2 (.cells #[.int .i64 ((m : Nat) : Int), .slice A es.length c] 35) :: blk b1 (.cells #[.int .i64 k, .int .u32 ((s : Nat) : Int)] 24) :: fr) := (H.pick [3, 4, 5] 6 rfl)
            refine ⟨HS, ?_⟩
            refine h_all (r := 6) (rs := []) (by kernel_rfl) ⟨h_op (ls' := [true, true, true, true, true, true, true, false, true, false]) rfl rfl ?_, trivial⟩
            refine r_call (args := #[.slice (some ⟨b16, 0, none⟩) 1 1, .int .i64 ((m : Nat) : Int)]) S rfl rfl Try.call42 (repeat_ct (H := H) _ _ _ _ true (SlOk.ofRow (i := 2) H rfl) m (by omega)) rfl rfl rfl fun v a w hR S => ?_
            obtain ⟨A22, c23, rfl, H⟩ := hR
            refine r_nil ?_
            refine x_then ?_
            have HS : Sat _ (blk b3 (.cells #[.slice none 0 0, .slice none 0 0] 40) :: blk b2 (.cells #[.int .i64 ((m : Nat) : Int), .slice A es.length c] 35) :: blk b1 (.cells #[.int .i64 k, .int .u32 ((s : Nat) : Int)] 24) :: fr) := (H.pick [4, 5, 6] 7 rfl)
            refine ⟨HS, ?_⟩
            refine h_y 7 S HS rfl (y_build (vs := #[(0, .slice (some ⟨b17, 0, none⟩) m m), (1, .slice A22 m c23)]) (v := .agg #[.slice (some ⟨b17, 0, none⟩) m m, .slice A22 m c23]) S rfl rfl (fun w => by kernel_rfl)) rfl rfl rfl (by kernel_rfl) (by kernel_rfl) (by kernel_rfl) (ls' := [true, true, true, true, true, true, true, true, true, false]) rfl (fun _ _ _ h => h) fun a S => ?_
            refine h_all (r := 9) (rs := []) (by kernel_rfl) ⟨h_op (ls' := [true, true, true, true, true, true, true, true, true, true]) rfl rfl ?_, trivial⟩
            refine r_store (vs := [.slice (some ⟨b17, 0, none⟩) m m, .slice A22 m c23]) 1 S H rfl rfl rfl rfl Try.sizeOf40 rfl rfl (by simp [Value.oneCell']) rfl rfl rfl rfl rfl fun w H => ?_
            refine r_nil ?_
            refine x_then ?_
            have HS : Sat _ (blk b3 (.cells #[.slice none 0 0, .slice none 0 0] 40) :: blk b2 (.cells #[.int .i64 ((m : Nat) : Int), .slice A es.length c] 35) :: blk b1 (.cells #[.int .i64 k, .int .u32 ((s : Nat) : Int)] 24) :: fr) := (H.pick [4, 5, 6] 7 rfl)
            refine ⟨HS, ?_⟩
            refine h_done (by kernel_rfl) ?_
            refine x_then ?_
            exact ⟨_, _, _, _, _, S.sub ⟨rfl, rfl, rfl, rfl, rfl, rfl, rfl, rfl, rfl, rfl, rfl, trivial⟩, (H.pick [1, 0, 3, 2, 4, 5, 6] 7 rfl)⟩
        · skip
          refine r_call (args := #[.slice (some ⟨b16, 0, none⟩) 1 1, .int .i64 ((m : Nat) : Int)]) S rfl rfl Try.call42 (repeat_ct (H := H) _ _ _ _ true (SlOk.ofRow (i := 0) H rfl) m (by omega)) rfl rfl rfl fun v a w hR S => ?_
          obtain ⟨A24, c25, rfl, H⟩ := hR
          refine r_nil ?_
          refine x_then ?_
          have HS : Sat _ (blk b3 (.cells #[.slice none 0 0, .slice none 0 0] 40) :: blk b2 (.cells #[.int .i64 ((m : Nat) : Int), .slice A es.length c] 35) :: blk b1 (.cells #[.int .i64 k, .int .u32 ((s : Nat) : Int)] 24) :: fr) := (H.pick [2, 3, 4] 5 rfl)
          refine ⟨HS, ?_⟩
          refine h_all (r := 2) (rs := [8]) (by kernel_rfl) ⟨h_op (ls' := [true, true, true, true, true, true, true, false, false, false]) rfl rfl ?_, h_op (ls' := [true, true, false, true, true, true, true, false, true, false]) rfl rfl ?_, trivial⟩
          · skip
            refine r_make (len := m) S H rfl rfl rfl el37 (by simp only [maxLen]; omega) (by omega) rfl rfl rfl fun a w b26 S H => ?_
            rw [made_u64s] at H
            refine r_nil ?_
            refine x_then ?_
            have HS : Sat _ (blk b3 (.cells #[.slice none 0 0, .slice none 0 0] 40) :: blk b2 (.cells #[.int .i64 ((m : Nat) : Int), .slice A es.length c] 35) :: blk b1 (.cells #[.int .i64 k, .int .u32 ((s : Nat) : Int)] 24) :: fr) := (H.pick [3, 4, 5] 6 rfl)
            refine ⟨HS, ?_⟩
            refine h_y 7 S HS rfl (y_build (vs := #[(0, .slice (some ⟨b26, 0, none⟩) m m), (1, .slice A24 m c25)]) (v := .agg #[.slice (some ⟨b26, 0, none⟩) m m, .slice A24 m c25]) S rfl rfl (fun w => by kernel_rfl)) rfl rfl rfl (by kernel_rfl) (by kernel_rfl) (by kernel_rfl) (ls' := [true, true, true, true, true, true, true, true, false, false]) rfl (fun _ _ _ h => h) fun a S => ?_
            refine h_all (r := 8) (rs := []) (by kernel_rfl) ⟨h_op (ls' := [true, true, true, true, true, true, true, true, true, false]) rfl rfl ?_, trivial⟩
            refine r_alloc S H rfl Try.zeroValue40 rfl rfl rfl rfl fun a w b27 S H => ?_
            refine r_nil ?_
            refine x_then ?_
            have HS : Sat _ (blk b3 (.cells #[.slice none 0 0, .slice none 0 0] 40) :: blk b2 (.cells #[.int .i64 ((m : Nat) : Int), .slice A es.length c] 35) :: blk b1 (.cells #[.int .i64 k, .int .u32 ((s : Nat) : Int)] 24) :: fr) := (H.pick [4, 5, 6] 7 rfl)
            refine ⟨HS, ?_⟩
            refine h_all (r := 9) (rs := []) (by kernel_rfl) ⟨h_op (ls' := [true, true, true, true, true, true, true, true, true, true]) rfl rfl ?_, trivial⟩
            refine r_store (vs := [.slice (some ⟨b26, 0, none⟩) m m, .slice A24 m c25]) 0 S H rfl rfl rfl rfl Try.sizeOf40 rfl rfl (by simp [Value.oneCell']) rfl rfl rfl rfl rfl fun w H => ?_
            refine r_nil ?_
            refine x_then ?_
            have HS : Sat _ (blk b3 (.cells #[.slice none 0 0, .slice none 0 0] 40) :: blk b2 (.cells #[.int .i64 ((m : Nat) : Int), .slice A es.length c] 35) :: blk b1 (.cells #[.int .i64 k, .int .u32 ((s : Nat) : Int)] 24) :: fr) := (H.pick [4, 5, 6] 7 rfl)
            refine ⟨HS, ?_⟩
            refine h_done (by kernel_rfl) ?_
            refine x_then ?_
            exact ⟨_, _, _, _, _, S.sub ⟨rfl, rfl, rfl, rfl, rfl, rfl, rfl, rfl, rfl, rfl, rfl, trivial⟩, (H.pick [0, 2, 3, 1, 4, 5, 6] 7 rfl)⟩
          · skip
            refine r_alloc S H rfl Try.zeroValue40 rfl rfl rfl rfl fun a w b28 S H => ?_
            refine r_nil ?_
            refine x_then ?_
            have HS : Sat _ (blk b3 (.cells #[.slice none 0 0, .slice none 0 0] 40) :: blk b2 (.cells #[.int .i64 ((m : Nat) : Int), .slice A es.length c] 35) :: blk b1 (.cells #[.int .i64 k, .int .u32 ((s : Nat) : Int)] 24) :: fr) := (H.pick [3, 4, 5] 6 rfl)
            refine ⟨HS, ?_⟩
            refine h_all (r := 2) (rs := []) (by kernel_rfl) ⟨h_op (ls' := [true, true, true, true, true, true, true, false, true, false]) rfl rfl ?_, trivial⟩
            refine r_make (len := m) S H rfl rfl rfl el37 (by simp only [maxLen]; omega) (by omega) rfl rfl rfl fun a w b29 S H => ?_
            rw [made_u64s] at H
            refine r_nil ?_
            refine x_then ?_
            have HS : Sat _ (blk b3 (.cells #[.slice none 0 0, .slice none 0 0] 40) :: blk b2 (.cells #[.int .i64 ((m : Nat) : Int), .slice A es.length c] 35) :: blk b1 (.cells #[.int .i64 k, .int .u32 ((s : Nat) : Int)] 24) :: fr) := (H.pick [4, 5, 6] 7 rfl)
            refine ⟨HS, ?_⟩
            refine h_y 7 S HS rfl (y_build (vs := #[(0, .slice (some ⟨b29, 0, none⟩) m m), (1, .slice A24 m c25)]) (v := .agg #[.slice (some ⟨b29, 0, none⟩) m m, .slice A24 m c25]) S rfl rfl (fun w => by kernel_rfl)) rfl rfl rfl (by kernel_rfl) (by kernel_rfl) (by kernel_rfl) (ls' := [true, true, true, true, true, true, true, true, true, false]) rfl (fun _ _ _ h => h) fun a S => ?_
            refine h_all (r := 9) (rs := []) (by kernel_rfl) ⟨h_op (ls' := [true, true, true, true, true, true, true, true, true, true]) rfl rfl ?_, trivial⟩
            refine r_store (vs := [.slice (some ⟨b29, 0, none⟩) m m, .slice A24 m c25]) 1 S H rfl rfl rfl rfl Try.sizeOf40 rfl rfl (by simp [Value.oneCell']) rfl rfl rfl rfl rfl fun w H => ?_
            refine r_nil ?_
            refine x_then ?_
            have HS : Sat _ (blk b3 (.cells #[.slice none 0 0, .slice none 0 0] 40) :: blk b2 (.cells #[.int .i64 ((m : Nat) : Int), .slice A es.length c] 35) :: blk b1 (.cells #[.int .i64 k, .int .u32 ((s : Nat) : Int)] 24) :: fr) := (H.pick [4, 5, 6] 7 rfl)
            refine ⟨HS, ?_⟩
            refine h_done (by kernel_rfl) ?_
            refine x_then ?_
            exact ⟨_, _, _, _, _, S.sub ⟨rfl, rfl, rfl, rfl, rfl, rfl, rfl, rfl, rfl, rfl, rfl, trivial⟩, (H.pick [1, 2, 3, 0, 4, 5, 6] 7 rfl)⟩
        · skip
          refine r_alloc S H rfl Try.zeroValue40 rfl rfl rfl rfl fun a w b30 S H => ?_
          refine r_nil ?_
          refine x_then ?_
          have HS : Sat _ (blk b3 (.cells #[.slice none 0 0, .slice none 0 0] 40) :: blk b2 (.cells #[.int .i64 ((m : Nat) : Int), .slice A es.length c] 35) :: blk b1 (.cells #[.int .i64 k, .int .u32 ((s : Nat) : Int)] 24) :: fr) := (H.pick [2, 3, 4] 5 rfl)
          refine ⟨HS, ?_⟩
          refine h_all (r := 2) (rs := [6]) (by kernel_rfl) ⟨h_op (ls' := [true, true, true, true, true, true, false, false, true, false]) rfl rfl ?_, h_op (ls' := [true, true, false, true, true, true, true, false, true, false]) rfl rfl ?_, trivial⟩
          · skip
            refine r_make (len := m) S H rfl rfl rfl el37 (by simp only [maxLen]; omega) (by omega) rfl rfl rfl fun a w b31 S H => ?_
            rw [made_u64s] at H
            refine r_nil ?_
            refine x_then ?_
            have HS : Sat _ (blk b3 (.cells #[.slice none 0 0, .slice none 0 0] 40) :: blk b2 (.cells #[.int .i64 ((m : Nat) : Int), .slice A es.length c] 35) :: blk b1 (.cells #[.int .i64 k, .int .u32 ((s : Nat) : Int)] 24) :: fr) := (H.pick [3, 4, 5] 6 rfl)
            refine ⟨HS, ?_⟩
            refine h_all (r := 6) (rs := []) (by kernel_rfl) ⟨h_op (ls' := [true, true, true, true, true, true, true, false, true, false]) rfl rfl ?_, trivial⟩
            refine r_call (args := #[.slice (some ⟨b16, 0, none⟩) 1 1, .int .i64 ((m : Nat) : Int)]) S rfl rfl Try.call42 (repeat_ct (H := H) _ _ _ _ true (SlOk.ofRow (i := 2) H rfl) m (by omega)) rfl rfl rfl fun v a w hR S => ?_
            obtain ⟨A32, c33, rfl, H⟩ := hR
            refine r_nil ?_
            refine x_then ?_
            have HS : Sat _ (blk b3 (.cells #[.slice none 0 0, .slice none 0 0] 40) :: blk b2 (.cells #[.int .i64 ((m : Nat) : Int), .slice A es.length c] 35) :: blk b1 (.cells #[.int .i64 k, .int .u32 ((s : Nat) : Int)] 24) :: fr) := (H.pick [4, 5, 6] 7 rfl)
            refine ⟨HS, ?_⟩
            refine h_y 7 S HS rfl (y_build (vs := #[(0, .slice (some ⟨b31, 0, none⟩) m m), (1, .slice A32 m c33)]) (v := .agg #[.slice (some ⟨b31, 0, none⟩) m m, .slice A32 m c33]) S rfl rfl (fun w => by kernel_rfl)) rfl rfl rfl (by kernel_rfl) (by kernel_rfl) (by kernel_rfl) (ls' := [true, true, true, true, true, true, true, true, true, false]) rfl (fun _ _ _ h => h) fun a S => ?_
            refine h_all (r := 9) (rs := []) (by kernel_rfl) ⟨h_op (ls' := [true, true, true, true, true, true, true, true, true, true]) rfl rfl ?_, trivial⟩
            refine r_store (vs := [.slice (some ⟨b31, 0, none⟩) m m, .slice A32 m c33]) 2 S H rfl rfl rfl rfl Try.sizeOf40 rfl rfl (by simp [Value.oneCell']) rfl rfl rfl rfl rfl fun w H => ?_
            refine r_nil ?_
            refine x_then ?_
            have HS : Sat _ (blk b3 (.cells #[.slice none 0 0, .slice none 0 0] 40) :: blk b2 (.cells #[.int .i64 ((m : Nat) : Int), .slice A es.length c] 35) :: blk b1 (.cells #[.int .i64 k, .int .u32 ((s : Nat) : Int)] 24) :: fr) := (H.pick [4, 5, 6] 7 rfl)
            refine ⟨HS, ?_⟩
            refine h_done (by kernel_rfl) ?_
            refine x_then ?_
            exact ⟨_, _, _, _, _, S.sub ⟨rfl, rfl, rfl, rfl, rfl, rfl, rfl, rfl, rfl, rfl, rfl, trivial⟩, (H.pick [2, 0, 3, 1, 4, 5, 6] 7 rfl)⟩
          · skip
            refine r_call (args := #[.slice (some ⟨b16, 0, none⟩) 1 1, .int .i64 ((m : Nat) : Int)]) S rfl rfl Try.call42 (repeat_ct (H := H) _ _ _ _ true (SlOk.ofRow (i := 1) H rfl) m (by omega)) rfl rfl rfl fun v a w hR S => ?_
            obtain ⟨A34, c35, rfl, H⟩ := hR
            refine r_nil ?_
            refine x_then ?_
            have HS : Sat _ (blk b3 (.cells #[.slice none 0 0, .slice none 0 0] 40) :: blk b2 (.cells #[.int .i64 ((m : Nat) : Int), .slice A es.length c] 35) :: blk b1 (.cells #[.int .i64 k, .int .u32 ((s : Nat) : Int)] 24) :: fr) := (H.pick [3, 4, 5] 6 rfl)
            refine ⟨HS, ?_⟩
            refine h_all (r := 2) (rs := []) (by kernel_rfl) ⟨h_op (ls' := [true, true, true, true, true, true, true, false, true, false]) rfl rfl ?_, trivial⟩
            refine r_make (len := m) S H rfl rfl rfl el37 (by simp only [maxLen]; omega) (by omega) rfl rfl rfl fun a w b36 S H => ?_
            rw [made_u64s] at H
            refine r_nil ?_
            refine x_then ?_
            have HS : Sat _ (blk b3 (.cells #[.slice none 0 0, .slice none 0 0] 40) :: blk b2 (.cells #[.int .i64 ((m : Nat) : Int), .slice A es.length c] 35) :: blk b1 (.cells #[.int .i64 k, .int .u32 ((s : Nat) : Int)] 24) :: fr) := (H.pick [4, 5, 6] 7 rfl)
            refine ⟨HS, ?_⟩
            refine h_y 7 S HS rfl (y_build (vs := #[(0, .slice (some ⟨b36, 0, none⟩) m m), (1, .slice A34 m c35)]) (v := .agg #[.slice (some ⟨b36, 0, none⟩) m m, .slice A34 m c35]) S rfl rfl (fun w => by kernel_rfl)) rfl rfl rfl (by kernel_rfl) (by kernel_rfl) (by kernel_rfl) (ls' := [true, true, true, true, true, true, true, true, true, false]) rfl (fun _ _ _ h => h) fun a S => ?_
            refine h_all (r := 9) (rs := []) (by kernel_rfl) ⟨h_op (ls' := [true, true, true, true, true, true, true, true, true, true]) rfl rfl ?_, trivial⟩
            refine r_store (vs := [.slice (some ⟨b36, 0, none⟩) m m, .slice A34 m c35]) 2 S H rfl rfl rfl rfl Try.sizeOf40 rfl rfl (by simp [Value.oneCell']) rfl rfl rfl rfl rfl fun w H => ?_
            refine r_nil ?_
            refine x_then ?_
            have HS : Sat _ (blk b3 (.cells #[.slice none 0 0, .slice none 0 0] 40) :: blk b2 (.cells #[.int .i64 ((m : Nat) : Int), .slice A es.length c] 35) :: blk b1 (.cells #[.int .i64 k, .int .u32 ((s : Nat) : Int)] 24) :: fr) := (H.pick [4, 5, 6] 7 rfl)
            refine ⟨HS, ?_⟩
            refine h_done (by kernel_rfl) ?_
            refine x_then ?_
            exact ⟨_, _, _, _, _, S.sub ⟨rfl, rfl, rfl, rfl, rfl, rfl, rfl, rfl, rfl, rfl, rfl, trivial⟩, (H.pick [2, 1, 3, 0, 4, 5, 6] 7 rfl)⟩
      · skip
        refine r_alloc S H rfl Try.zeroValue40 rfl rfl rfl rfl fun a w b37 S H => ?_
        refine r_nil ?_
        refine x_then ?_
        have HS : Sat _ (blk b3 (.cells #[.slice none 0 0, .slice none 0 0] 40) :: blk b2 (.cells #[.int .i64 ((m : Nat) : Int), .slice A es.length c] 35) :: blk b1 (.cells #[.int .i64 k, .int .u32 ((s : Nat) : Int)] 24) :: fr) := (H.pick [1, 2, 3] 4 rfl)
        refine ⟨HS, ?_⟩
        refine h_all (r := 2) (rs := [3]) (by kernel_rfl) ⟨h_op (ls' := [true, true, true, false, true, true, false, false, true, false]) rfl rfl ?_, h_op (ls' := [true, true, false, true, true, true, false, false, true, false]) rfl rfl ?_, trivial⟩
        · skip
          refine r_make (len := m) S H rfl rfl rfl el37 (by simp only [maxLen]; omega) (by omega) rfl rfl rfl fun a w b38 S H => ?_
          rw [made_u64s] at H
          refine r_nil ?_
          refine x_then ?_
          have HS : Sat _ (blk b3 (.cells #[.slice none 0 0, .slice none 0 0] 40) :: blk b2 (.cells #[.int .i64 ((m : Nat) : Int), .slice A es.length c] 35) :: blk b1 (.cells #[.int .i64 k, .int .u32 ((s : Nat) : Int)] 24) :: fr) := (H.pick [2, 3, 4] 5 rfl)
          refine ⟨HS, ?_⟩
          refine h_all (r := 3) (rs := []) (by kernel_rfl) ⟨h_op (ls' := [true, true, true, true, true, true, false, false, true, false]) rfl rfl ?_, trivial⟩
          refine r_lit (vs := #[(0, .bool true)]) (cs := bools [true]) S H rfl rfl el38 (by kernel_rfl) (by decide) (by rfl) rfl rfl rfl fun a w b39 S H => ?_
          refine r_nil ?_
          refine x_then ?_
          have HS : Sat _ (blk b3 (.cells #[.slice none 0 0, .slice none 0 0] 40) :: blk b2 (.cells #[.int .i64 ((m : Nat) : Int), .slice A es.length c] 35) :: blk b1 (.cells #[.int .i64 k, .int .u32 ((s : Nat) : Int)] 24) :: fr) := (H.pick [3, 4, 5] 6 rfl)
          refine ⟨HS, ?_⟩
          refine h_all (r := 6) (rs := []) (by kernel_rfl) ⟨h_op (ls' := [true, true, true, true, true, true, true, false, true, false]) rfl rfl ?_, trivial⟩
          refine r_call (args := #[.slice (some ⟨b39, 0, none⟩) 1 1, .int .i64 ((m : Nat) : Int)]) S rfl rfl Try.call42 (repeat_ct (H := H) _ _ _ _ true (SlOk.ofRow (i := 0) H rfl) m (by omega)) rfl rfl rfl fun v a w hR S => ?_
          obtain ⟨A40, c41, rfl, H⟩ := hR
          refine r_nil ?_
          refine x_then ?_
          have HS : Sat _ (blk b3 (.cells #[.slice none 0 0, .slice none 0 0] 40) :: blk b2 (.cells #[.int .i64 ((m : Nat) : Int), .slice A es.length c] 35) :: blk b1 (.cells #[.int .i64 k, .int .u32 ((s : Nat) : Int)] 24) :: fr) := (H.pick [4, 5, 6] 7 rfl)
          refine ⟨HS, ?_⟩
          refine h_y 7 S HS rfl (y_build (vs := #[(0, .slice (some ⟨b38, 0, none⟩) m m), (1, .slice A40 m c41)]) (v := .agg #[.slice (some ⟨b38, 0, none⟩) m m, .slice A40 m c41]) S rfl rfl (fun w => by kernel_rfl)) rfl rfl rfl (by kernel_rfl) (by kernel_rfl) (by kernel_rfl) (ls' := [true, true, true, true, true, true, true, true, true, false]) rfl (fun _ _ _ h => h) fun a S => ?_
          refine h_all (r := 9) (rs := []) (by kernel_rfl) ⟨h_op (ls' := [true, true, true, true, true, true, true, true, true, true]) rfl rfl ?_, trivial⟩
          refine r_store (vs := [.slice (some ⟨b38, 0, none⟩) m m, .slice A40 m c41]) 3 S H rfl rfl rfl rfl Try.sizeOf40 rfl rfl (by simp [Value.oneCell']) rfl rfl rfl rfl rfl fun w H => ?_
          refine r_nil ?_
          refine x_then ?_
          have HS : Sat _ (blk b3 (.cells #[.slice none 0 0, .slice none 0 0] 40) :: blk b2 (.cells #[.int .i64 ((m : Nat) : Int), .slice A es.length c] 35) :: blk b1 (.cells #[.int .i64 k, .int .u32 ((s : Nat) : Int)] 24) :: fr) := (H.pick [4, 5, 6] 7 rfl)
          refine ⟨HS, ?_⟩
          refine h_done (by kernel_rfl) ?_
          refine x_then ?_
          exact ⟨_, _, _, _, _, S.sub ⟨rfl, rfl, rfl, rfl, rfl, rfl, rfl, rfl, rfl, rfl, rfl, trivial⟩, (H.pick [3, 0, 1, 2, 4, 5, 6] 7 rfl)⟩
        · skip
          refine r_lit (vs := #[(0, .bool true)]) (cs := bools [true]) S H rfl rfl el38 (by kernel_rfl) (by decide) (by rfl) rfl rfl rfl fun a w b42 S H => ?_
          refine r_nil ?_
          refine x_then ?_
          have HS : Sat _ (blk b3 (.cells #[.slice none 0 0, .slice none 0 0] 40) :: blk b2 (.cells #[.int .i64 ((m : Nat) : Int), .slice A es.length c] 35) :: blk b1 (.cells #[.int .i64 k, .int .u32 ((s : Nat) : Int)] 24) :: fr) := (H.pick [2, 3, 4] 5 rfl)
          refine ⟨HS, ?_⟩
          refine h_all (r := 2) (rs := [6]) (by kernel_rfl) ⟨h_op (ls' := [true, true, true, true, true, true, false, false, true, false]) rfl rfl ?_, h_op (ls' := [true, true, false, true, true, true, true, false, true, false]) rfl rfl ?_, trivial⟩
          · skip
            refine r_make (len := m) S H rfl rfl rfl el37 (by simp only [maxLen]; omega) (by omega) rfl rfl rfl fun a w b43 S H => ?_
            rw [made_u64s] at H
            refine r_nil ?_
            refine x_then ?_
            have HS : Sat _ (blk b3 (.cells #[.slice none 0 0, .slice none 0 0] 40) :: blk b2 (.cells #[.int .i64 ((m : Nat) : Int), .slice A es.length c] 35) :: blk b1 (.cells #[.int .i64 k, .int .u32 ((s : Nat) : Int)] 24) :: fr) := (H.pick [3, 4, 5] 6 rfl)
            refine ⟨HS, ?_⟩
            refine h_all (r := 6) (rs := []) (by kernel_rfl) ⟨h_op (ls' := [true, true, true, true, true, true, true, false, true, false]) rfl rfl ?_, trivial⟩
            refine r_call (args := #[.slice (some ⟨b42, 0, none⟩) 1 1, .int .i64 ((m : Nat) : Int)]) S rfl rfl Try.call42 (repeat_ct (H := H) _ _ _ _ true (SlOk.ofRow (i := 1) H rfl) m (by omega)) rfl rfl rfl fun v a w hR S => ?_
            obtain ⟨A44, c45, rfl, H⟩ := hR
            refine r_nil ?_
            refine x_then ?_
            have HS : Sat _ (blk b3 (.cells #[.slice none 0 0, .slice none 0 0] 40) :: blk b2 (.cells #[.int .i64 ((m : Nat) : Int), .slice A es.length c] 35) :: blk b1 (.cells #[.int .i64 k, .int .u32 ((s : Nat) : Int)] 24) :: fr) := (H.pick [4, 5, 6] 7 rfl)
            refine ⟨HS, ?_⟩
            refine h_y 7 S HS rfl (y_build (vs := #[(0, .slice (some ⟨b43, 0, none⟩) m m), (1, .slice A44 m c45)]) (v := .agg #[.slice (some ⟨b43, 0, none⟩) m m, .slice A44 m c45]) S rfl rfl (fun w => by kernel_rfl)) rfl rfl rfl (by kernel_rfl) (by kernel_rfl) (by kernel_rfl) (ls' := [true, true, true, true, true, true, true, true, true, false]) rfl (fun _ _ _ h => h) fun a S => ?_
            refine h_all (r := 9) (rs := []) (by kernel_rfl) ⟨h_op (ls' := [true, true, true, true, true, true, true, true, true, true]) rfl rfl ?_, trivial⟩
            refine r_store (vs := [.slice (some ⟨b43, 0, none⟩) m m, .slice A44 m c45]) 3 S H rfl rfl rfl rfl Try.sizeOf40 rfl rfl (by simp [Value.oneCell']) rfl rfl rfl rfl rfl fun w H => ?_
            refine r_nil ?_
            refine x_then ?_
            have HS : Sat _ (blk b3 (.cells #[.slice none 0 0, .slice none 0 0] 40) :: blk b2 (.cells #[.int .i64 ((m : Nat) : Int), .slice A es.length c] 35) :: blk b1 (.cells #[.int .i64 k, .int .u32 ((s : Nat) : Int)] 24) :: fr) := (H.pick [4, 5, 6] 7 rfl)
            refine ⟨HS, ?_⟩
            refine h_done (by kernel_rfl) ?_
            refine x_then ?_
            exact ⟨_, _, _, _, _, S.sub ⟨rfl, rfl, rfl, rfl, rfl, rfl, rfl, rfl, rfl, rfl, rfl, trivial⟩, (H.pick [3, 0, 2, 1, 4, 5, 6] 7 rfl)⟩
          · skip
            refine r_call (args := #[.slice (some ⟨b42, 0, none⟩) 1 1, .int .i64 ((m : Nat) : Int)]) S rfl rfl Try.call42 (repeat_ct (H := H) _ _ _ _ true (SlOk.ofRow (i := 0) H rfl) m (by omega)) rfl rfl rfl fun v a w hR S => ?_
            obtain ⟨A46, c47, rfl, H⟩ := hR
            refine r_nil ?_
            refine x_then ?_
            have HS : Sat _ (blk b3 (.cells #[.slice none 0 0, .slice none 0 0] 40) :: blk b2 (.cells #[.int .i64 ((m : Nat) : Int), .slice A es.length c] 35) :: blk b1 (.cells #[.int .i64 k, .int .u32 ((s : Nat) : Int)] 24) :: fr) := (H.pick [3, 4, 5] 6 rfl)
            refine ⟨HS, ?_⟩
            refine h_all (r := 2) (rs := []) (by kernel_rfl) ⟨h_op (ls' := [true, true, true, true, true, true, true, false, true, false]) rfl rfl ?_, trivial⟩
            refine r_make (len := m) S H rfl rfl rfl el37 (by simp only [maxLen]; omega) (by omega) rfl rfl rfl fun a w b48 S H => ?_
            rw [made_u64s] at H
            refine r_nil ?_
            refine x_then ?_
            have HS : Sat _ (blk b3 (.cells #[.slice none 0 0, .slice none 0 0] 40) :: blk b2 (.cells #[.int .i64 ((m : Nat) : Int), .slice A es.length c] 35) :: blk b1 (.cells #[.int .i64 k, .int .u32 ((s : Nat) : Int)] 24) :: fr) := (H.pick [4, 5, 6] 7 rfl)
            refine ⟨HS, ?_⟩
            refine h_y 7 S HS rfl (y_build (vs := #[(0, .slice (some ⟨b48, 0, none⟩) m m), (1, .slice A46 m c47)]) (v := .agg #[.slice (some ⟨b48, 0, none⟩) m m, .slice A46 m c47]) S rfl rfl (fun w => by kernel_rfl)) rfl rfl rfl (by kernel_rfl) (by kernel_rfl) (by kernel_rfl) (ls' := [true, true, true, true, true, true, true, true, true, false]) rfl (fun _ _ _ h => h) fun a S => ?_
            refine h_all (r := 9) (rs := []) (by kernel_rfl) ⟨h_op (ls' := [true, true, true, true, true, true, true, true, true, true]) rfl rfl ?_, trivial⟩
            refine r_store (vs := [.slice (some ⟨b48, 0, none⟩) m m, .slice A46 m c47]) 3 S H rfl rfl rfl rfl Try.sizeOf40 rfl rfl (by simp [Value.oneCell']) rfl rfl rfl rfl rfl fun w H => ?_
            refine r_nil ?_
            refine x_then ?_
            have HS : Sat _ (blk b3 (.cells #[.slice none 0 0, .slice none 0 0] 40) :: blk b2 (.cells #[.int .i64 ((m : Nat) : Int), .slice A es.length c] 35) :: blk b1 (.cells #[.int .i64 k, .int .u32 ((s : Nat) : Int)] 24) :: fr) := (H.pick [4, 5, 6] 7 rfl)
            refine ⟨HS, ?_⟩
            refine h_done (by kernel_rfl) ?_
            refine x_then ?_
            exact ⟨_, _, _, _, _, S.sub ⟨rfl, rfl, rfl, rfl, rfl, rfl, rfl, rfl, rfl, rfl, rfl, trivial⟩, (H.pick [3, 1, 2, 0, 4, 5, 6] 7 rfl)⟩
    obtain ⟨b4, b5, A6, c7, b8, S, H⟩ := hm
    refine x_then ?_
    refine r_seq ?_
    refine r_seq ?_
    refine r_region ?_
    refine r_y S H (y_fieldAddr S rfl rfl fa40_0) rfl rfl rfl fun a S => ?_
    refine r_y S H (y_load 0 S rfl rfl Try.isAgg37 rfl rfl) rfl rfl rfl fun a S => ?_
    refine r_y S H (y_len S rfl rfl Try.underlying37) rfl rfl rfl fun a S => ?_
    refine r_y S H (y_move S rfl rfl) rfl rfl rfl fun a S => ?_
    refine r_nil ?_
    refine x_then ?_
    refine r_block ?_
    refine r_loop (ι := Nat) (fun i a w => Slots a 74 [(0, .agg #[.int .i64 k, .int .u32 ((s : Nat) : Int)]), (1, .agg #[.int .i64 ((m : Nat) : Int), .slice A es.length c]), (2, .pointer (some ⟨b1, 0, none⟩)), (3, .pointer (some ⟨b2, 0, none⟩)), (4, .pointer (some ⟨b3, 0, none⟩)), (5, .int .i64 0), (6, .pointer (some ⟨b8, 0, none⟩)), (8, .agg #[.int .i64 k, .int .u32 ((s : Nat) : Int)]), (9, .agg #[.int .i64 ((m : Nat) : Int), .slice A es.length c]), (10, .bool (Tr.may k s ((m : Nat) : Int) es)), (11, .bool (!(Tr.may k s ((m : Nat) : Int) es))), (21, .pointer (some ⟨b8, 0, none⟩)), (22, .slice (some ⟨b4, 0, none⟩) m m), (23, .int .i64 ((m : Nat) : Int)), (24, .int .i64 ((i : Nat) : Int))] ∧ Sat w (blk b8 (.cells #[.slice (some ⟨b4, 0, none⟩) m m, .slice A6 m c7] 40) :: row 4 1 (.slice A6 m c7) m (bools (fill (fun _ => Tr.sl k) (List.replicate m true) i)) :: row 25 1 (.slice (some ⟨b4, 0, none⟩) m m) m (u64s (fill (Tr.sv k) (List.replicate m 0) i)) :: blk b3 (.cells #[.slice none 0 0, .slice none 0 0] 40) :: blk b2 (.cells #[.int .i64 ((m : Nat) : Int), .slice A es.length c] 35) :: blk b1 (.cells #[.int .i64 k, .int .u32 ((s : Nat) : Int)] 24) :: fr) ∧ (i ≤ m)) (fun i => m - i) 0 ⟨S.sub ⟨rfl, rfl, rfl, rfl, rfl, rfl, rfl, rfl, rfl, rfl, rfl, rfl, rfl, rfl, rfl, trivial⟩, (by rw [fill_zero, fill_zero]; exact (H.pick [0, 1, 3, 4, 5, 6] 7 rfl)), by omega⟩ (fun i a w hI => ?_)
    obtain ⟨S, H, hI⟩ := hI
    have l1 : (fill (Tr.sv k) (List.replicate m 0) i).length = m := by rw [fill_len (by simp; omega)]; simp
    have l2 : (fill (fun _ => Tr.sl k) (List.replicate m true) i).length = m := by rw [fill_len (by simp; omega)]; simp
    refine r_seq ?_
    refine r_region ?_
    refine r_y S H (y_lt S rfl rfl rfl) rfl rfl rfl fun a S => ?_
    refine r_nil ?_
    refine x_then ?_
    refine r_seq ?_
    refine r_test S rfl (fun h25 => ?_) (fun h25 => ?_)
    · skip
      refine wp_skip ?_
      refine x_then ?_
      refine r_seq ?_
      refine r_block ?_
      refine r_seq ?_
      refine r_region ?_
      refine r_y S H (y_move S rfl rfl) rfl rfl rfl fun a S => ?_
      refine r_y S H (y_assign S rfl rfl) rfl rfl rfl fun a S => ?_
      refine r_nil ?_
      refine x_then ?_
      refine r_seq ?_
      refine r_region ?_
      refine r_y S H (y_fieldAddr S rfl rfl fa24_0) rfl rfl rfl fun a S => ?_
      refine r_y S H (y_load 5 S rfl rfl Try.isAgg3 rfl rfl) rfl rfl rfl fun a S => ?_
      refine r_nil ?_
      refine x_then ?_
      refine r_block ?_
      refine r_seq ?_
      refine r_region ?_
      refine r_y S H (y_eq S rfl rfl rfl) rfl rfl rfl fun a S => ?_
      refine r_y S H (y_assign S rfl rfl) rfl rfl rfl fun a S => ?_
      refine r_nil ?_
      refine x_then ?_
      refine r_test S rfl (fun h29 => ?_) (fun h29 => ?_)
      · skip
        refine r_region ?_
        refine r_y S H (y_fieldAddr S rfl rfl fa40_0) rfl rfl rfl fun a S => ?_
        refine r_y S H (y_load 0 S rfl rfl Try.isAgg37 rfl rfl) rfl rfl rfl fun a S => ?_
        refine r_y S H (y_move S rfl rfl) rfl rfl rfl fun a S => ?_
        refine r_y S H (y_move S rfl rfl) rfl rfl rfl fun a S => ?_
        refine r_y S H (y_conv S rfl rfl Try.underlying3 Try.underlying25 (wu64 (by omega) (by omega))) rfl rfl rfl fun a S => ?_
        refine r_y S H (y_index S rfl rfl rfl Try.underlying37 Try.sizeOf25 (by omega) (by omega)) rfl rfl rfl fun a S => ?_
        refine r_setRowV (L' := blk b8 (.cells #[.slice (some ⟨b4, 0, none⟩) m m, .slice A6 m c7] 40) :: row 4 1 (.slice A6 m c7) m (bools (fill (fun _ => Tr.sl k) (List.replicate m true) i)) :: row 25 1 (.slice (some ⟨b4, 0, none⟩) m m) m (u64s ((fill (Tr.sv k) (List.replicate m 0) i).set i i)) :: blk b3 (.cells #[.slice none 0 0, .slice none 0 0] 40) :: blk b2 (.cells #[.int .i64 ((m : Nat) : Int), .slice A es.length c] 35) :: blk b1 (.cells #[.int .i64 k, .int .u32 ((s : Nat) : Int)] 24) :: fr) 2 S H rfl rfl rfl rfl Try.sizeOf25 rfl rfl (by first | omega | (simp <;> omega)) (xs' := u64s ((fill (Tr.sv k) (List.replicate m 0) i).set i i)) (u64s_put (by omega) rfl) rfl rfl rfl fun w H => ?_
        refine r_nil ?_
        refine x_blockEnd ?_
        refine x_blockEnd ?_
        refine x_then ?_
        refine r_region ?_
        refine r_y S H (y_add S rfl rfl rfl (wi64 (by omega) (by omega))) rfl rfl rfl fun a S => ?_
        refine r_y S H (y_move S rfl rfl) rfl rfl rfl fun a S => ?_
        refine r_nil ?_
        refine x_then ?_
        rw [fill_put (f := Tr.sv k) (l := List.replicate m 0) (k := i) (x := i) (by simp; omega) (by simp [Tr.sv, Tr.sl, top, *])] at H
        rw [fill_same (f := fun _ => Tr.sl k) (l := List.replicate m true) (k := i) (by simp; omega) (by simp [Tr.sv, Tr.sl, top, *])] at H
        exact ⟨i + 1, ⟨S.sub ⟨rfl, rfl, rfl, rfl, rfl, rfl, rfl, rfl, rfl, rfl, rfl, rfl, rfl, rfl, rfl, trivial⟩, H, by omega⟩, by omega⟩
      · skip
        refine r_seq ?_
        refine r_region ?_
        refine r_y S H (y_eq S rfl rfl rfl) rfl rfl rfl fun a S => ?_
        refine r_y S H (y_assign S rfl rfl) rfl rfl rfl fun a S => ?_
        refine r_nil ?_
        refine x_then ?_
        refine r_test S rfl (fun h37 => ?_) (fun h37 => ?_)
        · skip
          refine r_region ?_
          refine r_y S H (y_fieldAddr S rfl rfl fa40_0) rfl rfl rfl fun a S => ?_
          refine r_y S H (y_load 0 S rfl rfl Try.isAgg37 rfl rfl) rfl rfl rfl fun a S => ?_
          refine r_y S H (y_move S rfl rfl) rfl rfl rfl fun a S => ?_
          refine r_y S H (y_index S rfl rfl rfl Try.underlying37 Try.sizeOf25 (by omega) (by omega)) rfl rfl rfl fun a S => ?_
          refine r_setRowV (L' := blk b8 (.cells #[.slice (some ⟨b4, 0, none⟩) m m, .slice A6 m c7] 40) :: row 4 1 (.slice A6 m c7) m (bools (fill (fun _ => Tr.sl k) (List.replicate m true) i)) :: row 25 1 (.slice (some ⟨b4, 0, none⟩) m m) m (u64s ((fill (Tr.sv k) (List.replicate m 0) i).set i 1048576)) :: blk b3 (.cells #[.slice none 0 0, .slice none 0 0] 40) :: blk b2 (.cells #[.int .i64 ((m : Nat) : Int), .slice A es.length c] 35) :: blk b1 (.cells #[.int .i64 k, .int .u32 ((s : Nat) : Int)] 24) :: fr) 2 S H rfl rfl rfl rfl Try.sizeOf25 rfl rfl (by first | omega | (simp <;> omega)) (xs' := u64s ((fill (Tr.sv k) (List.replicate m 0) i).set i 1048576)) (u64s_put (by omega) rfl) rfl rfl rfl fun w H => ?_
          refine r_nil ?_
          refine x_blockEnd ?_
          refine x_blockEnd ?_
          refine x_then ?_
          refine r_region ?_
          refine r_y S H (y_add S rfl rfl rfl (wi64 (by omega) (by omega))) rfl rfl rfl fun a S => ?_
          refine r_y S H (y_move S rfl rfl) rfl rfl rfl fun a S => ?_
          refine r_nil ?_
          refine x_then ?_
          rw [fill_put (f := Tr.sv k) (l := List.replicate m 0) (k := i) (x := 1048576) (by simp; omega) (by simp [Tr.sv, Tr.sl, top, *])] at H
          rw [fill_same (f := fun _ => Tr.sl k) (l := List.replicate m true) (k := i) (by simp; omega) (by simp [Tr.sv, Tr.sl, top, *])] at H
          exact ⟨i + 1, ⟨S.sub ⟨rfl, rfl, rfl, rfl, rfl, rfl, rfl, rfl, rfl, rfl, rfl, rfl, rfl, rfl, rfl, trivial⟩, H, by omega⟩, by omega⟩
        · skip
          refine r_seq ?_
          refine r_seq ?_
          refine r_region ?_
          refine r_y S H (y_eq S rfl rfl rfl) rfl rfl rfl fun a S => ?_
          refine r_y S H (y_assign S rfl rfl) rfl rfl rfl fun a S => ?_
          refine r_nil ?_
          refine x_then ?_
          refine r_test S rfl (fun h43 => ?_) (fun h43 => ?_)
          · skip
            have S := S.retell (v' := .bool true) 43 rfl (by simp [h43])
            refine wp_skip ?_
            refine x_then ?_
            refine r_condT S rfl ?_
            refine h_start (blk b8 (.cells #[.slice (some ⟨b4, 0, none⟩) m m, .slice A6 m c7] 40) :: blk b3 (.cells #[.slice none 0 0, .slice none 0 0] 40) :: blk b2 (.cells #[.int .i64 ((m : Nat) : Int), .slice A es.length c] 35) :: blk b1 (.cells #[.int .i64 k, .int .u32 ((s : Nat) : Int)] 24) :: fr) (ls := [false, false, false, false, false, false, false, false, false, false]) H rfl rfl fun w H => ?_
            have HS : Sat _ (blk b8 (.cells #[.slice (some ⟨b4, 0, none⟩) m m, .slice A6 m c7] 40) :: blk b3 (.cells #[.slice none 0 0, .slice none 0 0] 40) :: blk b2 (.cells #[.int .i64 ((m : Nat) : Int), .slice A es.length c] 35) :: blk b1 (.cells #[.int .i64 k, .int .u32 ((s : Nat) : Int)] 24) :: fr) := (H.pick [0, 3, 4, 5] 6 rfl)
            refine h_y 0 S HS rfl (y_fieldAddr S rfl rfl fa40_0) rfl rfl rfl (by kernel_rfl) (by kernel_rfl) (by kernel_rfl) (ls' := [true, false, false, false, false, false, false, false, false, false]) rfl (fun _ _ _ h => h) fun a S => ?_
            refine h_y 1 S HS rfl (y_load 0 S rfl rfl Try.isAgg37 rfl rfl) rfl rfl rfl (by kernel_rfl) (by kernel_rfl) (by kernel_rfl) (ls' := [true, true, false, false, false, false, false, false, false, false]) rfl (fun _ _ _ h => h) fun a S => ?_
            refine h_y 2 S HS rfl (y_move S rfl rfl) rfl rfl rfl (by kernel_rfl) (by kernel_rfl) (by kernel_rfl) (ls' := [true, true, true, false, false, false, false, false, false, false]) rfl (fun _ _ _ h => h) fun a S => ?_
            refine h_y 3 S HS rfl (y_fieldAddr S rfl rfl fa40_1) rfl rfl rfl (by kernel_rfl) (by kernel_rfl) (by kernel_rfl) (ls' := [true, true, true, true, false, false, false, false, false, false]) rfl (fun _ _ _ h => h) fun a S => ?_
            refine h_y 4 S HS rfl (y_load 0 S rfl rfl Try.isAgg38 rfl rfl) rfl rfl rfl (by kernel_rfl) (by kernel_rfl) (by kernel_rfl) (ls' := [true, true, true, true, true, false, false, false, false, false]) rfl (fun _ _ _ h => h) fun a S => ?_
            refine h_y 5 S HS rfl (y_move S rfl rfl) rfl rfl rfl (by kernel_rfl) (by kernel_rfl) (by kernel_rfl) (ls' := [true, true, true, true, true, true, false, false, false, false]) rfl (fun _ _ _ h => h) fun a S => ?_
            refine h_y 6 S HS rfl (y_index S rfl rfl rfl Try.underlying37 Try.sizeOf25 (by omega) (by omega)) rfl rfl rfl (by kernel_rfl) (by kernel_rfl) (by kernel_rfl) (ls' := [true, true, true, true, true, true, true, false, false, false]) rfl (fun _ _ _ h => h) fun a S => ?_
            refine h_all (r := 7) (rs := []) (by kernel_rfl) ⟨h_op (ls' := [true, true, true, true, true, true, true, true, false, false]) rfl rfl ?_, trivial⟩
            refine r_setRowV (L' := blk b8 (.cells #[.slice (some ⟨b4, 0, none⟩) m m, .slice A6 m c7] 40) :: row 4 1 (.slice A6 m c7) m (bools (fill (fun _ => Tr.sl k) (List.replicate m true) i)) :: row 25 1 (.slice (some ⟨b4, 0, none⟩) m m) m (u64s ((fill (Tr.sv k) (List.replicate m 0) i).set i 18446744073709551615)) :: blk b3 (.cells #[.slice none 0 0, .slice none 0 0] 40) :: blk b2 (.cells #[.int .i64 ((m : Nat) : Int), .slice A es.length c] 35) :: blk b1 (.cells #[.int .i64 k, .int .u32 ((s : Nat) : Int)] 24) :: fr) 2 S H rfl rfl rfl rfl Try.sizeOf25 rfl rfl (by first | omega | (simp <;> omega)) (xs' := u64s ((fill (Tr.sv k) (List.replicate m 0) i).set i 18446744073709551615)) (u64s_put (by omega) rfl) rfl rfl rfl fun w H => ?_
            refine r_nil ?_
            refine x_then ?_
            have HS : Sat _ (blk b8 (.cells #[.slice (some ⟨b4, 0, none⟩) m m, .slice A6 m c7] 40) :: blk b3 (.cells #[.slice none 0 0, .slice none 0 0] 40) :: blk b2 (.cells #[.int .i64 ((m : Nat) : Int), .slice A es.length c] 35) :: blk b1 (.cells #[.int .i64 k, .int .u32 ((s : Nat) : Int)] 24) :: fr) := (H.pick [0, 3, 4, 5] 6 rfl)
            refine ⟨HS, ?_⟩
            refine h_all (r := 8) (rs := []) (by kernel_rfl) ⟨h_op (ls' := [true, true, true, true, true, true, true, true, true, false]) rfl rfl ?_, trivial⟩
            obtain ⟨b51, rfl⟩ := H.rowAt (i := 1) rfl (by first | omega | (simp <;> omega))
            refine r_y S H (y_index S rfl rfl rfl Try.underlying38 Try.sizeOf4 (by omega) (by omega)) rfl rfl rfl fun a S => ?_
            refine r_nil ?_
            refine x_then ?_
            have HS : Sat _ (blk b8 (.cells #[.slice (some ⟨b4, 0, none⟩) m m, .slice (some ⟨b51, 0, none⟩) m c7] 40) :: blk b3 (.cells #[.slice none 0 0, .slice none 0 0] 40) :: blk b2 (.cells #[.int .i64 ((m : Nat) : Int), .slice A es.length c] 35) :: blk b1 (.cells #[.int .i64 k, .int .u32 ((s : Nat) : Int)] 24) :: fr) := (H.pick [0, 3, 4, 5] 6 rfl)
            refine ⟨HS, ?_⟩
            refine h_all (r := 9) (rs := []) (by kernel_rfl) ⟨h_op (ls' := [true, true, true, true, true, true, true, true, true, true]) rfl rfl ?_, trivial⟩
            refine r_setRowV (L' := blk b8 (.cells #[.slice (some ⟨b4, 0, none⟩) m m, .slice (some ⟨b51, 0, none⟩) m c7] 40) :: row 4 1 (.slice (some ⟨b51, 0, none⟩) m c7) m (bools ((fill (fun _ => Tr.sl k) (List.replicate m true) i).set i false)) :: row 25 1 (.slice (some ⟨b4, 0, none⟩) m m) m (u64s ((fill (Tr.sv k) (List.replicate m 0) i).set i 18446744073709551615)) :: blk b3 (.cells #[.slice none 0 0, .slice none 0 0] 40) :: blk b2 (.cells #[.int .i64 ((m : Nat) : Int), .slice A es.length c] 35) :: blk b1 (.cells #[.int .i64 k, .int .u32 ((s : Nat) : Int)] 24) :: fr) 1 S H rfl rfl rfl rfl Try.sizeOf4 rfl rfl (by first | omega | (simp <;> omega)) (xs' := bools ((fill (fun _ => Tr.sl k) (List.replicate m true) i).set i false)) (bools_put (by omega) rfl) rfl rfl rfl fun w H => ?_
            refine r_nil ?_
            refine x_then ?_
            have HS : Sat _ (blk b8 (.cells #[.slice (some ⟨b4, 0, none⟩) m m, .slice (some ⟨b51, 0, none⟩) m c7] 40) :: blk b3 (.cells #[.slice none 0 0, .slice none 0 0] 40) :: blk b2 (.cells #[.int .i64 ((m : Nat) : Int), .slice A es.length c] 35) :: blk b1 (.cells #[.int .i64 k, .int .u32 ((s : Nat) : Int)] 24) :: fr) := (H.pick [0, 3, 4, 5] 6 rfl)
            refine ⟨HS, ?_⟩
            refine h_done (by kernel_rfl) ?_
            refine x_blockEnd ?_
            refine x_blockEnd ?_
            refine x_then ?_
            refine r_region ?_
            refine r_y S H (y_add S rfl rfl rfl (wi64 (by omega) (by omega))) rfl rfl rfl fun a S => ?_
            refine r_y S H (y_move S rfl rfl) rfl rfl rfl fun a S => ?_
            refine r_nil ?_
            refine x_then ?_
            rw [fill_put (f := Tr.sv k) (l := List.replicate m 0) (k := i) (x := 18446744073709551615) (by simp; omega) (by simp [Tr.sv, Tr.sl, top, *])] at H
            rw [fill_put (f := fun _ => Tr.sl k) (l := List.replicate m true) (k := i) (x := false) (by simp; omega) (by simp [Tr.sv, Tr.sl, top, *])] at H
            exact ⟨i + 1, ⟨S.sub ⟨rfl, rfl, rfl, rfl, rfl, rfl, rfl, rfl, rfl, rfl, rfl, rfl, rfl, rfl, rfl, trivial⟩, H, by omega⟩, by omega⟩
          · skip
            have S := S.retell (v' := .bool false) 43 rfl (by simp [h43])
            refine r_region ?_
            refine r_y S H (y_eq S rfl rfl rfl) rfl rfl rfl fun a S => ?_
            refine r_y S H (y_assign S rfl rfl) rfl rfl rfl fun a S => ?_
            refine r_nil ?_
            refine x_then ?_
            refine r_test S rfl (fun h43 => ?_) (fun h43 => ?_)
            · skip
              have S := S.retell (v' := .bool true) 43 rfl (by simp [h43])
              refine h_start (blk b8 (.cells #[.slice (some ⟨b4, 0, none⟩) m m, .slice A6 m c7] 40) :: blk b3 (.cells #[.slice none 0 0, .slice none 0 0] 40) :: blk b2 (.cells #[.int .i64 ((m : Nat) : Int), .slice A es.length c] 35) :: blk b1 (.cells #[.int .i64 k, .int .u32 ((s : Nat) : Int)] 24) :: fr) (ls := [false, false, false, false, false, false, false, false, false, false]) H rfl rfl fun w H => ?_
              have HS : Sat _ (blk b8 (.cells #[.slice (some ⟨b4, 0, none⟩) m m, .slice A6 m c7] 40) :: blk b3 (.cells #[.slice none 0 0, .slice none 0 0] 40) :: blk b2 (.cells #[.int .i64 ((m : Nat) : Int), .slice A es.length c] 35) :: blk b1 (.cells #[.int .i64 k, .int .u32 ((s : Nat) : Int)] 24) :: fr) := (H.pick [0, 3, 4, 5] 6 rfl)
              refine h_y 0 S HS rfl (y_fieldAddr S rfl rfl fa40_0) rfl rfl rfl (by kernel_rfl) (by kernel_rfl) (by kernel_rfl) (ls' := [true, false, false, false, false, false, false, false, false, false]) rfl (fun _ _ _ h => h) fun a S => ?_
              refine h_y 1 S HS rfl (y_load 0 S rfl rfl Try.isAgg37 rfl rfl) rfl rfl rfl (by kernel_rfl) (by kernel_rfl) (by kernel_rfl) (ls' := [true, true, false, false, false, false, false, false, false, false]) rfl (fun _ _ _ h => h) fun a S => ?_
              refine h_y 2 S HS rfl (y_move S rfl rfl) rfl rfl rfl (by kernel_rfl) (by kernel_rfl) (by kernel_rfl) (ls' := [true, true, true, false, false, false, false, false, false, false]) rfl (fun _ _ _ h => h) fun a S => ?_
              refine h_y 3 S HS rfl (y_fieldAddr S rfl rfl fa40_1) rfl rfl rfl (by kernel_rfl) (by kernel_rfl) (by kernel_rfl) (ls' := [true, true, true, true, false, false, false, false, false, false]) rfl (fun _ _ _ h => h) fun a S => ?_
              refine h_y 4 S HS rfl (y_load 0 S rfl rfl Try.isAgg38 rfl rfl) rfl rfl rfl (by kernel_rfl) (by kernel_rfl) (by kernel_rfl) (ls' := [true, true, true, true, true, false, false, false, false, false]) rfl (fun _ _ _ h => h) fun a S => ?_
              refine h_y 5 S HS rfl (y_move S rfl rfl) rfl rfl rfl (by kernel_rfl) (by kernel_rfl) (by kernel_rfl) (ls' := [true, true, true, true, true, true, false, false, false, false]) rfl (fun _ _ _ h => h) fun a S => ?_
              refine h_y 6 S HS rfl (y_index S rfl rfl rfl Try.underlying37 Try.sizeOf25 (by omega) (by omega)) rfl rfl rfl (by kernel_rfl) (by kernel_rfl) (by kernel_rfl) (ls' := [true, true, true, true, true, true, true, false, false, false]) rfl (fun _ _ _ h => h) fun a S => ?_
              refine h_all (r := 7) (rs := []) (by kernel_rfl) ⟨h_op (ls' := [true, true, true, true, true, true, true, true, false, false]) rfl rfl ?_, trivial⟩
              refine r_setRowV (L' := blk b8 (.cells #[.slice (some ⟨b4, 0, none⟩) m m, .slice A6 m c7] 40) :: row 4 1 (.slice A6 m c7) m (bools (fill (fun _ => Tr.sl k) (List.replicate m true) i)) :: row 25 1 (.slice (some ⟨b4, 0, none⟩) m m) m (u64s ((fill (Tr.sv k) (List.replicate m 0) i).set i 18446744073709551615)) :: blk b3 (.cells #[.slice none 0 0, .slice none 0 0] 40) :: blk b2 (.cells #[.int .i64 ((m : Nat) : Int), .slice A es.length c] 35) :: blk b1 (.cells #[.int .i64 k, .int .u32 ((s : Nat) : Int)] 24) :: fr) 2 S H rfl rfl rfl rfl Try.sizeOf25 rfl rfl (by first | omega | (simp <;> omega)) (xs' := u64s ((fill (Tr.sv k) (List.replicate m 0) i).set i 18446744073709551615)) (u64s_put (by omega) rfl) rfl rfl rfl fun w H => ?_
              refine r_nil ?_
              refine x_then ?_
              have HS : Sat _ (blk b8 (.cells #[.slice (some ⟨b4, 0, none⟩) m m, .slice A6 m c7] 40) :: blk b3 (.cells #[.slice none 0 0, .slice none 0 0] 40) :: blk b2 (.cells #[.int .i64 ((m : Nat) : Int), .slice A es.length c] 35) :: blk b1 (.cells #[.int .i64 k, .int .u32 ((s : Nat) : Int)] 24) :: fr) := (H.pick [0, 3, 4, 5] 6 rfl)
              refine ⟨HS, ?_⟩
              refine h_all (r := 8) (rs := []) (by kernel_rfl) ⟨h_op (ls' := [true, true, true, true, true, true, true, true, true, false]) rfl rfl ?_, trivial⟩
              obtain ⟨b55, rfl⟩ := H.rowAt (i := 1) rfl (by first | omega | (simp <;> omega))
              refine r_y S H (y_index S rfl rfl rfl Try.underlying38 Try.sizeOf4 (by omega) (by omega)) rfl rfl rfl fun a S => ?_
              refine r_nil ?_
              refine x_then ?_
              have HS : Sat _ (blk b8 (.cells #[.slice (some ⟨b4, 0, none⟩) m m, .slice (some ⟨b55, 0, none⟩) m c7] 40) :: blk b3 (.cells #[.slice none 0 0, .slice none 0 0] 40) :: blk b2 (.cells #[.int .i64 ((m : Nat) : Int), .slice A es.length c] 35) :: blk b1 (.cells #[.int .i64 k, .int .u32 ((s : Nat) : Int)] 24) :: fr) := (H.pick [0, 3, 4, 5] 6 rfl)
              refine ⟨HS, ?_⟩
              refine h_all (r := 9) (rs := []) (by kernel_rfl) ⟨h_op (ls' := [true, true, true, true, true, true, true, true, true, true]) rfl rfl ?_, trivial⟩
              refine r_setRowV (L' := blk b8 (.cells #[.slice (some ⟨b4, 0, none⟩) m m, .slice (some ⟨b55, 0, none⟩) m c7] 40) :: row 4 1 (.slice (some ⟨b55, 0, none⟩) m c7) m (bools ((fill (fun _ => Tr.sl k) (List.replicate m true) i).set i false)) :: row 25 1 (.slice (some ⟨b4, 0, none⟩) m m) m (u64s ((fill (Tr.sv k) (List.replicate m 0) i).set i 18446744073709551615)) :: blk b3 (.cells #[.slice none 0 0, .slice none 0 0] 40) :: blk b2 (.cells #[.int .i64 ((m : Nat) : Int), .slice A es.length c] 35) :: blk b1 (.cells #[.int .i64 k, .int .u32 ((s : Nat) : Int)] 24) :: fr) 1 S H rfl rfl rfl rfl Try.sizeOf4 rfl rfl (by first | omega | (simp <;> omega)) (xs' := bools ((fill (fun _ => Tr.sl k) (List.replicate m true) i).set i false)) (bools_put (by omega) rfl) rfl rfl rfl fun w H => ?_
              refine r_nil ?_
              refine x_then ?_
              have HS : Sat _ (blk b8 (.cells #[.slice (some ⟨b4, 0, none⟩) m m, .slice (some ⟨b55, 0, none⟩) m c7] 40) :: blk b3 (.cells #[.slice none 0 0, .slice none 0 0] 40) :: blk b2 (.cells #[.int .i64 ((m : Nat) : Int), .slice A es.length c] 35) :: blk b1 (.cells #[.int .i64 k, .int .u32 ((s : Nat) : Int)] 24) :: fr) := (H.pick [0, 3, 4, 5] 6 rfl)
              refine ⟨HS, ?_⟩
              refine h_done (by kernel_rfl) ?_
              refine x_blockEnd ?_
              refine x_blockEnd ?_
              refine x_then ?_
              refine r_region ?_
              refine r_y S H (y_add S rfl rfl rfl (wi64 (by omega) (by omega))) rfl rfl rfl fun a S => ?_
              refine r_y S H (y_move S rfl rfl) rfl rfl rfl fun a S => ?_
              refine r_nil ?_
              refine x_then ?_
              rw [fill_put (f := Tr.sv k) (l := List.replicate m 0) (k := i) (x := 18446744073709551615) (by simp; omega) (by simp [Tr.sv, Tr.sl, top, *])] at H
              rw [fill_put (f := fun _ => Tr.sl k) (l := List.replicate m true) (k := i) (x := false) (by simp; omega) (by simp [Tr.sv, Tr.sl, top, *])] at H
              exact ⟨i + 1, ⟨S.sub ⟨rfl, rfl, rfl, rfl, rfl, rfl, rfl, rfl, rfl, rfl, rfl, rfl, rfl, rfl, rfl, trivial⟩, H, by omega⟩, by omega⟩
            · skip
              have S := S.retell (v' := .bool false) 43 rfl (by simp [h43])
              refine wp_skip ?_
              refine x_blockEnd ?_
              refine x_blockEnd ?_
              refine x_then ?_
              refine r_region ?_
              refine r_y S H (y_add S rfl rfl rfl (wi64 (by omega) (by omega))) rfl rfl rfl fun a S => ?_
              refine r_y S H (y_move S rfl rfl) rfl rfl rfl fun a S => ?_
              refine r_nil ?_
              refine x_then ?_
              rw [fill_same (f := Tr.sv k) (l := List.replicate m 0) (k := i) (by simp; omega) (by simp [Tr.sv, Tr.sl, top, *])] at H
              rw [fill_same (f := fun _ => Tr.sl k) (l := List.replicate m true) (k := i) (by simp; omega) (by simp [Tr.sv, Tr.sl, top, *])] at H
              exact ⟨i + 1, ⟨S.sub ⟨rfl, rfl, rfl, rfl, rfl, rfl, rfl, rfl, rfl, rfl, rfl, rfl, rfl, rfl, rfl, trivial⟩, H, by omega⟩, by omega⟩
    · skip
      refine wp_exit ?_
      refine x_thenExit ?_
      refine x_thenExit ?_
      refine x_blockHere ?_
      refine x_then ?_
      refine r_seq ?_
      refine r_seq ?_
      refine wp_via (J := fun a w => Slots a 74 [(0, .agg #[.int .i64 k, .int .u32 ((s : Nat) : Int)]), (1, .agg #[.int .i64 ((m : Nat) : Int), .slice A es.length c]), (2, .pointer (some ⟨b1, 0, none⟩)), (3, .pointer (some ⟨b2, 0, none⟩)), (4, .pointer (some ⟨b3, 0, none⟩)), (5, .int .i64 0), (6, .pointer (some ⟨b8, 0, none⟩)), (8, .agg #[.int .i64 k, .int .u32 ((s : Nat) : Int)]), (9, .agg #[.int .i64 ((m : Nat) : Int), .slice A es.length c]), (10, .bool (Tr.may k s ((m : Nat) : Int) es)), (11, .bool (!(Tr.may k s ((m : Nat) : Int) es))), (21, .pointer (some ⟨b8, 0, none⟩)), (22, .slice (some ⟨b4, 0, none⟩) m m), (23, .int .i64 ((m : Nat) : Int)), (24, .int .i64 ((i : Nat) : Int)), (25, .bool (decide (((i : Nat) : Int) < ((m : Nat) : Int)))), (62, .bool ((decide (k = 1)) || (decide (k = 3))))] ∧ Sat w (blk b8 (.cells #[.slice (some ⟨b4, 0, none⟩) m m, .slice A6 m c7] 40) :: row 4 1 (.slice A6 m c7) m (bools (fill (fun _ => Tr.sl k) (List.replicate m true) i)) :: row 25 1 (.slice (some ⟨b4, 0, none⟩) m m) m (u64s (fill (Tr.sv k) (List.replicate m 0) i)) :: blk b3 (.cells #[.slice none 0 0, .slice none 0 0] 40) :: blk b2 (.cells #[.int .i64 ((m : Nat) : Int), .slice A es.length c] 35) :: blk b1 (.cells #[.int .i64 k, .int .u32 ((s : Nat) : Int)] 24) :: fr)) ?_ (fun a w hm => ?_)
      · skip
        refine r_region ?_
        refine r_y S H (y_fieldAddr S rfl rfl fa24_0) rfl rfl rfl fun a S => ?_
        refine r_y S H (y_load 5 S rfl rfl Try.isAgg3 rfl rfl) rfl rfl rfl fun a S => ?_
        refine r_y S H (y_eq S rfl rfl rfl) rfl rfl rfl fun a S => ?_
        refine r_y S H (y_move S rfl rfl) rfl rfl rfl fun a S => ?_
        refine splitP S (d := 58) rfl (fun g58 S => ?_) (fun g58 S => ?_)
        · skip
          refine r_skip S rfl rfl rfl fun a S => ?_
          refine r_skip S rfl rfl rfl fun a S => ?_
          refine r_skip S rfl rfl rfl fun a S => ?_
          refine r_y S H (y_pickT S rfl rfl rfl) rfl rfl rfl fun a S => ?_
          refine r_nil ?_
          refine x_then ?_
          exact ⟨S.sub ⟨rfl, rfl, rfl, rfl, rfl, rfl, rfl, rfl, rfl, rfl, rfl, rfl, rfl, rfl, rfl, rfl, (show lk _ _ = some (.bool true) from rfl).trans (by first | (simp only [g58, decide_true, decide_false, Bool.true_and, Bool.false_and, Bool.true_or, Bool.false_or]; done) | (simp [-List.getD_eq_getElem?_getD, g58]; done) | (simp [-List.getD_eq_getElem?_getD, g58]; omega)), trivial⟩, H⟩
        · skip
          refine r_y S H (y_fieldAddr S rfl rfl fa24_0) rfl rfl rfl fun a S => ?_
          refine r_y S H (y_load 5 S rfl rfl Try.isAgg3 rfl rfl) rfl rfl rfl fun a S => ?_
          refine r_y S H (y_eq S rfl rfl rfl) rfl rfl rfl fun a S => ?_
          refine r_y S H (y_pickF S rfl rfl rfl) rfl rfl rfl fun a S => ?_
          refine r_nil ?_
          refine x_then ?_
          exact ⟨S.sub ⟨rfl, rfl, rfl, rfl, rfl, rfl, rfl, rfl, rfl, rfl, rfl, rfl, rfl, rfl, rfl, rfl, (show lk _ _ = some (.bool (decide (k = 3))) from rfl).trans (by first | (simp only [g58, decide_true, decide_false, Bool.true_and, Bool.false_and, Bool.true_or, Bool.false_or]; done) | (simp [-List.getD_eq_getElem?_getD, g58]; done) | (simp [-List.getD_eq_getElem?_getD, g58]; omega)), trivial⟩, H⟩
      obtain ⟨S, H⟩ := hm
      refine x_then ?_
      refine r_cond S rfl (fun h62 => ?_) (fun h62 => ?_)
      · skip
        have hsm : s < m := by have := hks (by simpa using h62); omega
        refine h_start (blk b8 (.cells #[.slice (some ⟨b4, 0, none⟩) m m, .slice A6 m c7] 40) :: blk b3 (.cells #[.slice none 0 0, .slice none 0 0] 40) :: blk b2 (.cells #[.int .i64 ((m : Nat) : Int), .slice A es.length c] 35) :: blk b1 (.cells #[.int .i64 k, .int .u32 ((s : Nat) : Int)] 24) :: fr) (ls := [false, false, false, false, false, false, false, false, false, false, false, false]) H rfl rfl fun w H => ?_
        have HS : Sat _ (blk b8 (.cells #[.slice (some ⟨b4, 0, none⟩) m m, .slice A6 m c7] 40) :: blk b3 (.cells #[.slice none 0 0, .slice none 0 0] 40) :: blk b2 (.cells #[.int .i64 ((m : Nat) : Int), .slice A es.length c] 35) :: blk b1 (.cells #[.int .i64 k, .int .u32 ((s : Nat) : Int)] 24) :: fr) := (H.pick [0, 3, 4, 5] 6 rfl)
        refine h_y 0 S HS rfl (y_fieldAddr S rfl rfl fa40_0) rfl rfl rfl (by kernel_rfl) (by kernel_rfl) (by kernel_rfl) (ls' := [true, false, false, false, false, false, false, false, false, false, false, false]) rfl (fun _ _ _ h => h) fun a S => ?_
        refine h_y 1 S HS rfl (y_load 0 S rfl rfl Try.isAgg37 rfl rfl) rfl rfl rfl (by kernel_rfl) (by kernel_rfl) (by kernel_rfl) (ls' := [true, true, false, false, false, false, false, false, false, false, false, false]) rfl (fun _ _ _ h => h) fun a S => ?_
        refine h_y 2 S HS rfl (y_fieldAddr S rfl rfl fa24_1) rfl rfl rfl (by kernel_rfl) (by kernel_rfl) (by kernel_rfl) (ls' := [true, true, true, false, false, false, false, false, false, false, false, false]) rfl (fun _ _ _ h => h) fun a S => ?_
        refine h_y 3 S HS rfl (y_load 3 S rfl rfl Try.isAgg22 rfl rfl) rfl rfl rfl (by kernel_rfl) (by kernel_rfl) (by kernel_rfl) (ls' := [true, true, true, true, false, false, false, false, false, false, false, false]) rfl (fun _ _ _ h => h) fun a S => ?_
        refine h_y 4 S HS rfl (y_fieldAddr S rfl rfl fa40_1) rfl rfl rfl (by kernel_rfl) (by kernel_rfl) (by kernel_rfl) (ls' := [true, true, true, true, true, false, false, false, false, false, false, false]) rfl (fun _ _ _ h => h) fun a S => ?_
        refine h_y 5 S HS rfl (y_load 0 S rfl rfl Try.isAgg38 rfl rfl) rfl rfl rfl (by kernel_rfl) (by kernel_rfl) (by kernel_rfl) (ls' := [true, true, true, true, true, true, false, false, false, false, false, false]) rfl (fun _ _ _ h => h) fun a S => ?_
        refine h_y 6 S HS rfl (y_fieldAddr S rfl rfl fa24_1) rfl rfl rfl (by kernel_rfl) (by kernel_rfl) (by kernel_rfl) (ls' := [true, true, true, true, true, true, true, false, false, false, false, false]) rfl (fun _ _ _ h => h) fun a S => ?_
        refine h_y 7 S HS rfl (y_load 3 S rfl rfl Try.isAgg22 rfl rfl) rfl rfl rfl (by kernel_rfl) (by kernel_rfl) (by kernel_rfl) (ls' := [true, true, true, true, true, true, true, true, false, false, false, false]) rfl (fun _ _ _ h => h) fun a S => ?_
        refine h_y 8 S HS rfl (y_index S rfl rfl rfl Try.underlying37 Try.sizeOf25 (by omega) (by omega)) rfl rfl rfl (by kernel_rfl) (by kernel_rfl) (by kernel_rfl) (ls' := [true, true, true, true, true, true, true, true, true, false, false, false]) rfl (fun _ _ _ h => h) fun a S => ?_
        refine h_all (r := 9) (rs := []) (by kernel_rfl) ⟨h_op (ls' := [true, true, true, true, true, true, true, true, true, true, false, false]) rfl rfl ?_, trivial⟩
        refine r_setRowV (L' := blk b8 (.cells #[.slice (some ⟨b4, 0, none⟩) m m, .slice A6 m c7] 40) :: row 4 1 (.slice A6 m c7) m (bools (fill (fun _ => Tr.sl k) (List.replicate m true) i)) :: row 25 1 (.slice (some ⟨b4, 0, none⟩) m m) m (u64s ((fill (Tr.sv k) (List.replicate m 0) i).set s 0)) :: blk b3 (.cells #[.slice none 0 0, .slice none 0 0] 40) :: blk b2 (.cells #[.int .i64 ((m : Nat) : Int), .slice A es.length c] 35) :: blk b1 (.cells #[.int .i64 k, .int .u32 ((s : Nat) : Int)] 24) :: fr) 2 S H rfl rfl rfl rfl Try.sizeOf25 rfl rfl (by first | omega | (simp <;> omega)) (xs' := u64s ((fill (Tr.sv k) (List.replicate m 0) i).set s 0)) (u64s_put (by omega) rfl) rfl rfl rfl fun w H => ?_
        refine r_nil ?_
        refine x_then ?_
        have HS : Sat _ (blk b8 (.cells #[.slice (some ⟨b4, 0, none⟩) m m, .slice A6 m c7] 40) :: blk b3 (.cells #[.slice none 0 0, .slice none 0 0] 40) :: blk b2 (.cells #[.int .i64 ((m : Nat) : Int), .slice A es.length c] 35) :: blk b1 (.cells #[.int .i64 k, .int .u32 ((s : Nat) : Int)] 24) :: fr) := (H.pick [0, 3, 4, 5] 6 rfl)
        refine ⟨HS, ?_⟩
        refine h_all (r := 10) (rs := []) (by kernel_rfl) ⟨h_op (ls' := [true, true, true, true, true, true, true, true, true, true, true, false]) rfl rfl ?_, trivial⟩
        obtain ⟨b59, rfl⟩ := H.rowAt (i := 1) rfl (by first | omega | (simp <;> omega))
        refine r_y S H (y_index S rfl rfl rfl Try.underlying38 Try.sizeOf4 (by omega) (by omega)) rfl rfl rfl fun a S => ?_
        refine r_nil ?_
        refine x_then ?_
        have HS : Sat _ (blk b8 (.cells #[.slice (some ⟨b4, 0, none⟩) m m, .slice (some ⟨b59, 0, none⟩) m c7] 40) :: blk b3 (.cells #[.slice none 0 0, .slice none 0 0] 40) :: blk b2 (.cells #[.int .i64 ((m : Nat) : Int), .slice A es.length c] 35) :: blk b1 (.cells #[.int .i64 k, .int .u32 ((s : Nat) : Int)] 24) :: fr) := (H.pick [0, 3, 4, 5] 6 rfl)
        refine ⟨HS, ?_⟩
        refine h_all (r := 11) (rs := []) (by kernel_rfl) ⟨h_op (ls' := [true, true, true, true, true, true, true, true, true, true, true, true]) rfl rfl ?_, trivial⟩
        refine r_setRowV (L' := blk b8 (.cells #[.slice (some ⟨b4, 0, none⟩) m m, .slice (some ⟨b59, 0, none⟩) m c7] 40) :: row 4 1 (.slice (some ⟨b59, 0, none⟩) m c7) m (bools ((fill (fun _ => Tr.sl k) (List.replicate m true) i).set s true)) :: row 25 1 (.slice (some ⟨b4, 0, none⟩) m m) m (u64s ((fill (Tr.sv k) (List.replicate m 0) i).set s 0)) :: blk b3 (.cells #[.slice none 0 0, .slice none 0 0] 40) :: blk b2 (.cells #[.int .i64 ((m : Nat) : Int), .slice A es.length c] 35) :: blk b1 (.cells #[.int .i64 k, .int .u32 ((s : Nat) : Int)] 24) :: fr) 1 S H rfl rfl rfl rfl Try.sizeOf4 rfl rfl (by first | omega | (simp <;> omega)) (xs' := bools ((fill (fun _ => Tr.sl k) (List.replicate m true) i).set s true)) (bools_put (by omega) rfl) rfl rfl rfl fun w H => ?_
        refine r_nil ?_
        refine x_then ?_
        have HS : Sat _ (blk b8 (.cells #[.slice (some ⟨b4, 0, none⟩) m m, .slice (some ⟨b59, 0, none⟩) m c7] 40) :: blk b3 (.cells #[.slice none 0 0, .slice none 0 0] 40) :: blk b2 (.cells #[.int .i64 ((m : Nat) : Int), .slice A es.length c] 35) :: blk b1 (.cells #[.int .i64 k, .int .u32 ((s : Nat) : Int)] 24) :: fr) := (H.pick [0, 3, 4, 5] 6 rfl)
        refine ⟨HS, ?_⟩
        refine h_done (by kernel_rfl) ?_
        refine x_then ?_
        refine r_seq ?_
        refine r_region ?_
        refine r_y S H (y_loadAgg [_, _] 0 S rfl rfl (fun w => ⟨Try.isAgg40 w, Try.sizeOf40 w⟩) rfl rfl ⟨rfl, rfl, trivial⟩) rfl rfl rfl fun a S => ?_
        refine r_store (vs := [.slice (some ⟨b4, 0, none⟩) m m, .slice (some ⟨b59, 0, none⟩) m c7]) 3 S H rfl rfl rfl rfl Try.sizeOf40 rfl rfl (by simp [Value.oneCell']) rfl rfl rfl rfl rfl fun w H => ?_
        refine r_y S H (y_assign S rfl rfl) rfl rfl rfl fun a S => ?_
        refine r_nil ?_
        refine x_then ?_
        refine wp_ret ?_
        refine r_ret2 S H Try.results29 (ro_agg [_, _] (i := 3) S rfl (fun w => ⟨Try.isAgg40 w, Try.sizeOf40 w⟩) rfl rfl ⟨rfl, rfl, trivial⟩) (ro_tmp S rfl) ?_
        have him : i = m := by omega
        subst him
        have hk : k = 1 ∨ k = 3 := by simpa using h62
        rw [hmay, Tr.startR_far hmay hk]
        have l1 : (fill (Tr.sv k) (List.replicate i 0) i).length = i := by rw [fill_len (by simp)]; simp
        have l2 : (fill (fun _ => Tr.sl k) (List.replicate i true) i).length = i := by rw [fill_len (by simp)]; simp
        simp only [List.length_set, l1, l2]
        exact ⟨_, _, _, _, rfl, (H.pick [2, 1] 6 rfl)⟩
      · skip
        refine wp_skip ?_
        refine x_then ?_
        refine r_seq ?_
        refine r_region ?_
        refine r_y S H (y_loadAgg [_, _] 0 S rfl rfl (fun w => ⟨Try.isAgg40 w, Try.sizeOf40 w⟩) rfl rfl ⟨rfl, rfl, trivial⟩) rfl rfl rfl fun a S => ?_
        refine r_store (vs := [.slice (some ⟨b4, 0, none⟩) m m, .slice A6 m c7]) 3 S H rfl rfl rfl rfl Try.sizeOf40 rfl rfl (by simp [Value.oneCell']) rfl rfl rfl rfl rfl fun w H => ?_
        refine r_y S H (y_assign S rfl rfl) rfl rfl rfl fun a S => ?_
        refine r_nil ?_
        refine x_then ?_
        refine wp_ret ?_
        refine r_ret2 S H Try.results29 (ro_agg [_, _] (i := 3) S rfl (fun w => ⟨Try.isAgg40 w, Try.sizeOf40 w⟩) rfl rfl ⟨rfl, rfl, trivial⟩) (ro_tmp S rfl) ?_
        have him : i = m := by omega
        subst him
        have hk : ¬ (k = 1 ∨ k = 3) := by simpa using h62
        rw [hmay, Tr.startR_near hmay hk]
        have l1 : (fill (Tr.sv k) (List.replicate i 0) i).length = i := by rw [fill_len (by simp)]; simp
        have l2 : (fill (fun _ => Tr.sl k) (List.replicate i true) i).length = i := by rw [fill_len (by simp)]; simp
        simp only [List.length_set, l1, l2]
        exact ⟨_, _, _, _, rfl, (H.pick [2, 1] 6 rfl)⟩

end Go.Proofs.Ytfmpgdhmfjllnaa
