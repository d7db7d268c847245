/- Walks of functions of the program, over slots and resources. No condition. -/
import Derived.Test.YtfmpgdhmfjllnaaW13g
import Derived.Test.YtfmpgdhmfjllnaaTy
namespace Go.Proofs.Ytfmpgdhmfjllnaa
open Go.RowKit Go.Cg
set_option linter.unusedVariables false
set_option linter.unusedSimpArgs false
open Go.Cg.Tr (E top right graph quiet msg comb nxt summed)
theorem err_one {b : Bool} (h : ¬ Tr.err b = 0) : Tr.err b = 1 := by cases b with
  | false => rfl
  | true => exact absurd rfl h
theorem ok_is (k : Int) (s : Nat) (n : Int) (gl : List E) (vals : List Nat) (live : List Bool) : Tr.stepOk k s n gl (vals, live) = (Tr.may k s n gl && decide ((vals.length : Int) = n) && decide ((live.length : Int) = n)) := rfl
set_option maxRecDepth 4000 in
theorem law_errors (w : World) (fr : List Res) (k : Int) (s : Nat) (hs : s < 4294967296) (n : Int) (A : Option Addr) (c : Nat) (es : List E) (ok : SlOk fr 3 A es.length c (ecells es)) (hes : ∀ e ∈ es, e.f < 4294967296 ∧ e.t < 4294967296) (hew : ∀ e ∈ es, e.w < 4294967296) (j : Int) (hj : -9223372036854775808 ≤ j ∧ j ≤ 9223372036854775807) (Av : Option Addr) (cv : Nat) (vals : List Nat) (okv : SlOk fr 1 Av vals.length cv (u64s vals)) (Al : Option Addr) (cl : Nat) (live : List Bool) (okl : SlOk fr 1 Al live.length cl (bools live)) (hvt : ∀ x ∈ vals, x ≤ 18446744073709551615) (H : Sat w (fr)) :
    Rt Try.prog 12 #[.agg #[.int .i64 k, .int .u32 ((s : Nat) : Int)], .agg #[.int .i64 n, .slice A es.length c], .int .i64 j, .agg #[.slice Av vals.length cv, .slice Al live.length cl]] w fun v w' => v = .bool true ∧ Sat w' fr := by
  have hcap := ok.le
  have hmax : c ≤ 9223372036854775807 := ok.cap
  have hcv := okv.le
  have hcv2 : cv ≤ 9223372036854775807 := okv.cap
  have hcl := okl.le
  have hcl2 : cl ≤ 9223372036854775807 := okl.cap
  obtain ⟨gl, hgl0⟩ : ∃ gl, gl = es.take (min es.length 40) := ⟨_, rfl⟩
  have hll : gl.length = min es.length 40 := by rw [hgl0]; simp
  have okc : SlOk fr 3 (shift A 0 (decide (c = 0))) gl.length c (ecells gl) := by rw [hll, hgl0, ← ecells_take]; exact ok.init _ (by omega)
  have hgs : ∀ e ∈ gl, e.f < 4294967296 ∧ e.t < 4294967296 := fun e he => hes e (by rw [hgl0] at he; exact List.mem_of_mem_take he)
  have hgw : ∀ e ∈ gl, e.w < 4294967296 := fun e he => hew e (by rw [hgl0] at he; exact List.mem_of_mem_take he)
  refine rt_enter Try.func12 rfl (n := 129) Try.ntmps12 rfl fun a S => ?_
  refine r_seq ?_
  refine r_region ?_
  refine r_box (c := #[.int .i64 k, .int .u32 ((s : Nat) : Int)]) S H rfl rfl rfl rfl rfl rfl fun a w b1 S H => ?_
  refine r_box (c := #[.int .i64 n, .slice A es.length c]) S H rfl rfl rfl rfl rfl rfl fun a w b2 S H => ?_
  refine r_box (c := #[.slice Av vals.length cv, .slice Al live.length cl]) S H rfl rfl rfl rfl rfl rfl fun a w b3 S H => ?_
  refine r_y S H (y_assign S rfl rfl) rfl rfl rfl fun a S => ?_
  refine r_nil ?_
  refine x_then ?_
  refine r_seq ?_
  refine r_region ?_
  refine r_call (args := #[]) S rfl rfl Try.call14 (shown_ct (H := H) _ _) rfl rfl rfl fun v a w hR S => ?_
  obtain ⟨rfl, H⟩ := hR
  refine r_y S H (y_assign S rfl rfl) rfl rfl rfl fun a S => ?_
  refine r_nil ?_
  refine x_then ?_
  refine r_seq ?_
  refine wp_via (J := fun a w => Slots a 129 [(0, .agg #[.int .i64 k, .int .u32 ((s : Nat) : Int)]), (1, .agg #[.int .i64 n, .slice A es.length c]), (2, .int .i64 j), (3, .agg #[.slice Av vals.length cv, .slice Al live.length cl]), (4, .pointer (some ⟨b1, 0, none⟩)), (5, .pointer (some ⟨b2, 0, none⟩)), (7, .pointer (some ⟨b3, 0, none⟩)), (8, .bool false), (9, .bool true), (19, .bool true)] ∧ Sat w (blk b3 (.cells #[.slice Av vals.length cv, .slice Al live.length cl] 40) :: blk b2 (.cells #[.int .i64 n, .slice (shift A 0 (decide (c = 0))) gl.length c] 35) :: blk b1 (.cells #[.int .i64 k, .int .u32 ((s : Nat) : Int)] 24) :: fr)) ?_ (fun a w hm => ?_)
  · skip
    refine h_start (blk b3 (.cells #[.slice Av vals.length cv, .slice Al live.length cl] 40) :: blk b1 (.cells #[.int .i64 k, .int .u32 ((s : Nat) : Int)] 24) :: fr) (ls := [false, false, false, false, false, false, false, false, false, false, false]) H rfl rfl fun w H => ?_
    have HS : Sat _ (blk b3 (.cells #[.slice Av vals.length cv, .slice Al live.length cl] 40) :: blk b1 (.cells #[.int .i64 k, .int .u32 ((s : Nat) : Int)] 24) :: fr) := (((H.fetch (i := 2) rfl).fetch (i := 1) rfl).sub (.cons_cons _ (.cons_cons _ (.cons _ (List.Sublist.refl _)))))
    refine h_y 0 S HS rfl (y_fieldAddr S rfl rfl fa35_0) rfl rfl rfl (by kernel_rfl) (by kernel_rfl) (by kernel_rfl) (ls' := [true, false, false, false, false, false, false, false, false, false, false]) rfl (fun _ _ _ h => h) fun a S => ?_
    refine h_y 2 S HS rfl (y_fieldAddr S rfl rfl fa35_1) rfl rfl rfl (by kernel_rfl) (by kernel_rfl) (by kernel_rfl) (ls' := [true, false, true, false, false, false, false, false, false, false, false]) rfl (fun _ _ _ h => h) fun a S => ?_
    refine h_y 4 S HS rfl (y_fieldAddr S rfl rfl fa35_1) rfl rfl rfl (by kernel_rfl) (by kernel_rfl) (by kernel_rfl) (ls' := [true, false, true, false, true, false, false, false, false, false, false]) rfl (fun _ _ _ h => h) fun a S => ?_
    refine h_all (r := 1) (rs := [3, 5]) (by kernel_rfl) ⟨h_op (ls' := [true, true, true, false, true, false, false, false, false, false, false]) rfl rfl ?_, h_op (ls' := [true, false, true, true, true, false, false, false, false, false, false]) rfl rfl ?_, h_op (ls' := [true, false, true, false, true, true, false, false, false, false, false]) rfl rfl ?_, trivial⟩
    · skip
      refine r_y S H (y_load 1 S rfl rfl Try.isAgg3 rfl rfl) rfl rfl rfl fun a S => ?_
      refine r_nil ?_
      refine x_then ?_
      have HS : Sat _ (blk b3 (.cells #[.slice Av vals.length cv, .slice Al live.length cl] 40) :: blk b1 (.cells #[.int .i64 k, .int .u32 ((s : Nat) : Int)] 24) :: fr) := (((H.fetch (i := 2) rfl).fetch (i := 1) rfl).sub (.cons_cons _ (.cons_cons _ (.cons _ (List.Sublist.refl _)))))
      refine ⟨HS, ?_⟩
      refine h_all (r := 3) (rs := [5]) (by kernel_rfl) ⟨h_op (ls' := [true, true, true, true, true, false, false, false, false, false, false]) rfl rfl ?_, h_op (ls' := [true, true, true, false, true, true, false, false, false, false, false]) rfl rfl ?_, trivial⟩
      · skip
        refine r_y S H (y_load 1 S rfl rfl Try.isAgg33 rfl rfl) rfl rfl rfl fun a S => ?_
        refine r_nil ?_
        refine x_then ?_
        have HS : Sat _ (blk b3 (.cells #[.slice Av vals.length cv, .slice Al live.length cl] 40) :: blk b1 (.cells #[.int .i64 k, .int .u32 ((s : Nat) : Int)] 24) :: fr) := (((H.fetch (i := 2) rfl).fetch (i := 1) rfl).sub (.cons_cons _ (.cons_cons _ (.cons _ (List.Sublist.refl _)))))
        refine ⟨HS, ?_⟩
        refine h_all (r := 5) (rs := []) (by kernel_rfl) ⟨h_op (ls' := [true, true, true, true, true, true, false, false, false, false, false]) rfl rfl ?_, trivial⟩
        refine r_y S H (y_load 1 S rfl rfl Try.isAgg33 rfl rfl) rfl rfl rfl fun a S => ?_
        refine r_nil ?_
        refine x_then ?_
        have HS : Sat _ (blk b3 (.cells #[.slice Av vals.length cv, .slice Al live.length cl] 40) :: blk b1 (.cells #[.int .i64 k, .int .u32 ((s : Nat) : Int)] 24) :: fr) := (((H.fetch (i := 2) rfl).fetch (i := 1) rfl).sub (.cons_cons _ (.cons_cons _ (.cons _ (List.Sublist.refl _)))))
        refine ⟨HS, ?_⟩
        refine h_y 6 S HS rfl (y_len S rfl rfl Try.underlying33) rfl rfl rfl (by kernel_rfl) (by kernel_rfl) (by kernel_rfl) (ls' := [true, true, true, true, true, true, true, false, false, false, false]) rfl (fun _ _ _ h => h) fun a S => ?_
        refine h_y 7 S HS rfl (y_min S rfl rfl rfl) rfl rfl rfl (by kernel_rfl) (by kernel_rfl) (by kernel_rfl) (ls' := [true, true, true, true, true, true, true, true, false, false, false]) rfl (fun _ _ _ h => h) fun a S => ?_
        refine h_y 8 S HS rfl (y_sliceH (k := (min es.length 40)) S rfl rfl rfl Try.underlying33 Try.sizeOf47 (by first | omega | (simp <;> omega)) (by first | omega | (simp <;> omega))) rfl rfl rfl (by kernel_rfl) (by kernel_rfl) (by kernel_rfl) (ls' := [true, true, true, true, true, true, true, true, true, false, false]) rfl (fun _ _ _ h => h) fun a S => ?_
        have S := S.retell (v' := .slice (shift A 0 (decide (c = 0))) gl.length c) 28 rfl (by rw [hll])
        refine h_y 9 S HS rfl (y_build (vs := #[(0, .int .i64 n), (1, .slice (shift A 0 (decide (c = 0))) gl.length c)]) (v := .agg #[.int .i64 n, .slice (shift A 0 (decide (c = 0))) gl.length c]) S rfl rfl (fun w => by kernel_rfl)) rfl rfl rfl (by kernel_rfl) (by kernel_rfl) (by kernel_rfl) (ls' := [true, true, true, true, true, true, true, true, true, true, false]) rfl (fun _ _ _ h => h) fun a S => ?_
        refine h_all (r := 10) (rs := []) (by kernel_rfl) ⟨h_op (ls' := [true, true, true, true, true, true, true, true, true, true, true]) rfl rfl ?_, trivial⟩
        refine r_store (vs := [.int .i64 n, .slice (shift A 0 (decide (c = 0))) gl.length c]) 1 S H rfl rfl rfl rfl Try.sizeOf35 rfl rfl (by simp [Value.oneCell']) rfl rfl rfl rfl rfl fun w H => ?_
        refine r_nil ?_
        refine x_then ?_
        have HS : Sat _ (blk b3 (.cells #[.slice Av vals.length cv, .slice Al live.length cl] 40) :: blk b1 (.cells #[.int .i64 k, .int .u32 ((s : Nat) : Int)] 24) :: fr) := (((H.fetch (i := 2) rfl).fetch (i := 1) rfl).sub (.cons_cons _ (.cons_cons _ (.cons _ (List.Sublist.refl _)))))
        refine ⟨HS, ?_⟩
        refine h_done (by kernel_rfl) ?_
        refine x_then ?_
        exact ⟨S.sub ⟨rfl, rfl, rfl, rfl, rfl, rfl, rfl, rfl, rfl, rfl, trivial⟩, (((H.fetch (i := 2) rfl).fetch (i := 2) rfl).fetch (i := 2) rfl)⟩
      · skip
        refine r_y S H (y_load 1 S rfl rfl Try.isAgg33 rfl rfl) rfl rfl rfl fun a S => ?_
        refine r_nil ?_
        refine x_then ?_
        have HS : Sat _ (blk b3 (.cells #[.slice Av vals.length cv, .slice Al live.length cl] 40) :: blk b1 (.cells #[.int .i64 k, .int .u32 ((s : Nat) : Int)] 24) :: fr) := (((H.fetch (i := 2) rfl).fetch (i := 1) rfl).sub (.cons_cons _ (.cons_cons _ (.cons _ (List.Sublist.refl _)))))
        refine ⟨HS, ?_⟩
        refine h_y 6 S HS rfl (y_len S rfl rfl Try.underlying33) rfl rfl rfl (by kernel_rfl) (by kernel_rfl) (by kernel_rfl) (ls' := [true, true, true, false, true, true, true, false, false, false, false]) rfl (fun _ _ _ h => h) fun a S => ?_
        refine h_y 7 S HS rfl (y_min S rfl rfl rfl) rfl rfl rfl (by kernel_rfl) (by kernel_rfl) (by kernel_rfl) (ls' := [true, true, true, false, true, true, true, true, false, false, false]) rfl (fun _ _ _ h => h) fun a S => ?_
        refine h_all (r := 3) (rs := []) (by kernel_rfl) ⟨h_op (ls' := [true, true, true, true, true, true, true, true, false, false, false]) rfl rfl ?_, trivial⟩
        refine r_y S H (y_load 1 S rfl rfl Try.isAgg33 rfl rfl) rfl rfl rfl fun a S => ?_
        refine r_nil ?_
        refine x_then ?_
        have HS : Sat _ (blk b3 (.cells #[.slice Av vals.length cv, .slice Al live.length cl] 40) :: blk b1 (.cells #[.int .i64 k, .int .u32 ((s : Nat) : Int)] 24) :: fr) := (((H.fetch (i := 2) rfl).fetch (i := 1) rfl).sub (.cons_cons _ (.cons_cons _ (.cons _ (List.Sublist.refl _)))))
        refine ⟨HS, ?_⟩
        refine h_y 8 S HS rfl (y_sliceH (k := (min es.length 40)) S rfl rfl rfl Try.underlying33 Try.sizeOf47 (by first | omega | (simp <;> omega)) (by first | omega | (simp <;> omega))) rfl rfl rfl (by kernel_rfl) (by kernel_rfl) (by kernel_rfl) (ls' := [true, true, true, true, true, true, true, true, true, false, false]) rfl (fun _ _ _ h => h) fun a S => ?_
        have S := S.retell (v' := .slice (shift A 0 (decide (c = 0))) gl.length c) 28 rfl (by rw [hll])
        refine h_y 9 S HS rfl (y_build (vs := #[(0, .int .i64 n), (1, .slice (shift A 0 (decide (c = 0))) gl.length c)]) (v := .agg #[.int .i64 n, .slice (shift A 0 (decide (c = 0))) gl.length c]) S rfl rfl (fun w => by kernel_rfl)) rfl rfl rfl (by kernel_rfl) (by kernel_rfl) (by kernel_rfl) (ls' := [true, true, true, true, true, true, true, true, true, true, false]) rfl (fun _ _ _ h => h) fun a S => ?_
        refine h_all (r := 10) (rs := []) (by kernel_rfl) ⟨h_op (ls' := [true, true, true, true, true, true, true, true, true, true, true]) rfl rfl ?_, trivial⟩
        refine r_store (vs := [.int .i64 n, .slice (shift A 0 (decide (c = 0))) gl.length c]) 1 S H rfl rfl rfl rfl Try.sizeOf35 rfl rfl (by simp [Value.oneCell']) rfl rfl rfl rfl rfl fun w H => ?_
        refine r_nil ?_
        refine x_then ?_
        have HS : Sat _ (blk b3 (.cells #[.slice Av vals.length cv, .slice Al live.length cl] 40) :: blk b1 (.cells #[.int .i64 k, .int .u32 ((s : Nat) : Int)] 24) :: fr) := (((H.fetch (i := 2) rfl).fetch (i := 1) rfl).sub (.cons_cons _ (.cons_cons _ (.cons _ (List.Sublist.refl _)))))
        refine ⟨HS, ?_⟩
        refine h_done (by kernel_rfl) ?_
        refine x_then ?_
        exact ⟨S.sub ⟨rfl, rfl, rfl, rfl, rfl, rfl, rfl, rfl, rfl, rfl, trivial⟩, (((H.fetch (i := 2) rfl).fetch (i := 2) rfl).fetch (i := 2) rfl)⟩
    · skip
      refine r_y S H (y_load 1 S rfl rfl Try.isAgg33 rfl rfl) rfl rfl rfl fun a S => ?_
      refine r_nil ?_
      refine x_then ?_
      have HS : Sat _ (blk b3 (.cells #[.slice Av vals.length cv, .slice Al live.length cl] 40) :: blk b1 (.cells #[.int .i64 k, .int .u32 ((s : Nat) : Int)] 24) :: fr) := (((H.fetch (i := 2) rfl).fetch (i := 1) rfl).sub (.cons_cons _ (.cons_cons _ (.cons _ (List.Sublist.refl _)))))
      refine ⟨HS, ?_⟩
      refine h_all (r := 1) (rs := [5]) (by kernel_rfl) ⟨h_op (ls' := [true, true, true, true, true, false, false, false, false, false, false]) rfl rfl ?_, h_op (ls' := [true, false, true, true, true, true, false, false, false, false, false]) rfl rfl ?_, trivial⟩
      · skip
        refine r_y S H (y_load 1 S rfl rfl Try.isAgg3 rfl rfl) rfl rfl rfl fun a S => ?_
        refine r_nil ?_
        refine x_then ?_
        have HS : Sat _ (blk b3 (.cells #[.slice Av vals.length cv, .slice Al live.length cl] 40) :: blk b1 (.cells #[.int .i64 k, .int .u32 ((s : Nat) : Int)] 24) :: fr) := (((H.fetch (i := 2) rfl).fetch (i := 1) rfl).sub (.cons_cons _ (.cons_cons _ (.cons _ (List.Sublist.refl _)))))
        refine ⟨HS, ?_⟩
        refine h_all (r := 5) (rs := []) (by kernel_rfl) ⟨h_op (ls' := [true, true, true, true, true, true, false, false, false, false, false]) rfl rfl ?_, trivial⟩
        refine r_y S H (y_load 1 S rfl rfl Try.isAgg33 rfl rfl) rfl rfl rfl fun a S => ?_
        refine r_nil ?_
        refine x_then ?_
        have HS : Sat _ (blk b3 (.cells #[.slice Av vals.length cv, .slice Al live.length cl] 40) :: blk b1 (.cells #[.int .i64 k, .int .u32 ((s : Nat) : Int)] 24) :: fr) := (((H.fetch (i := 2) rfl).fetch (i := 1) rfl).sub (.cons_cons _ (.cons_cons _ (.cons _ (List.Sublist.refl _)))))
        refine ⟨HS, ?_⟩
        refine h_y 6 S HS rfl (y_len S rfl rfl Try.underlying33) rfl rfl rfl (by kernel_rfl) (by kernel_rfl) (by kernel_rfl) (ls' := [true, true, true, true, true, true, true, false, false, false, false]) rfl (fun _ _ _ h => h) fun a S => ?_
        refine h_y 7 S HS rfl (y_min S rfl rfl rfl) rfl rfl rfl (by kernel_rfl) (by kernel_rfl) (by kernel_rfl) (ls' := [true, true, true, true, true, true, true, true, false, false, false]) rfl (fun _ _ _ h => h) fun a S => ?_
        refine h_y 8 S HS rfl (y_sliceH (k := (min es.length 40)) S rfl rfl rfl Try.underlying33 Try.sizeOf47 (by first | omega | (simp <;> omega)) (by first | omega | (simp <;> omega))) rfl rfl rfl (by kernel_rfl) (by kernel_rfl) (by kernel_rfl) (ls' := [true, true, true, true, true, true, true, true, true, false, false]) rfl (fun _ _ _ h => h) fun a S => ?_
        have S := S.retell (v' := .slice (shift A 0 (decide (c = 0))) gl.length c) 28 rfl (by rw [hll])
        refine h_y 9 S HS rfl (y_build (vs := #[(0, .int .i64 n), (1, .slice (shift A 0 (decide (c = 0))) gl.length c)]) (v := .agg #[.int .i64 n, .slice (shift A 0 (decide (c = 0))) gl.length c]) S rfl rfl (fun w => by kernel_rfl)) rfl rfl rfl (by kernel_rfl) (by kernel_rfl) (by kernel_rfl) (ls' := [true, true, true, true, true, true, true, true, true, true, false]) rfl (fun _ _ _ h => h) fun a S => ?_
        refine h_all (r := 10) (rs := []) (by kernel_rfl) ⟨h_op (ls' := [true, true, true, true, true, true, true, true, true, true, true]) rfl rfl ?_, trivial⟩
        refine r_store (vs := [.int .i64 n, .slice (shift A 0 (decide (c = 0))) gl.length c]) 1 S H rfl rfl rfl rfl Try.sizeOf35 rfl rfl (by simp [Value.oneCell']) rfl rfl rfl rfl rfl fun w H => ?_
        refine r_nil ?_
        refine x_then ?_
        have HS : Sat _ (blk b3 (.cells #[.slice Av vals.length cv, .slice Al live.length cl] 40) :: blk b1 (.cells #[.int .i64 k, .int .u32 ((s : Nat) : Int)] 24) :: fr) := (((H.fetch (i := 2) rfl).fetch (i := 1) rfl).sub (.cons_cons _ (.cons_cons _ (.cons _ (List.Sublist.refl _)))))
        refine ⟨HS, ?_⟩
        refine h_done (by kernel_rfl) ?_
        refine x_then ?_
        exact ⟨S.sub ⟨rfl, rfl, rfl, rfl, rfl, rfl, rfl, rfl, rfl, rfl, trivial⟩, (((H.fetch (i := 2) rfl).fetch (i := 2) rfl).fetch (i := 2) rfl)⟩
      · skip
        refine r_y S H (y_load 1 S rfl rfl Try.isAgg33 rfl rfl) rfl rfl rfl fun a S => ?_
        refine r_nil ?_
        refine x_then ?_
        have HS : Sat _ (blk b3 (.cells #[.slice Av vals.length cv, .slice Al live.length cl] 40) :: blk b1 (.cells #[.int .i64 k, .int .u32 ((s : Nat) : Int)] 24) :: fr) := (((H.fetch (i := 2) rfl).fetch (i := 1) rfl).sub (.cons_cons _ (.cons_cons _ (.cons _ (List.Sublist.refl _)))))
        refine ⟨HS, ?_⟩
        refine h_y 6 S HS rfl (y_len S rfl rfl Try.underlying33) rfl rfl rfl (by kernel_rfl) (by kernel_rfl) (by kernel_rfl) (ls' := [true, false, true, true, true, true, true, false, false, false, false]) rfl (fun _ _ _ h => h) fun a S => ?_
        refine h_y 7 S HS rfl (y_min S rfl rfl rfl) rfl rfl rfl (by kernel_rfl) (by kernel_rfl) (by kernel_rfl) (ls' := [true, false, true, true, true, true, true, true, false, false, false]) rfl (fun _ _ _ h => h) fun a S => ?_
        refine h_y 8 S HS rfl (y_sliceH (k := (min es.length 40)) S rfl rfl rfl Try.underlying33 Try.sizeOf47 (by first | omega | (simp <;> omega)) (by first | omega | (simp <;> omega))) rfl rfl rfl (by kernel_rfl) (by kernel_rfl) (by kernel_rfl) (ls' := [true, false, true, true, true, true, true, true, true, false, false]) rfl (fun _ _ _ h => h) fun a S => ?_
        have S := S.retell (v' := .slice (shift A 0 (decide (c = 0))) gl.length c) 28 rfl (by rw [hll])
        refine h_all (r := 1) (rs := []) (by kernel_rfl) ⟨h_op (ls' := [true, true, true, true, true, true, true, true, true, false, false]) rfl rfl ?_, trivial⟩
        refine r_y S H (y_load 1 S rfl rfl Try.isAgg3 rfl rfl) rfl rfl rfl fun a S => ?_
        refine r_nil ?_
        refine x_then ?_
        have HS : Sat _ (blk b3 (.cells #[.slice Av vals.length cv, .slice Al live.length cl] 40) :: blk b1 (.cells #[.int .i64 k, .int .u32 ((s : Nat) : Int)] 24) :: fr) := (((H.fetch (i := 2) rfl).fetch (i := 1) rfl).sub (.cons_cons _ (.cons_cons _ (.cons _ (List.Sublist.refl _)))))
        refine ⟨HS, ?_⟩
        refine h_y 9 S HS rfl (y_build (vs := #[(0, .int .i64 n), (1, .slice (shift A 0 (decide (c = 0))) gl.length c)]) (v := .agg #[.int .i64 n, .slice (shift A 0 (decide (c = 0))) gl.length c]) S rfl rfl (fun w => by kernel_rfl)) rfl rfl rfl (by kernel_rfl) (by kernel_rfl) (by kernel_rfl) (ls' := [true, true, true, true, true, true, true, true, true, true, false]) rfl (fun _ _ _ h => h) fun a S => ?_
        refine h_all (r := 10) (rs := []) (by kernel_rfl) ⟨h_op (ls' := [true, true, true, true, true, true, true, true, true, true, true]) rfl rfl ?_, trivial⟩
        refine r_store (vs := [.int .i64 n, .slice (shift A 0 (decide (c = 0))) gl.length c]) 1 S H rfl rfl rfl rfl Try.sizeOf35 rfl rfl (by simp [Value.oneCell']) rfl rfl rfl rfl rfl fun w H => ?_
        refine r_nil ?_
        refine x_then ?_
        have HS : Sat _ (blk b3 (.cells #[.slice Av vals.length cv, .slice Al live.length cl] 40) :: blk b1 (.cells #[.int .i64 k, .int .u32 ((s : Nat) : Int)] 24) :: fr) := (((H.fetch (i := 2) rfl).fetch (i := 1) rfl).sub (.cons_cons _ (.cons_cons _ (.cons _ (List.Sublist.refl _)))))
        refine ⟨HS, ?_⟩
        refine h_done (by kernel_rfl) ?_
        refine x_then ?_
        exact ⟨S.sub ⟨rfl, rfl, rfl, rfl, rfl, rfl, rfl, rfl, rfl, rfl, trivial⟩, (((H.fetch (i := 2) rfl).fetch (i := 2) rfl).fetch (i := 2) rfl)⟩
    · skip
      refine r_y S H (y_load 1 S rfl rfl Try.isAgg33 rfl rfl) rfl rfl rfl fun a S => ?_
      refine r_nil ?_
      refine x_then ?_
      have HS : Sat _ (blk b3 (.cells #[.slice Av vals.length cv, .slice Al live.length cl] 40) :: blk b1 (.cells #[.int .i64 k, .int .u32 ((s : Nat) : Int)] 24) :: fr) := (((H.fetch (i := 2) rfl).fetch (i := 1) rfl).sub (.cons_cons _ (.cons_cons _ (.cons _ (List.Sublist.refl _)))))
      refine ⟨HS, ?_⟩
      refine h_y 6 S HS rfl (y_len S rfl rfl Try.underlying33) rfl rfl rfl (by kernel_rfl) (by kernel_rfl) (by kernel_rfl) (ls' := [true, false, true, false, true, true, true, false, false, false, false]) rfl (fun _ _ _ h => h) fun a S => ?_
      refine h_y 7 S HS rfl (y_min S rfl rfl rfl) rfl rfl rfl (by kernel_rfl) (by kernel_rfl) (by kernel_rfl) (ls' := [true, false, true, false, true, true, true, true, false, false, false]) rfl (fun _ _ _ h => h) fun a S => ?_
      refine h_all (r := 1) (rs := [3]) (by kernel_rfl) ⟨h_op (ls' := [true, true, true, false, true, true, true, true, false, false, false]) rfl rfl ?_, h_op (ls' := [true, false, true, true, true, true, true, true, false, false, false]) rfl rfl ?_, trivial⟩
      · skip
        refine r_y S H (y_load 1 S rfl rfl Try.isAgg3 rfl rfl) rfl rfl rfl fun a S => ?_
        refine r_nil ?_
        refine x_then ?_
        have HS : Sat _ (blk b3 (.cells #[.slice Av vals.length cv, .slice Al live.length cl] 40) :: blk b1 (.cells #[.int .i64 k, .int .u32 ((s : Nat) : Int)] 24) :: fr) := (((H.fetch (i := 2) rfl).fetch (i := 1) rfl).sub (.cons_cons _ (.cons_cons _ (.cons _ (List.Sublist.refl _)))))
        refine ⟨HS, ?_⟩
        refine h_all (r := 3) (rs := []) (by kernel_rfl) ⟨h_op (ls' := [true, true, true, true, true, true, true, true, false, false, false]) rfl rfl ?_, trivial⟩
        refine r_y S H (y_load 1 S rfl rfl Try.isAgg33 rfl rfl) rfl rfl rfl fun a S => ?_
        refine r_nil ?_
        refine x_then ?_
        have HS : Sat _ (blk b3 (.cells #[.slice Av vals.length cv, .slice Al live.length cl] 40) :: blk b1 (.cells #[.int .i64 k, .int .u32 ((s : Nat) : Int)] 24) :: fr) := (((H.fetch (i := 2) rfl).fetch (i := 1) rfl).sub (.cons_cons _ (.cons_cons _ (.cons _ (List.Sublist.refl _)))))
        refine ⟨HS, ?_⟩
        refine h_y 8 S HS rfl (y_sliceH (k := (min es.length 40)) S rfl rfl rfl Try.underlying33 Try.sizeOf47 (by first | omega | (simp <;> omega)) (by first | omega | (simp <;> omega))) rfl rfl rfl (by kernel_rfl) (by kernel_rfl) (by kernel_rfl) (ls' := [true, true, true, true, true, true, true, true, true, false, false]) rfl (fun _ _ _ h => h) fun a S => ?_
        have S := S.retell (v' := .slice (shift A 0 (decide (c = 0))) gl.length c) 28 rfl (by rw [hll])
        refine h_y 9 S HS rfl (y_build (vs := #[(0, .int .i64 n), (1, .slice (shift A 0 (decide (c = 0))) gl.length c)]) (v := .agg #[.int .i64 n, .slice (shift A 0 (decide (c = 0))) gl.length c]) S rfl rfl (fun w => by kernel_rfl)) rfl rfl rfl (by kernel_rfl) (by kernel_rfl) (by kernel_rfl) (ls' := [true, true, true, true, true, true, true, true, true, true, false]) rfl (fun _ _ _ h => h) fun a S => ?_
        refine h_all (r := 10) (rs := []) (by kernel_rfl) ⟨h_op (ls' := [true, true, true, true, true, true, true, true, true, true, true]) rfl rfl ?_, trivial⟩
        refine r_store (vs := [.int .i64 n, .slice (shift A 0 (decide (c = 0))) gl.length c]) 1 S H rfl rfl rfl rfl Try.sizeOf35 rfl rfl (by simp [Value.oneCell']) rfl rfl rfl rfl rfl fun w H => ?_
        refine r_nil ?_
        refine x_then ?_
        have HS : Sat _ (blk b3 (.cells #[.slice Av vals.length cv, .slice Al live.length cl] 40) :: blk b1 (.cells #[.int .i64 k, .int .u32 ((s : Nat) : Int)] 24) :: fr) := (((H.fetch (i := 2) rfl).fetch (i := 1) rfl).sub (.cons_cons _ (.cons_cons _ (.cons _ (List.Sublist.refl _)))))
        refine ⟨HS, ?_⟩
        refine h_done (by kernel_rfl) ?_
        refine x_then ?_
        exact ⟨S.sub ⟨rfl, rfl, rfl, rfl, rfl, rfl, rfl, rfl, rfl, rfl, trivial⟩, (((H.fetch (i := 2) rfl).fetch (i := 2) rfl).fetch (i := 2) rfl)⟩
      · skip
        refine r_y S H (y_load 1 S rfl rfl Try.isAgg33 rfl rfl) rfl rfl rfl fun a S => ?_
        refine r_nil ?_
        refine x_then ?_
        have HS : Sat _ (blk b3 (.cells #[.slice Av vals.length cv, .slice Al live.length cl] 40) :: blk b1 (.cells #[.int .i64 k, .int .u32 ((s : Nat) : Int)] 24) :: fr) := (((H.fetch (i := 2) rfl).fetch (i := 1) rfl).sub (.cons_cons _ (.cons_cons _ (.cons _ (List.Sublist.refl _)))))
        refine ⟨HS, ?_⟩
        refine h_y 8 S HS rfl (y_sliceH (k := (min es.length 40)) S rfl rfl rfl Try.underlying33 Try.sizeOf47 (by first | omega | (simp <;> omega)) (by first | omega | (simp <;> omega))) rfl rfl rfl (by kernel_rfl) (by kernel_rfl) (by kernel_rfl) (ls' := [true, false, true, true, true, true, true, true, true, false, false]) rfl (fun _ _ _ h => h) fun a S => ?_
        have S := S.retell (v' := .slice (shift A 0 (decide (c = 0))) gl.length c) 28 rfl (by rw [hll])
        refine h_all (r := 1) (rs := []) (by kernel_rfl) ⟨h_op (ls' := [true, true, true, true, true, true, true, true, true, false, false]) rfl rfl ?_, trivial⟩
        refine r_y S H (y_load 1 S rfl rfl Try.isAgg3 rfl rfl) rfl rfl rfl fun a S => ?_
        refine r_nil ?_
        refine x_then ?_
        have HS : Sat _ (blk b3 (.cells #[.slice Av vals.length cv, .slice Al live.length cl] 40) :: blk b1 (.cells #[.int .i64 k, .int .u32 ((s : Nat) : Int)] 24) :: fr) := (((H.fetch (i := 2) rfl).fetch (i := 1) rfl).sub (.cons_cons _ (.cons_cons _ (.cons _ (List.Sublist.refl _)))))
        refine ⟨HS, ?_⟩
        refine h_y 9 S HS rfl (y_build (vs := #[(0, .int .i64 n), (1, .slice (shift A 0 (decide (c = 0))) gl.length c)]) (v := .agg #[.int .i64 n, .slice (shift A 0 (decide (c = 0))) gl.length c]) S rfl rfl (fun w => by kernel_rfl)) rfl rfl rfl (by kernel_rfl) (by kernel_rfl) (by kernel_rfl) (ls' := [true, true, true, true, true, true, true, true, true, true, false]) rfl (fun _ _ _ h => h) fun a S => ?_
        refine h_all (r := 10) (rs := []) (by kernel_rfl) ⟨h_op (ls' := [true, true, true, true, true, true, true, true, true, true, true]) rfl rfl ?_, trivial⟩
        refine r_store (vs := [.int .i64 n, .slice (shift A 0 (decide (c = 0))) gl.length c]) 1 S H rfl rfl rfl rfl Try.sizeOf35 rfl rfl (by simp [Value.oneCell']) rfl rfl rfl rfl rfl fun w H => ?_
        refine r_nil ?_
        refine x_then ?_
        have HS : Sat _ (blk b3 (.cells #[.slice Av vals.length cv, .slice Al live.length cl] 40) :: blk b1 (.cells #[.int .i64 k, .int .u32 ((s : Nat) : Int)] 24) :: fr) := (((H.fetch (i := 2) rfl).fetch (i := 1) rfl).sub (.cons_cons _ (.cons_cons _ (.cons _ (List.Sublist.refl _)))))
        refine ⟨HS, ?_⟩
        refine h_done (by kernel_rfl) ?_
        refine x_then ?_
        exact ⟨S.sub ⟨rfl, rfl, rfl, rfl, rfl, rfl, rfl, rfl, rfl, rfl, trivial⟩, (((H.fetch (i := 2) rfl).fetch (i := 2) rfl).fetch (i := 2) rfl)⟩
  obtain ⟨S, H⟩ := hm
  refine x_then ?_
  refine r_seq ?_
  refine r_seq ?_
  refine wp_via (J := fun a w => Slots a 129 [(0, .agg #[.int .i64 k, .int .u32 ((s : Nat) : Int)]), (1, .agg #[.int .i64 n, .slice A es.length c]), (2, .int .i64 j), (3, .agg #[.slice Av vals.length cv, .slice Al live.length cl]), (4, .pointer (some ⟨b1, 0, none⟩)), (5, .pointer (some ⟨b2, 0, none⟩)), (7, .pointer (some ⟨b3, 0, none⟩)), (8, .bool false), (9, .bool true), (19, .bool true), (37, .bool ((decide (60 < n)) && (decide (n ≤ 1048576))))] ∧ Sat w (blk b3 (.cells #[.slice Av vals.length cv, .slice Al live.length cl] 40) :: blk b2 (.cells #[.int .i64 n, .slice (shift A 0 (decide (c = 0))) gl.length c] 35) :: blk b1 (.cells #[.int .i64 k, .int .u32 ((s : Nat) : Int)] 24) :: fr)) ?_ (fun a w hm => ?_)
  · skip
    refine r_region ?_
    refine r_y S H (y_fieldAddr S rfl rfl fa35_0) rfl rfl rfl fun a S => ?_
    refine r_y S H (y_load 1 S rfl rfl Try.isAgg3 rfl rfl) rfl rfl rfl fun a S => ?_
    refine r_y S H (y_gt S rfl rfl rfl) rfl rfl rfl fun a S => ?_
    refine r_y S H (y_move S rfl rfl) rfl rfl rfl fun a S => ?_
    refine splitP S (d := 33) rfl (fun g33 S => ?_) (fun g33 S => ?_)
    · skip
      refine r_y S H (y_fieldAddr S rfl rfl fa35_0) rfl rfl rfl fun a S => ?_
      refine r_y S H (y_load 1 S rfl rfl Try.isAgg3 rfl rfl) rfl rfl rfl fun a S => ?_
      refine r_y S H (y_le S rfl rfl rfl) rfl rfl rfl fun a S => ?_
      refine r_y S H (y_pickT S rfl rfl rfl) rfl rfl rfl fun a S => ?_
      refine r_nil ?_
      refine x_then ?_
      exact ⟨S.sub ⟨rfl, rfl, rfl, rfl, rfl, rfl, rfl, rfl, rfl, rfl, (show lk _ _ = some (.bool (decide (n ≤ 1048576))) from rfl).trans (by first | (simp only [g33, decide_true, decide_false, Bool.true_and, Bool.false_and, Bool.true_or, Bool.false_or]; done) | (simp [-List.getD_eq_getElem?_getD, g33]; done) | (simp [-List.getD_eq_getElem?_getD, g33]; omega)), trivial⟩, H⟩
    · skip
      refine r_skip S rfl rfl rfl fun a S => ?_
      refine r_skip S rfl rfl rfl fun a S => ?_
      refine r_skip S rfl rfl rfl fun a S => ?_
      refine r_y S H (y_pickF S rfl rfl rfl) rfl rfl rfl fun a S => ?_
      refine r_nil ?_
      refine x_then ?_
      exact ⟨S.sub ⟨rfl, rfl, rfl, rfl, rfl, rfl, rfl, rfl, rfl, rfl, (show lk _ _ = some (.bool false) from rfl).trans (by first | (simp only [g33, decide_true, decide_false, Bool.true_and, Bool.false_and, Bool.true_or, Bool.false_or]; done) | (simp [-List.getD_eq_getElem?_getD, g33]; done) | (simp [-List.getD_eq_getElem?_getD, g33]; omega)), trivial⟩, H⟩
  obtain ⟨S, H⟩ := hm
  refine x_then ?_
  refine r_cond S rfl (fun h37 => ?_) (fun h37 => ?_)
  · skip
    refine r_seq ?_
    refine r_region ?_
    refine r_y S H (y_move S rfl rfl) rfl rfl rfl fun a S => ?_
    refine r_y S H (y_assign S rfl rfl) rfl rfl rfl fun a S => ?_
    refine r_nil ?_
    refine x_then ?_
    refine wp_ret ?_
    refine x_thenRet ?_
    refine r_ret1 S H Try.results12 (ro_tmp S rfl) ?_
    exact ⟨rfl, H.drop.drop.drop⟩
  · skip
    refine wp_skip ?_
    refine x_then ?_
    refine r_seq ?_
    refine r_region ?_
    refine r_y S H (y_move S rfl rfl) rfl rfl rfl fun a S => ?_
    refine r_y S H (y_min S rfl rfl rfl) rfl rfl rfl fun a S => ?_
    refine r_y S H (y_assign S rfl rfl) rfl rfl rfl fun a S => ?_
    refine r_nil ?_
    refine x_then ?_
    refine r_seq ?_
    refine r_region ?_
    refine r_y S H (y_loadAgg [_, _] 2 S rfl rfl (fun w => ⟨Try.isAgg24 w, Try.sizeOf24 w⟩) rfl rfl ⟨rfl, rfl, trivial⟩) rfl rfl rfl fun a S => ?_
    refine r_y S H (y_loadAgg [_, _] 1 S rfl rfl (fun w => ⟨Try.isAgg35 w, Try.sizeOf35 w⟩) rfl rfl ⟨rfl, rfl, trivial⟩) rfl rfl rfl fun a S => ?_
    refine r_call (args := #[.agg #[.int .i64 k, .int .u32 ((s : Nat) : Int)], .agg #[.int .i64 n, .slice (shift A 0 (decide (c = 0))) gl.length c]]) S rfl rfl Try.call28 (rmay_ct (H := H) _ _ k s (by omega) n _ _ gl (((okc.more _).more _).more _) hgs) rfl rfl rfl fun v a w hR S => ?_
    obtain ⟨rfl, H⟩ := hR
    refine r_y S H (y_assign S rfl rfl) rfl rfl rfl fun a S => ?_
    refine r_nil ?_
    refine x_then ?_
    refine r_seq ?_
    refine r_region ?_
    refine r_y S H (y_loadAgg [_, _] 2 S rfl rfl (fun w => ⟨Try.isAgg24 w, Try.sizeOf24 w⟩) rfl rfl ⟨rfl, rfl, trivial⟩) rfl rfl rfl fun a S => ?_
    refine r_y S H (y_loadAgg [_, _] 1 S rfl rfl (fun w => ⟨Try.isAgg35 w, Try.sizeOf35 w⟩) rfl rfl ⟨rfl, rfl, trivial⟩) rfl rfl rfl fun a S => ?_
    refine r_call (args := #[.agg #[.int .i64 k, .int .u32 ((s : Nat) : Int)], .agg #[.int .i64 n, .slice (shift A 0 (decide (c = 0))) gl.length c]]) S rfl rfl Try.call29 (start_ct (H := H) _ _ k s (by omega) n _ _ gl (((okc.more _).more _).more _) hgs) rfl rfl rfl fun v a w hR S => ?_
    obtain ⟨A4, c5, A6, c7, rfl, H⟩ := hR
    refine r_y S H (y_move S rfl rfl) rfl rfl rfl fun a S => ?_
    refine r_y S H (y_extract (v := .agg #[.slice A4 ((Tr.startR k s n gl).1.length) c5, .slice A6 ((Tr.startR k s n gl).2.length) c7]) S rfl rfl rfl) rfl rfl rfl fun a S => ?_
    refine r_y S H (y_extract (v := .int .i64 (Tr.err (Tr.may k s n gl))) S rfl rfl rfl) rfl rfl rfl fun a S => ?_
    refine r_alloc S H rfl Try.zeroValue40 rfl rfl rfl rfl fun a w b8 S H => ?_
    refine r_store (vs := [.slice A4 ((Tr.startR k s n gl).1.length) c5, .slice A6 ((Tr.startR k s n gl).2.length) c7]) 0 S H rfl rfl rfl rfl Try.sizeOf40 rfl rfl (by simp [Value.oneCell']) rfl rfl rfl rfl rfl fun w H => ?_
    refine r_y S H (y_assign S rfl rfl) rfl rfl rfl fun a S => ?_
    refine r_nil ?_
    refine x_then ?_
    refine r_seq ?_
    refine r_region ?_
    refine r_y S H (y_loadAgg [_, _] 5 S rfl rfl (fun w => ⟨Try.isAgg24 w, Try.sizeOf24 w⟩) rfl rfl ⟨rfl, rfl, trivial⟩) rfl rfl rfl fun a S => ?_
    refine r_y S H (y_loadAgg [_, _] 4 S rfl rfl (fun w => ⟨Try.isAgg35 w, Try.sizeOf35 w⟩) rfl rfl ⟨rfl, rfl, trivial⟩) rfl rfl rfl fun a S => ?_
    refine r_y S H (y_move S rfl rfl) rfl rfl rfl fun a S => ?_
    refine r_call (args := #[.agg #[.int .i64 k, .int .u32 ((s : Nat) : Int)], .agg #[.int .i64 n, .slice (shift A 0 (decide (c = 0))) gl.length c], .int .i64 (min j 5)]) S rfl rfl Try.call24 (trace_ct (H := H) _ _ k s (by omega) n _ _ gl ((((((okc.more _).more _).more _).more _).more _).more _) hgs hgw (min j 5) (by omega)) rfl rfl rfl fun v a w hR S => ?_
    obtain ⟨A9, c10, A11, c12, rfl, H⟩ := hR
    refine r_y S H (y_move S rfl rfl) rfl rfl rfl fun a S => ?_
    refine r_y S H (y_extract (v := .agg #[.slice A9 ((Tr.traceR k s n gl (min j 5)).1.length) c10, .slice A11 ((Tr.traceR k s n gl (min j 5)).2.length) c12]) S rfl rfl rfl) rfl rfl rfl fun a S => ?_
    refine r_y S H (y_extract (v := .int .i64 (Tr.err (Tr.may k s n gl && decide (0 ≤ (min j 5))))) S rfl rfl rfl) rfl rfl rfl fun a S => ?_
    refine r_alloc S H rfl Try.zeroValue40 rfl rfl rfl rfl fun a w b13 S H => ?_
    refine r_store (vs := [.slice A9 ((Tr.traceR k s n gl (min j 5)).1.length) c10, .slice A11 ((Tr.traceR k s n gl (min j 5)).2.length) c12]) 0 S H rfl rfl rfl rfl Try.sizeOf40 rfl rfl (by simp [Value.oneCell']) rfl rfl rfl rfl rfl fun w H => ?_
    refine r_y S H (y_assign S rfl rfl) rfl rfl rfl fun a S => ?_
    refine r_nil ?_
    refine x_then ?_
    refine r_seq ?_
    refine r_region ?_
    refine r_y S H (y_loadAgg [_, _] 8 S rfl rfl (fun w => ⟨Try.isAgg24 w, Try.sizeOf24 w⟩) rfl rfl ⟨rfl, rfl, trivial⟩) rfl rfl rfl fun a S => ?_
    refine r_y S H (y_loadAgg [_, _] 7 S rfl rfl (fun w => ⟨Try.isAgg35 w, Try.sizeOf35 w⟩) rfl rfl ⟨rfl, rfl, trivial⟩) rfl rfl rfl fun a S => ?_
    refine r_y S H (y_loadAgg [_, _] 6 S rfl rfl (fun w => ⟨Try.isAgg40 w, Try.sizeOf40 w⟩) rfl rfl ⟨rfl, rfl, trivial⟩) rfl rfl rfl fun a S => ?_
    refine r_call (args := #[.agg #[.int .i64 k, .int .u32 ((s : Nat) : Int)], .agg #[.int .i64 n, .slice (shift A 0 (decide (c = 0))) gl.length c], .agg #[.slice Av vals.length cv, .slice Al live.length cl]]) S rfl rfl Try.call27 (onestep_ct (H := H) _ _ k s (by omega) n _ _ gl (((((((((okc.more _).more _).more _).more _).more _).more _).more _).more _).more _) hgs _ _ vals (((((((((okv.more _).more _).more _).more _).more _).more _).more _).more _).more _) _ _ live (((((((((okl.more _).more _).more _).more _).more _).more _).more _).more _).more _) hgw hvt) rfl rfl rfl fun v a w hR S => ?_
    obtain ⟨A14, c15, A16, c17, rfl, H⟩ := hR
    refine r_y S H (y_move S rfl rfl) rfl rfl rfl fun a S => ?_
    refine r_y S H (y_extract (v := .agg #[.slice A14 ((Tr.stepR k s n gl (vals, live)).1.length) c15, .slice A16 ((Tr.stepR k s n gl (vals, live)).2.length) c17]) S rfl rfl rfl) rfl rfl rfl fun a S => ?_
    refine r_y S H (y_extract (v := .int .i64 (Tr.err (Tr.stepOk k s n gl (vals, live)))) S rfl rfl rfl) rfl rfl rfl fun a S => ?_
    refine r_alloc S H rfl Try.zeroValue40 rfl rfl rfl rfl fun a w b18 S H => ?_
    refine r_store (vs := [.slice A14 ((Tr.stepR k s n gl (vals, live)).1.length) c15, .slice A16 ((Tr.stepR k s n gl (vals, live)).2.length) c17]) 0 S H rfl rfl rfl rfl Try.sizeOf40 rfl rfl (by simp [Value.oneCell']) rfl rfl rfl rfl rfl fun w H => ?_
    refine r_y S H (y_assign S rfl rfl) rfl rfl rfl fun a S => ?_
    refine r_nil ?_
    refine x_then ?_
    refine r_seq ?_
    refine wp_via (J := fun a w => Slots a 129 [(0, .agg #[.int .i64 k, .int .u32 ((s : Nat) : Int)]), (1, .agg #[.int .i64 n, .slice A es.length c]), (2, .int .i64 (min j 5)), (3, .agg #[.slice Av vals.length cv, .slice Al live.length cl]), (4, .pointer (some ⟨b1, 0, none⟩)), (5, .pointer (some ⟨b2, 0, none⟩)), (7, .pointer (some ⟨b3, 0, none⟩)), (8, .bool false), (9, .bool true), (10, .bool (Tr.may k s n gl)), (11, .pointer (some ⟨b8, 0, none⟩)), (12, .int .i64 (Tr.err (Tr.may k s n gl))), (13, .pointer (some ⟨b13, 0, none⟩)), (14, .int .i64 (Tr.err (Tr.may k s n gl && decide (0 ≤ (min j 5))))), (15, .pointer (some ⟨b18, 0, none⟩)), (16, .int .i64 (Tr.err (Tr.stepOk k s n gl (vals, live)))), (17, .bool true), (19, .bool true), (37, .bool ((decide (60 < n)) && (decide (n ≤ 1048576)))), (39, .int .i64 j), (40, .int .i64 (min j 5)), (41, .agg #[.int .i64 k, .int .u32 ((s : Nat) : Int)]), (42, .agg #[.int .i64 n, .slice (shift A 0 (decide (c = 0))) gl.length c]), (43, .bool (Tr.may k s n gl)), (44, .tuple #[.agg #[.slice A4 ((Tr.startR k s n gl).1.length) c5, .slice A6 ((Tr.startR k s n gl).2.length) c7], .int .i64 (Tr.err (Tr.may k s n gl))]), (45, .agg #[.int .i64 k, .int .u32 ((s : Nat) : Int)]), (46, .agg #[.int .i64 n, .slice (shift A 0 (decide (c = 0))) gl.length c]), (47, .tuple #[.agg #[.slice A4 ((Tr.startR k s n gl).1.length) c5, .slice A6 ((Tr.startR k s n gl).2.length) c7], .int .i64 (Tr.err (Tr.may k s n gl))]), (48, .agg #[.slice A4 ((Tr.startR k s n gl).1.length) c5, .slice A6 ((Tr.startR k s n gl).2.length) c7]), (49, .int .i64 (Tr.err (Tr.may k s n gl))), (50, .tuple #[.agg #[.slice A9 ((Tr.traceR k s n gl (min j 5)).1.length) c10, .slice A11 ((Tr.traceR k s n gl (min j 5)).2.length) c12], .int .i64 (Tr.err (Tr.may k s n gl && decide (0 ≤ (min j 5))))]), (51, .agg #[.int .i64 k, .int .u32 ((s : Nat) : Int)]), (52, .agg #[.int .i64 n, .slice (shift A 0 (decide (c = 0))) gl.length c]), (53, .int .i64 (min j 5)), (54, .tuple #[.agg #[.slice A9 ((Tr.traceR k s n gl (min j 5)).1.length) c10, .slice A11 ((Tr.traceR k s n gl (min j 5)).2.length) c12], .int .i64 (Tr.err (Tr.may k s n gl && decide (0 ≤ (min j 5))))]), (55, .agg #[.slice A9 ((Tr.traceR k s n gl (min j 5)).1.length) c10, .slice A11 ((Tr.traceR k s n gl (min j 5)).2.length) c12]), (56, .int .i64 (Tr.err (Tr.may k s n gl && decide (0 ≤ (min j 5))))), (57, .tuple #[.agg #[.slice A14 ((Tr.stepR k s n gl (vals, live)).1.length) c15, .slice A16 ((Tr.stepR k s n gl (vals, live)).2.length) c17], .int .i64 (Tr.err (Tr.stepOk k s n gl (vals, live)))]), (58, .agg #[.int .i64 k, .int .u32 ((s : Nat) : Int)]), (59, .agg #[.int .i64 n, .slice (shift A 0 (decide (c = 0))) gl.length c]), (60, .agg #[.slice Av vals.length cv, .slice Al live.length cl]), (61, .tuple #[.agg #[.slice A14 ((Tr.stepR k s n gl (vals, live)).1.length) c15, .slice A16 ((Tr.stepR k s n gl (vals, live)).2.length) c17], .int .i64 (Tr.err (Tr.stepOk k s n gl (vals, live)))]), (62, .agg #[.slice A14 ((Tr.stepR k s n gl (vals, live)).1.length) c15, .slice A16 ((Tr.stepR k s n gl (vals, live)).2.length) c17]), (63, .int .i64 (Tr.err (Tr.stepOk k s n gl (vals, live))))] ∧ Sat w (blk b18 (.cells #[.slice A14 ((Tr.stepR k s n gl (vals, live)).1.length) c15, .slice A16 ((Tr.stepR k s n gl (vals, live)).2.length) c17] 40) :: row 25 1 (.slice A14 ((Tr.stepR k s n gl (vals, live)).1.length) c15) ((Tr.stepR k s n gl (vals, live)).1.length) (u64s (Tr.stepR k s n gl (vals, live)).1) :: row 4 1 (.slice A16 ((Tr.stepR k s n gl (vals, live)).2.length) c17) ((Tr.stepR k s n gl (vals, live)).2.length) (bools (Tr.stepR k s n gl (vals, live)).2) :: blk b13 (.cells #[.slice A9 ((Tr.traceR k s n gl (min j 5)).1.length) c10, .slice A11 ((Tr.traceR k s n gl (min j 5)).2.length) c12] 40) :: row 25 1 (.slice A9 ((Tr.traceR k s n gl (min j 5)).1.length) c10) ((Tr.traceR k s n gl (min j 5)).1.length) (u64s (Tr.traceR k s n gl (min j 5)).1) :: row 4 1 (.slice A11 ((Tr.traceR k s n gl (min j 5)).2.length) c12) ((Tr.traceR k s n gl (min j 5)).2.length) (bools (Tr.traceR k s n gl (min j 5)).2) :: blk b8 (.cells #[.slice A4 ((Tr.startR k s n gl).1.length) c5, .slice A6 ((Tr.startR k s n gl).2.length) c7] 40) :: row 25 1 (.slice A4 ((Tr.startR k s n gl).1.length) c5) ((Tr.startR k s n gl).1.length) (u64s (Tr.startR k s n gl).1) :: row 4 1 (.slice A6 ((Tr.startR k s n gl).2.length) c7) ((Tr.startR k s n gl).2.length) (bools (Tr.startR k s n gl).2) :: blk b3 (.cells #[.slice Av vals.length cv, .slice Al live.length cl] 40) :: blk b2 (.cells #[.int .i64 n, .slice (shift A 0 (decide (c = 0))) gl.length c] 35) :: blk b1 (.cells #[.int .i64 k, .int .u32 ((s : Nat) : Int)] 24) :: fr)) ?_ (fun a w hm => ?_)
    · skip
      refine r_region ?_
      refine r_y S H (y_move S rfl rfl) rfl rfl rfl fun a S => ?_
      refine r_y S H (y_move S rfl rfl) rfl rfl rfl fun a S => ?_
      refine r_y S H (y_eq S rfl rfl rfl) rfl rfl rfl fun a S => ?_
      refine r_y S H (y_eqB S rfl rfl rfl Try.underlying4) rfl rfl rfl fun a S => ?_
      have S := S.retell (v' := .bool true) 67 rfl (by generalize Tr.may k s n gl = M; cases M <;> rfl)
      refine r_y S H (y_move S rfl rfl) rfl rfl rfl fun a S => ?_
      refine r_y S H (y_move S rfl rfl) rfl rfl rfl fun a S => ?_
      refine r_y S H (y_move S rfl rfl) rfl rfl rfl fun a S => ?_
      refine splitB S (d := 70) rfl (fun g70 S => ?_) (fun g70 S => ?_)
      · skip
        refine r_y S H (y_move S rfl rfl) rfl rfl rfl fun a S => ?_
        refine r_y S H (y_ge S rfl rfl rfl) rfl rfl rfl fun a S => ?_
        refine r_y S H (y_pickT S rfl rfl rfl) rfl rfl rfl fun a S => ?_
        refine r_y S H (y_move S rfl rfl) rfl rfl rfl fun a S => ?_
        refine r_y S H (y_eq S rfl rfl rfl) rfl rfl rfl fun a S => ?_
        refine r_y S H (y_eqB S rfl rfl rfl Try.underlying4) rfl rfl rfl fun a S => ?_
        have S := S.retell (v' := .bool true) 76 rfl (by rw [g70]; first | rfl | (generalize decide (0 ≤ min j 5) = bb; cases bb <;> rfl))
        refine r_y S H (y_pickT S rfl rfl rfl) rfl rfl rfl fun a S => ?_
        refine r_y S H (y_assign S rfl rfl) rfl rfl rfl fun a S => ?_
        refine r_nil ?_
        refine x_then ?_
        exact ⟨S.sub ⟨rfl, rfl, rfl, rfl, rfl, rfl, rfl, rfl, rfl, rfl, rfl, rfl, rfl, rfl, rfl, rfl, rfl, rfl, rfl, rfl, rfl, rfl, rfl, rfl, rfl, rfl, rfl, rfl, rfl, rfl, rfl, rfl, rfl, rfl, rfl, rfl, rfl, rfl, rfl, rfl, rfl, rfl, rfl, rfl, trivial⟩, H⟩
      · skip
        refine r_skip S rfl rfl rfl fun a S => ?_
        refine r_skip S rfl rfl rfl fun a S => ?_
        refine r_y S H (y_pickF S rfl rfl rfl) rfl rfl rfl fun a S => ?_
        refine r_y S H (y_move S rfl rfl) rfl rfl rfl fun a S => ?_
        refine r_y S H (y_eq S rfl rfl rfl) rfl rfl rfl fun a S => ?_
        refine r_y S H (y_eqB S rfl rfl rfl Try.underlying4) rfl rfl rfl fun a S => ?_
        have S := S.retell (v' := .bool true) 76 rfl (by rw [g70]; first | rfl | (generalize decide (0 ≤ min j 5) = bb; cases bb <;> rfl))
        refine r_y S H (y_pickT S rfl rfl rfl) rfl rfl rfl fun a S => ?_
        refine r_y S H (y_assign S rfl rfl) rfl rfl rfl fun a S => ?_
        refine r_nil ?_
        refine x_then ?_
        exact ⟨S.sub ⟨rfl, rfl, rfl, rfl, rfl, rfl, rfl, rfl, rfl, rfl, rfl, rfl, rfl, rfl, rfl, rfl, rfl, rfl, rfl, rfl, rfl, rfl, rfl, rfl, rfl, rfl, rfl, rfl, rfl, rfl, rfl, rfl, rfl, rfl, rfl, rfl, rfl, rfl, rfl, rfl, rfl, rfl, rfl, rfl, trivial⟩, H⟩
    obtain ⟨S, H⟩ := hm
    refine x_then ?_
    refine r_seq ?_
    refine wp_via (J := fun a w => Slots a 129 [(0, .agg #[.int .i64 k, .int .u32 ((s : Nat) : Int)]), (1, .agg #[.int .i64 n, .slice A es.length c]), (2, .int .i64 (min j 5)), (3, .agg #[.slice Av vals.length cv, .slice Al live.length cl]), (4, .pointer (some ⟨b1, 0, none⟩)), (5, .pointer (some ⟨b2, 0, none⟩)), (7, .pointer (some ⟨b3, 0, none⟩)), (8, .bool false), (9, .bool true), (10, .bool (Tr.may k s n gl)), (11, .pointer (some ⟨b8, 0, none⟩)), (12, .int .i64 (Tr.err (Tr.may k s n gl))), (13, .pointer (some ⟨b13, 0, none⟩)), (14, .int .i64 (Tr.err (Tr.may k s n gl && decide (0 ≤ (min j 5))))), (15, .pointer (some ⟨b18, 0, none⟩)), (16, .int .i64 (Tr.err (Tr.stepOk k s n gl (vals, live)))), (17, .bool true), (18, .bool true), (19, .bool true), (37, .bool ((decide (60 < n)) && (decide (n ≤ 1048576)))), (39, .int .i64 j), (40, .int .i64 (min j 5)), (41, .agg #[.int .i64 k, .int .u32 ((s : Nat) : Int)]), (42, .agg #[.int .i64 n, .slice (shift A 0 (decide (c = 0))) gl.length c]), (43, .bool (Tr.may k s n gl)), (44, .tuple #[.agg #[.slice A4 ((Tr.startR k s n gl).1.length) c5, .slice A6 ((Tr.startR k s n gl).2.length) c7], .int .i64 (Tr.err (Tr.may k s n gl))]), (45, .agg #[.int .i64 k, .int .u32 ((s : Nat) : Int)]), (46, .agg #[.int .i64 n, .slice (shift A 0 (decide (c = 0))) gl.length c]), (47, .tuple #[.agg #[.slice A4 ((Tr.startR k s n gl).1.length) c5, .slice A6 ((Tr.startR k s n gl).2.length) c7], .int .i64 (Tr.err (Tr.may k s n gl))]), (48, .agg #[.slice A4 ((Tr.startR k s n gl).1.length) c5, .slice A6 ((Tr.startR k s n gl).2.length) c7]), (49, .int .i64 (Tr.err (Tr.may k s n gl))), (50, .tuple #[.agg #[.slice A9 ((Tr.traceR k s n gl (min j 5)).1.length) c10, .slice A11 ((Tr.traceR k s n gl (min j 5)).2.length) c12], .int .i64 (Tr.err (Tr.may k s n gl && decide (0 ≤ (min j 5))))]), (51, .agg #[.int .i64 k, .int .u32 ((s : Nat) : Int)]), (52, .agg #[.int .i64 n, .slice (shift A 0 (decide (c = 0))) gl.length c]), (53, .int .i64 (min j 5)), (54, .tuple #[.agg #[.slice A9 ((Tr.traceR k s n gl (min j 5)).1.length) c10, .slice A11 ((Tr.traceR k s n gl (min j 5)).2.length) c12], .int .i64 (Tr.err (Tr.may k s n gl && decide (0 ≤ (min j 5))))]), (55, .agg #[.slice A9 ((Tr.traceR k s n gl (min j 5)).1.length) c10, .slice A11 ((Tr.traceR k s n gl (min j 5)).2.length) c12]), (56, .int .i64 (Tr.err (Tr.may k s n gl && decide (0 ≤ (min j 5))))), (57, .tuple #[.agg #[.slice A14 ((Tr.stepR k s n gl (vals, live)).1.length) c15, .slice A16 ((Tr.stepR k s n gl (vals, live)).2.length) c17], .int .i64 (Tr.err (Tr.stepOk k s n gl (vals, live)))]), (58, .agg #[.int .i64 k, .int .u32 ((s : Nat) : Int)]), (59, .agg #[.int .i64 n, .slice (shift A 0 (decide (c = 0))) gl.length c]), (60, .agg #[.slice Av vals.length cv, .slice Al live.length cl]), (61, .tuple #[.agg #[.slice A14 ((Tr.stepR k s n gl (vals, live)).1.length) c15, .slice A16 ((Tr.stepR k s n gl (vals, live)).2.length) c17], .int .i64 (Tr.err (Tr.stepOk k s n gl (vals, live)))]), (62, .agg #[.slice A14 ((Tr.stepR k s n gl (vals, live)).1.length) c15, .slice A16 ((Tr.stepR k s n gl (vals, live)).2.length) c17]), (63, .int .i64 (Tr.err (Tr.stepOk k s n gl (vals, live))))] ∧ Sat w (blk b18 (.cells #[.slice A14 ((Tr.stepR k s n gl (vals, live)).1.length) c15, .slice A16 ((Tr.stepR k s n gl (vals, live)).2.length) c17] 40) :: row 25 1 (.slice A14 ((Tr.stepR k s n gl (vals, live)).1.length) c15) ((Tr.stepR k s n gl (vals, live)).1.length) (u64s (Tr.stepR k s n gl (vals, live)).1) :: row 4 1 (.slice A16 ((Tr.stepR k s n gl (vals, live)).2.length) c17) ((Tr.stepR k s n gl (vals, live)).2.length) (bools (Tr.stepR k s n gl (vals, live)).2) :: blk b13 (.cells #[.slice A9 ((Tr.traceR k s n gl (min j 5)).1.length) c10, .slice A11 ((Tr.traceR k s n gl (min j 5)).2.length) c12] 40) :: row 25 1 (.slice A9 ((Tr.traceR k s n gl (min j 5)).1.length) c10) ((Tr.traceR k s n gl (min j 5)).1.length) (u64s (Tr.traceR k s n gl (min j 5)).1) :: row 4 1 (.slice A11 ((Tr.traceR k s n gl (min j 5)).2.length) c12) ((Tr.traceR k s n gl (min j 5)).2.length) (bools (Tr.traceR k s n gl (min j 5)).2) :: blk b8 (.cells #[.slice A4 ((Tr.startR k s n gl).1.length) c5, .slice A6 ((Tr.startR k s n gl).2.length) c7] 40) :: row 25 1 (.slice A4 ((Tr.startR k s n gl).1.length) c5) ((Tr.startR k s n gl).1.length) (u64s (Tr.startR k s n gl).1) :: row 4 1 (.slice A6 ((Tr.startR k s n gl).2.length) c7) ((Tr.startR k s n gl).2.length) (bools (Tr.startR k s n gl).2) :: blk b3 (.cells #[.slice Av vals.length cv, .slice Al live.length cl] 40) :: blk b2 (.cells #[.int .i64 n, .slice (shift A 0 (decide (c = 0))) gl.length c] 35) :: blk b1 (.cells #[.int .i64 k, .int .u32 ((s : Nat) : Int)] 24) :: fr)) ?_ (fun a w hm => ?_)
    · skip
      refine r_region ?_
      refine r_y S H (y_move S rfl rfl) rfl rfl rfl fun a S => ?_
      refine r_y S H (y_move S rfl rfl) rfl rfl rfl fun a S => ?_
      refine splitB S (d := 79) rfl (fun g79 S => ?_) (fun g79 S => ?_)
      · skip
        refine r_y S H (y_fieldAddr S rfl rfl fa40_0) rfl rfl rfl fun a S => ?_
        refine r_y S H (y_load 9 S rfl rfl Try.isAgg37 rfl rfl) rfl rfl rfl fun a S => ?_
        refine r_y S H (y_len S rfl rfl Try.underlying37) rfl rfl rfl fun a S => ?_
        refine r_y S H (y_fieldAddr S rfl rfl fa35_0) rfl rfl rfl fun a S => ?_
        refine r_y S H (y_load 10 S rfl rfl Try.isAgg3 rfl rfl) rfl rfl rfl fun a S => ?_
        refine r_y S H (y_eq S rfl rfl rfl) rfl rfl rfl fun a S => ?_
        refine r_y S H (y_pickT S rfl rfl rfl) rfl rfl rfl fun a S => ?_
        refine r_y S H (y_move S rfl rfl) rfl rfl rfl fun a S => ?_
        refine splitP S (d := 87) rfl (fun g87 S => ?_) (fun g87 S => ?_)
        · skip
          refine r_y S H (y_fieldAddr S rfl rfl fa40_1) rfl rfl rfl fun a S => ?_
          refine r_y S H (y_load 9 S rfl rfl Try.isAgg38 rfl rfl) rfl rfl rfl fun a S => ?_
          refine r_y S H (y_len S rfl rfl Try.underlying38) rfl rfl rfl fun a S => ?_
          refine r_y S H (y_fieldAddr S rfl rfl fa35_0) rfl rfl rfl fun a S => ?_
          refine r_y S H (y_load 10 S rfl rfl Try.isAgg3 rfl rfl) rfl rfl rfl fun a S => ?_
          refine r_y S H (y_eq S rfl rfl rfl) rfl rfl rfl fun a S => ?_
          refine r_y S H (y_pickT S rfl rfl rfl) rfl rfl rfl fun a S => ?_
          refine r_y S H (y_move S rfl rfl) rfl rfl rfl fun a S => ?_
          refine r_y S H (y_eq S rfl rfl rfl) rfl rfl rfl fun a S => ?_
          refine r_y S H (y_eqB S rfl rfl rfl Try.underlying4) rfl rfl rfl fun a S => ?_
          have S := S.retell (v' := .bool true) 97 rfl (by rw [ok_is, g79]; first | (simp only [g87, decide_true, decide_false]; generalize decide ((live.length : Int) = n) = bb; cases bb <;> rfl) | (generalize decide ((live.length : Int) = n) = bb; cases bb <;> rfl))
          refine r_y S H (y_assign S rfl rfl) rfl rfl rfl fun a S => ?_
          refine r_nil ?_
          refine x_then ?_
          exact ⟨S.sub ⟨rfl, rfl, rfl, rfl, rfl, rfl, rfl, rfl, rfl, rfl, rfl, rfl, rfl, rfl, rfl, rfl, rfl, rfl, rfl, rfl, rfl, rfl, rfl, rfl, rfl, rfl, rfl, rfl, rfl, rfl, rfl, rfl, rfl, rfl, rfl, rfl, rfl, rfl, rfl, rfl, rfl, rfl, rfl, rfl, rfl, trivial⟩, H⟩
        · skip
          refine r_skip S rfl rfl rfl fun a S => ?_
          refine r_skip S rfl rfl rfl fun a S => ?_
          refine r_skip S rfl rfl rfl fun a S => ?_
          refine r_skip S rfl rfl rfl fun a S => ?_
          refine r_skip S rfl rfl rfl fun a S => ?_
          refine r_skip S rfl rfl rfl fun a S => ?_
          refine r_y S H (y_pickF S rfl rfl rfl) rfl rfl rfl fun a S => ?_
          refine r_y S H (y_move S rfl rfl) rfl rfl rfl fun a S => ?_
          refine r_y S H (y_eq S rfl rfl rfl) rfl rfl rfl fun a S => ?_
          refine r_y S H (y_eqB S rfl rfl rfl Try.underlying4) rfl rfl rfl fun a S => ?_
          have S := S.retell (v' := .bool true) 97 rfl (by rw [ok_is, g79]; first | (simp only [g87, decide_true, decide_false]; generalize decide ((live.length : Int) = n) = bb; cases bb <;> rfl) | (generalize decide ((live.length : Int) = n) = bb; cases bb <;> rfl))
          refine r_y S H (y_assign S rfl rfl) rfl rfl rfl fun a S => ?_
          refine r_nil ?_
          refine x_then ?_
          exact ⟨S.sub ⟨rfl, rfl, rfl, rfl, rfl, rfl, rfl, rfl, rfl, rfl, rfl, rfl, rfl, rfl, rfl, rfl, rfl, rfl, rfl, rfl, rfl, rfl, rfl, rfl, rfl, rfl, rfl, rfl, rfl, rfl, rfl, rfl, rfl, rfl, rfl, rfl, rfl, rfl, rfl, rfl, rfl, rfl, rfl, rfl, rfl, trivial⟩, H⟩
      · skip
        refine r_skip S rfl rfl rfl fun a S => ?_
        refine r_skip S rfl rfl rfl fun a S => ?_
        refine r_skip S rfl rfl rfl fun a S => ?_
        refine r_skip S rfl rfl rfl fun a S => ?_
        refine r_skip S rfl rfl rfl fun a S => ?_
        refine r_skip S rfl rfl rfl fun a S => ?_
        refine r_y S H (y_pickF S rfl rfl rfl) rfl rfl rfl fun a S => ?_
        refine r_y S H (y_move S rfl rfl) rfl rfl rfl fun a S => ?_
        refine r_skip S rfl rfl rfl fun a S => ?_
        refine r_skip S rfl rfl rfl fun a S => ?_
        refine r_skip S rfl rfl rfl fun a S => ?_
        refine r_skip S rfl rfl rfl fun a S => ?_
        refine r_skip S rfl rfl rfl fun a S => ?_
        refine r_skip S rfl rfl rfl fun a S => ?_
        refine r_y S H (y_pickF S rfl rfl rfl) rfl rfl rfl fun a S => ?_
        refine r_y S H (y_move S rfl rfl) rfl rfl rfl fun a S => ?_
        refine r_y S H (y_eq S rfl rfl rfl) rfl rfl rfl fun a S => ?_
        refine r_y S H (y_eqB S rfl rfl rfl Try.underlying4) rfl rfl rfl fun a S => ?_
        have S := S.retell (v' := .bool true) 97 rfl (by rw [ok_is, g79]; first | (simp only [g87, decide_true, decide_false]; generalize decide ((live.length : Int) = n) = bb; cases bb <;> rfl) | (generalize decide ((live.length : Int) = n) = bb; cases bb <;> rfl))
        refine r_y S H (y_assign S rfl rfl) rfl rfl rfl fun a S => ?_
        refine r_nil ?_
        refine x_then ?_
        exact ⟨S.sub ⟨rfl, rfl, rfl, rfl, rfl, rfl, rfl, rfl, rfl, rfl, rfl, rfl, rfl, rfl, rfl, rfl, rfl, rfl, rfl, rfl, rfl, rfl, rfl, rfl, rfl, rfl, rfl, rfl, rfl, rfl, rfl, rfl, rfl, rfl, rfl, rfl, rfl, rfl, rfl, rfl, rfl, rfl, rfl, rfl, rfl, trivial⟩, H⟩
    obtain ⟨S, H⟩ := hm
    refine x_then ?_
    refine r_seq ?_
    refine wp_via (J := fun a w => Slots a 129 [(0, .agg #[.int .i64 k, .int .u32 ((s : Nat) : Int)]), (1, .agg #[.int .i64 n, .slice A es.length c]), (2, .int .i64 (min j 5)), (3, .agg #[.slice Av vals.length cv, .slice Al live.length cl]), (4, .pointer (some ⟨b1, 0, none⟩)), (5, .pointer (some ⟨b2, 0, none⟩)), (7, .pointer (some ⟨b3, 0, none⟩)), (8, .bool ((((decide (Tr.err (Tr.may k s n gl) = 0)) || true) && ((decide (Tr.err (Tr.may k s n gl && decide (0 ≤ (min j 5))) = 0)) || true)) && ((decide (Tr.err (Tr.stepOk k s n gl (vals, live)) = 0)) || true))), (9, .bool true), (10, .bool (Tr.may k s n gl)), (11, .pointer (some ⟨b8, 0, none⟩)), (12, .int .i64 (Tr.err (Tr.may k s n gl))), (13, .pointer (some ⟨b13, 0, none⟩)), (14, .int .i64 (Tr.err (Tr.may k s n gl && decide (0 ≤ (min j 5))))), (15, .pointer (some ⟨b18, 0, none⟩)), (16, .int .i64 (Tr.err (Tr.stepOk k s n gl (vals, live)))), (17, .bool true), (18, .bool true), (19, .bool true), (37, .bool ((decide (60 < n)) && (decide (n ≤ 1048576)))), (39, .int .i64 j), (40, .int .i64 (min j 5)), (41, .agg #[.int .i64 k, .int .u32 ((s : Nat) : Int)]), (42, .agg #[.int .i64 n, .slice (shift A 0 (decide (c = 0))) gl.length c]), (43, .bool (Tr.may k s n gl)), (44, .tuple #[.agg #[.slice A4 ((Tr.startR k s n gl).1.length) c5, .slice A6 ((Tr.startR k s n gl).2.length) c7], .int .i64 (Tr.err (Tr.may k s n gl))]), (45, .agg #[.int .i64 k, .int .u32 ((s : Nat) : Int)]), (46, .agg #[.int .i64 n, .slice (shift A 0 (decide (c = 0))) gl.length c]), (47, .tuple #[.agg #[.slice A4 ((Tr.startR k s n gl).1.length) c5, .slice A6 ((Tr.startR k s n gl).2.length) c7], .int .i64 (Tr.err (Tr.may k s n gl))]), (48, .agg #[.slice A4 ((Tr.startR k s n gl).1.length) c5, .slice A6 ((Tr.startR k s n gl).2.length) c7]), (49, .int .i64 (Tr.err (Tr.may k s n gl))), (50, .tuple #[.agg #[.slice A9 ((Tr.traceR k s n gl (min j 5)).1.length) c10, .slice A11 ((Tr.traceR k s n gl (min j 5)).2.length) c12], .int .i64 (Tr.err (Tr.may k s n gl && decide (0 ≤ (min j 5))))]), (51, .agg #[.int .i64 k, .int .u32 ((s : Nat) : Int)]), (52, .agg #[.int .i64 n, .slice (shift A 0 (decide (c = 0))) gl.length c]), (53, .int .i64 (min j 5)), (54, .tuple #[.agg #[.slice A9 ((Tr.traceR k s n gl (min j 5)).1.length) c10, .slice A11 ((Tr.traceR k s n gl (min j 5)).2.length) c12], .int .i64 (Tr.err (Tr.may k s n gl && decide (0 ≤ (min j 5))))]), (55, .agg #[.slice A9 ((Tr.traceR k s n gl (min j 5)).1.length) c10, .slice A11 ((Tr.traceR k s n gl (min j 5)).2.length) c12]), (56, .int .i64 (Tr.err (Tr.may k s n gl && decide (0 ≤ (min j 5))))), (57, .tuple #[.agg #[.slice A14 ((Tr.stepR k s n gl (vals, live)).1.length) c15, .slice A16 ((Tr.stepR k s n gl (vals, live)).2.length) c17], .int .i64 (Tr.err (Tr.stepOk k s n gl (vals, live)))]), (58, .agg #[.int .i64 k, .int .u32 ((s : Nat) : Int)]), (59, .agg #[.int .i64 n, .slice (shift A 0 (decide (c = 0))) gl.length c]), (60, .agg #[.slice Av vals.length cv, .slice Al live.length cl]), (61, .tuple #[.agg #[.slice A14 ((Tr.stepR k s n gl (vals, live)).1.length) c15, .slice A16 ((Tr.stepR k s n gl (vals, live)).2.length) c17], .int .i64 (Tr.err (Tr.stepOk k s n gl (vals, live)))]), (62, .agg #[.slice A14 ((Tr.stepR k s n gl (vals, live)).1.length) c15, .slice A16 ((Tr.stepR k s n gl (vals, live)).2.length) c17]), (63, .int .i64 (Tr.err (Tr.stepOk k s n gl (vals, live))))] ∧ Sat w (blk b18 (.cells #[.slice A14 ((Tr.stepR k s n gl (vals, live)).1.length) c15, .slice A16 ((Tr.stepR k s n gl (vals, live)).2.length) c17] 40) :: row 25 1 (.slice A14 ((Tr.stepR k s n gl (vals, live)).1.length) c15) ((Tr.stepR k s n gl (vals, live)).1.length) (u64s (Tr.stepR k s n gl (vals, live)).1) :: row 4 1 (.slice A16 ((Tr.stepR k s n gl (vals, live)).2.length) c17) ((Tr.stepR k s n gl (vals, live)).2.length) (bools (Tr.stepR k s n gl (vals, live)).2) :: blk b13 (.cells #[.slice A9 ((Tr.traceR k s n gl (min j 5)).1.length) c10, .slice A11 ((Tr.traceR k s n gl (min j 5)).2.length) c12] 40) :: row 25 1 (.slice A9 ((Tr.traceR k s n gl (min j 5)).1.length) c10) ((Tr.traceR k s n gl (min j 5)).1.length) (u64s (Tr.traceR k s n gl (min j 5)).1) :: row 4 1 (.slice A11 ((Tr.traceR k s n gl (min j 5)).2.length) c12) ((Tr.traceR k s n gl (min j 5)).2.length) (bools (Tr.traceR k s n gl (min j 5)).2) :: blk b8 (.cells #[.slice A4 ((Tr.startR k s n gl).1.length) c5, .slice A6 ((Tr.startR k s n gl).2.length) c7] 40) :: row 25 1 (.slice A4 ((Tr.startR k s n gl).1.length) c5) ((Tr.startR k s n gl).1.length) (u64s (Tr.startR k s n gl).1) :: row 4 1 (.slice A6 ((Tr.startR k s n gl).2.length) c7) ((Tr.startR k s n gl).2.length) (bools (Tr.startR k s n gl).2) :: blk b3 (.cells #[.slice Av vals.length cv, .slice Al live.length cl] 40) :: blk b2 (.cells #[.int .i64 n, .slice (shift A 0 (decide (c = 0))) gl.length c] 35) :: blk b1 (.cells #[.int .i64 k, .int .u32 ((s : Nat) : Int)] 24) :: fr)) ?_ (fun a w hm => ?_)
    · skip
      refine r_region ?_
      refine r_y S H (y_move S rfl rfl) rfl rfl rfl fun a S => ?_
      refine r_y S H (y_move S rfl rfl) rfl rfl rfl fun a S => ?_
      refine r_y S H (y_move S rfl rfl) rfl rfl rfl fun a S => ?_
      refine r_y S H (y_pickT S rfl rfl rfl) rfl rfl rfl fun a S => ?_
      refine r_y S H (y_move S rfl rfl) rfl rfl rfl fun a S => ?_
      refine r_y S H (y_move S rfl rfl) rfl rfl rfl fun a S => ?_
      refine r_y S H (y_pickT S rfl rfl rfl) rfl rfl rfl fun a S => ?_
      refine r_y S H (y_move S rfl rfl) rfl rfl rfl fun a S => ?_
      refine r_y S H (y_move S rfl rfl) rfl rfl rfl fun a S => ?_
      refine r_y S H (y_eq S rfl rfl rfl) rfl rfl rfl fun a S => ?_
      refine r_y S H (y_move S rfl rfl) rfl rfl rfl fun a S => ?_
      refine splitP S (d := 108) rfl (fun g108 S => ?_) (fun g108 S => ?_)
      · skip
        refine r_skip S rfl rfl rfl fun a S => ?_
        refine r_skip S rfl rfl rfl fun a S => ?_
        refine r_y S H (y_pickT S rfl rfl rfl) rfl rfl rfl fun a S => ?_
        refine r_y S H (y_pickT S rfl rfl rfl) rfl rfl rfl fun a S => ?_
        refine r_y S H (y_move S rfl rfl) rfl rfl rfl fun a S => ?_
        refine r_y S H (y_move S rfl rfl) rfl rfl rfl fun a S => ?_
        refine r_y S H (y_eq S rfl rfl rfl) rfl rfl rfl fun a S => ?_
        refine r_y S H (y_move S rfl rfl) rfl rfl rfl fun a S => ?_
        refine splitP S (d := 116) rfl (fun g116 S => ?_) (fun g116 S => ?_)
        · skip
          refine r_skip S rfl rfl rfl fun a S => ?_
          refine r_skip S rfl rfl rfl fun a S => ?_
          refine r_y S H (y_pickT S rfl rfl rfl) rfl rfl rfl fun a S => ?_
          refine r_y S H (y_pickT S rfl rfl rfl) rfl rfl rfl fun a S => ?_
          refine r_y S H (y_move S rfl rfl) rfl rfl rfl fun a S => ?_
          refine r_y S H (y_move S rfl rfl) rfl rfl rfl fun a S => ?_
          refine r_y S H (y_eq S rfl rfl rfl) rfl rfl rfl fun a S => ?_
          refine r_y S H (y_move S rfl rfl) rfl rfl rfl fun a S => ?_
          refine splitP S (d := 124) rfl (fun g124 S => ?_) (fun g124 S => ?_)
          · skip
            refine r_skip S rfl rfl rfl fun a S => ?_
            refine r_skip S rfl rfl rfl fun a S => ?_
            refine r_y S H (y_pickT S rfl rfl rfl) rfl rfl rfl fun a S => ?_
            refine r_y S H (y_pickT S rfl rfl rfl) rfl rfl rfl fun a S => ?_
            refine r_y S H (y_assign S rfl rfl) rfl rfl rfl fun a S => ?_
            refine r_nil ?_
            refine x_then ?_
            exact ⟨S.sub ⟨rfl, rfl, rfl, rfl, rfl, rfl, rfl, (show lk _ _ = some (.bool true) from rfl).trans (by first | (simp only [g108, g116, g124, decide_true, decide_false, Bool.true_and, Bool.false_and, Bool.true_or, Bool.false_or]; done) | (simp [-List.getD_eq_getElem?_getD, g108, g116, g124]; done) | (simp [-List.getD_eq_getElem?_getD, g108, g116, g124]; omega)), rfl, rfl, rfl, rfl, rfl, rfl, rfl, rfl, rfl, rfl, rfl, rfl, rfl, rfl, rfl, rfl, rfl, rfl, rfl, rfl, rfl, rfl, rfl, rfl, rfl, rfl, rfl, rfl, rfl, rfl, rfl, rfl, rfl, rfl, rfl, rfl, rfl, trivial⟩, H⟩
          · skip
            refine r_y S H (y_move S rfl rfl) rfl rfl rfl fun a S => ?_
            refine r_y S H (y_eq S rfl rfl rfl) rfl rfl rfl fun a S => ?_
            have S := S.retell (v' := .bool true) 126 rfl (by rw [decide_eq_true (err_one g124)])
            refine r_y S H (y_pickF S rfl rfl rfl) rfl rfl rfl fun a S => ?_
            refine r_y S H (y_pickT S rfl rfl rfl) rfl rfl rfl fun a S => ?_
            refine r_y S H (y_assign S rfl rfl) rfl rfl rfl fun a S => ?_
            refine r_nil ?_
            refine x_then ?_
            exact ⟨S.sub ⟨rfl, rfl, rfl, rfl, rfl, rfl, rfl, (show lk _ _ = some (.bool true) from rfl).trans (by first | (simp only [g108, g116, g124, decide_true, decide_false, Bool.true_and, Bool.false_and, Bool.true_or, Bool.false_or]; done) | (simp [-List.getD_eq_getElem?_getD, g108, g116, g124]; done) | (simp [-List.getD_eq_getElem?_getD, g108, g116, g124]; omega)), rfl, rfl, rfl, rfl, rfl, rfl, rfl, rfl, rfl, rfl, rfl, rfl, rfl, rfl, rfl, rfl, rfl, rfl, rfl, rfl, rfl, rfl, rfl, rfl, rfl, rfl, rfl, rfl, rfl, rfl, rfl, rfl, rfl, rfl, rfl, rfl, rfl, trivial⟩, H⟩
        · skip
          refine r_y S H (y_move S rfl rfl) rfl rfl rfl fun a S => ?_
          refine r_y S H (y_eq S rfl rfl rfl) rfl rfl rfl fun a S => ?_
          have S := S.retell (v' := .bool true) 118 rfl (by rw [decide_eq_true (err_one g116)])
          refine r_y S H (y_pickF S rfl rfl rfl) rfl rfl rfl fun a S => ?_
          refine r_y S H (y_pickT S rfl rfl rfl) rfl rfl rfl fun a S => ?_
          refine r_y S H (y_move S rfl rfl) rfl rfl rfl fun a S => ?_
          refine r_y S H (y_move S rfl rfl) rfl rfl rfl fun a S => ?_
          refine r_y S H (y_eq S rfl rfl rfl) rfl rfl rfl fun a S => ?_
          refine r_y S H (y_move S rfl rfl) rfl rfl rfl fun a S => ?_
          refine splitP S (d := 124) rfl (fun g124 S => ?_) (fun g124 S => ?_)
          · skip
            refine r_skip S rfl rfl rfl fun a S => ?_
            refine r_skip S rfl rfl rfl fun a S => ?_
            refine r_y S H (y_pickT S rfl rfl rfl) rfl rfl rfl fun a S => ?_
            refine r_y S H (y_pickT S rfl rfl rfl) rfl rfl rfl fun a S => ?_
            refine r_y S H (y_assign S rfl rfl) rfl rfl rfl fun a S => ?_
            refine r_nil ?_
            refine x_then ?_
            exact ⟨S.sub ⟨rfl, rfl, rfl, rfl, rfl, rfl, rfl, (show lk _ _ = some (.bool true) from rfl).trans (by first | (simp only [g108, g116, g124, decide_true, decide_false, Bool.true_and, Bool.false_and, Bool.true_or, Bool.false_or]; done) | (simp [-List.getD_eq_getElem?_getD, g108, g116, g124]; done) | (simp [-List.getD_eq_getElem?_getD, g108, g116, g124]; omega)), rfl, rfl, rfl, rfl, rfl, rfl, rfl, rfl, rfl, rfl, rfl, rfl, rfl, rfl, rfl, rfl, rfl, rfl, rfl, rfl, rfl, rfl, rfl, rfl, rfl, rfl, rfl, rfl, rfl, rfl, rfl, rfl, rfl, rfl, rfl, rfl, rfl, trivial⟩, H⟩
          · skip
            refine r_y S H (y_move S rfl rfl) rfl rfl rfl fun a S => ?_
            refine r_y S H (y_eq S rfl rfl rfl) rfl rfl rfl fun a S => ?_
            have S := S.retell (v' := .bool true) 126 rfl (by rw [decide_eq_true (err_one g124)])
            refine r_y S H (y_pickF S rfl rfl rfl) rfl rfl rfl fun a S => ?_
            refine r_y S H (y_pickT S rfl rfl rfl) rfl rfl rfl fun a S => ?_
            refine r_y S H (y_assign S rfl rfl) rfl rfl rfl fun a S => ?_
            refine r_nil ?_
            refine x_then ?_
            exact ⟨S.sub ⟨rfl, rfl, rfl, rfl, rfl, rfl, rfl, (show lk _ _ = some (.bool true) from rfl).trans (by first | (simp only [g108, g116, g124, decide_true, decide_false, Bool.true_and, Bool.false_and, Bool.true_or, Bool.false_or]; done) | (simp [-List.getD_eq_getElem?_getD, g108, g116, g124]; done) | (simp [-List.getD_eq_getElem?_getD, g108, g116, g124]; omega)), rfl, rfl, rfl, rfl, rfl, rfl, rfl, rfl, rfl, rfl, rfl, rfl, rfl, rfl, rfl, rfl, rfl, rfl, rfl, rfl, rfl, rfl, rfl, rfl, rfl, rfl, rfl, rfl, rfl, rfl, rfl, rfl, rfl, rfl, rfl, rfl, rfl, trivial⟩, H⟩
      · skip
        refine r_y S H (y_move S rfl rfl) rfl rfl rfl fun a S => ?_
        refine r_y S H (y_eq S rfl rfl rfl) rfl rfl rfl fun a S => ?_
        have S := S.retell (v' := .bool true) 110 rfl (by rw [decide_eq_true (err_one g108)])
        refine r_y S H (y_pickF S rfl rfl rfl) rfl rfl rfl fun a S => ?_
        refine r_y S H (y_pickT S rfl rfl rfl) rfl rfl rfl fun a S => ?_
        refine r_y S H (y_move S rfl rfl) rfl rfl rfl fun a S => ?_
        refine r_y S H (y_move S rfl rfl) rfl rfl rfl fun a S => ?_
        refine r_y S H (y_eq S rfl rfl rfl) rfl rfl rfl fun a S => ?_
        refine r_y S H (y_move S rfl rfl) rfl rfl rfl fun a S => ?_
        refine splitP S (d := 116) rfl (fun g116 S => ?_) (fun g116 S => ?_)
        · skip
          refine r_skip S rfl rfl rfl fun a S => ?_
          refine r_skip S rfl rfl rfl fun a S => ?_
          refine r_y S H (y_pickT S rfl rfl rfl) rfl rfl rfl fun a S => ?_
          refine r_y S H (y_pickT S rfl rfl rfl) rfl rfl rfl fun a S => ?_
          refine r_y S H (y_move S rfl rfl) rfl rfl rfl fun a S => ?_
          refine r_y S H (y_move S rfl rfl) rfl rfl rfl fun a S => ?_
          refine r_y S H (y_eq S rfl rfl rfl) rfl rfl rfl fun a S => ?_
          refine r_y S H (y_move S rfl rfl) rfl rfl rfl fun a S => ?_
          refine splitP S (d := 124) rfl (fun g124 S => ?_) (fun g124 S => ?_)
          · skip
            refine r_skip S rfl rfl rfl fun a S => ?_
            refine r_skip S rfl rfl rfl fun a S => ?_
            refine r_y S H (y_pickT S rfl rfl rfl) rfl rfl rfl fun a S => ?_
            refine r_y S H (y_pickT S rfl rfl rfl) rfl rfl rfl fun a S => ?_
            refine r_y S H (y_assign S rfl rfl) rfl rfl rfl fun a S => ?_
            refine r_nil ?_
            refine x_then ?_
            exact ⟨S.sub ⟨rfl, rfl, rfl, rfl, rfl, rfl, rfl, (show lk _ _ = some (.bool true) from rfl).trans (by first | (simp only [g108, g116, g124, decide_true, decide_false, Bool.true_and, Bool.false_and, Bool.true_or, Bool.false_or]; done) | (simp [-List.getD_eq_getElem?_getD, g108, g116, g124]; done) | (simp [-List.getD_eq_getElem?_getD, g108, g116, g124]; omega)), rfl, rfl, rfl, rfl, rfl, rfl, rfl, rfl, rfl, rfl, rfl, rfl, rfl, rfl, rfl, rfl, rfl, rfl, rfl, rfl, rfl, rfl, rfl, rfl, rfl, rfl, rfl, rfl, rfl, rfl, rfl, rfl, rfl, rfl, rfl, rfl, rfl, trivial⟩, H⟩
          · skip
            refine r_y S H (y_move S rfl rfl) rfl rfl rfl fun a S => ?_
            refine r_y S H (y_eq S rfl rfl rfl) rfl rfl rfl fun a S => ?_
            have S := S.retell (v' := .bool true) 126 rfl (by rw [decide_eq_true (err_one g124)])
            refine r_y S H (y_pickF S rfl rfl rfl) rfl rfl rfl fun a S => ?_
            refine r_y S H (y_pickT S rfl rfl rfl) rfl rfl rfl fun a S => ?_
            refine r_y S H (y_assign S rfl rfl) rfl rfl rfl fun a S => ?_
            refine r_nil ?_
            refine x_then ?_
            exact ⟨S.sub ⟨rfl, rfl, rfl, rfl, rfl, rfl, rfl, (show lk _ _ = some (.bool true) from rfl).trans (by first | (simp only [g108, g116, g124, decide_true, decide_false, Bool.true_and, Bool.false_and, Bool.true_or, Bool.false_or]; done) | (simp [-List.getD_eq_getElem?_getD, g108, g116, g124]; done) | (simp [-List.getD_eq_getElem?_getD, g108, g116, g124]; omega)), rfl, rfl, rfl, rfl, rfl, rfl, rfl, rfl, rfl, rfl, rfl, rfl, rfl, rfl, rfl, rfl, rfl, rfl, rfl, rfl, rfl, rfl, rfl, rfl, rfl, rfl, rfl, rfl, rfl, rfl, rfl, rfl, rfl, rfl, rfl, rfl, rfl, trivial⟩, H⟩
        · skip
          refine r_y S H (y_move S rfl rfl) rfl rfl rfl fun a S => ?_
          refine r_y S H (y_eq S rfl rfl rfl) rfl rfl rfl fun a S => ?_
          have S := S.retell (v' := .bool true) 118 rfl (by rw [decide_eq_true (err_one g116)])
          refine r_y S H (y_pickF S rfl rfl rfl) rfl rfl rfl fun a S => ?_
          refine r_y S H (y_pickT S rfl rfl rfl) rfl rfl rfl fun a S => ?_
          refine r_y S H (y_move S rfl rfl) rfl rfl rfl fun a S => ?_
          refine r_y S H (y_move S rfl rfl) rfl rfl rfl fun a S => ?_
          refine r_y S H (y_eq S rfl rfl rfl) rfl rfl rfl fun a S => ?_
          refine r_y S H (y_move S rfl rfl) rfl rfl rfl fun a S => ?_
          refine splitP S (d := 124) rfl (fun g124 S => ?_) (fun g124 S => ?_)
          · skip
            refine r_skip S rfl rfl rfl fun a S => ?_
            refine r_skip S rfl rfl rfl fun a S => ?_
            refine r_y S H (y_pickT S rfl rfl rfl) rfl rfl rfl fun a S => ?_
            refine r_y S H (y_pickT S rfl rfl rfl) rfl rfl rfl fun a S => ?_
            refine r_y S H (y_assign S rfl rfl) rfl rfl rfl fun a S => ?_
            refine r_nil ?_
            refine x_then ?_
            exact ⟨S.sub ⟨rfl, rfl, rfl, rfl, rfl, rfl, rfl, (show lk _ _ = some (.bool true) from rfl).trans (by first | (simp only [g108, g116, g124, decide_true, decide_false, Bool.true_and, Bool.false_and, Bool.true_or, Bool.false_or]; done) | (simp [-List.getD_eq_getElem?_getD, g108, g116, g124]; done) | (simp [-List.getD_eq_getElem?_getD, g108, g116, g124]; omega)), rfl, rfl, rfl, rfl, rfl, rfl, rfl, rfl, rfl, rfl, rfl, rfl, rfl, rfl, rfl, rfl, rfl, rfl, rfl, rfl, rfl, rfl, rfl, rfl, rfl, rfl, rfl, rfl, rfl, rfl, rfl, rfl, rfl, rfl, rfl, rfl, rfl, trivial⟩, H⟩
          · skip
            refine r_y S H (y_move S rfl rfl) rfl rfl rfl fun a S => ?_
            refine r_y S H (y_eq S rfl rfl rfl) rfl rfl rfl fun a S => ?_
            have S := S.retell (v' := .bool true) 126 rfl (by rw [decide_eq_true (err_one g124)])
            refine r_y S H (y_pickF S rfl rfl rfl) rfl rfl rfl fun a S => ?_
            refine r_y S H (y_pickT S rfl rfl rfl) rfl rfl rfl fun a S => ?_
            refine r_y S H (y_assign S rfl rfl) rfl rfl rfl fun a S => ?_
            refine r_nil ?_
            refine x_then ?_
            exact ⟨S.sub ⟨rfl, rfl, rfl, rfl, rfl, rfl, rfl, (show lk _ _ = some (.bool true) from rfl).trans (by first | (simp only [g108, g116, g124, decide_true, decide_false, Bool.true_and, Bool.false_and, Bool.true_or, Bool.false_or]; done) | (simp [-List.getD_eq_getElem?_getD, g108, g116, g124]; done) | (simp [-List.getD_eq_getElem?_getD, g108, g116, g124]; omega)), rfl, rfl, rfl, rfl, rfl, rfl, rfl, rfl, rfl, rfl, rfl, rfl, rfl, rfl, rfl, rfl, rfl, rfl, rfl, rfl, rfl, rfl, rfl, rfl, rfl, rfl, rfl, rfl, rfl, rfl, rfl, rfl, rfl, rfl, rfl, rfl, rfl, trivial⟩, H⟩
    obtain ⟨S, H⟩ := hm
    refine x_then ?_
    refine wp_ret ?_
    refine r_ret1 S H Try.results12 (ro_tmp S rfl) ?_
    refine ⟨congrArg Value.bool ?_, H.drop.drop.drop.drop.drop.drop.drop.drop.drop.drop.drop.drop⟩
    simp

end Go.Proofs.Ytfmpgdhmfjllnaa
