/- Walks of functions of the program, over slots and resources. No condition. -/
import Derived.Test.YtfmpgdhmfjllnaaW13o
import Derived.Test.YtfmpgdhmfjllnaaW13i
namespace Go.Proofs.Ytfmpgdhmfjllnaa
open Go.RowKit Go.Cg
set_option linter.unusedVariables false
set_option linter.unusedSimpArgs false
open Go.Cg.Tr (E top right graph quiet msg comb nxt summed)
set_option maxHeartbeats 1000000 in
set_option maxRecDepth 4000 in
theorem rstep_ct (w : World) (fr : List Res) (k : Int) (s : Nat) (hs : s < 4294967296) (m : Nat) (hm : m ≤ 1048576) (A : Option Addr) (c : Nat) (es : List E) (ok : SlOk fr 3 A es.length c (ecells es)) (hes : ∀ e ∈ es, e.f < 4294967296 ∧ e.t < 4294967296) (Av : Option Addr) (cv : Nat) (vals : List Nat) (okv : SlOk fr 1 Av vals.length cv (u64s vals)) (Al : Option Addr) (cl : Nat) (live : List Bool) (okl : SlOk fr 1 Al live.length cl (bools live)) (hee : ∀ e ∈ es, e.f < m ∧ e.t < m) (hew : ∀ e ∈ es, e.w < 4294967296) (hlm : vals.length = m) (hlv : live.length = m) (hel : es.length ≤ 1048576) (hvt : ∀ x ∈ vals, x ≤ 18446744073709551615) (H : Sat w (fr)) :
    Rt Try.prog 31 #[.agg #[.int .i64 k, .int .u32 ((s : Nat) : Int)], .agg #[.int .i64 ((m : Nat) : Int), .slice A es.length c], .agg #[.slice Av vals.length cv, .slice Al live.length cl]] w fun v w' => (∃ A1 c1 A2 c2, v = .agg #[.slice A1 (Tr.step k es (vals, live)).1.length c1, .slice A2 (Tr.step k es (vals, live)).2.length c2] ∧ Sat w' (row 25 1 (.slice A1 (Tr.step k es (vals, live)).1.length c1) (Tr.step k es (vals, live)).1.length (u64s (Tr.step k es (vals, live)).1) :: row 4 1 (.slice A2 (Tr.step k es (vals, live)).2.length c2) (Tr.step k es (vals, live)).2.length (bools (Tr.step k es (vals, live)).2) :: fr)) := by
  have hme := ok.le
  have hmc : c ≤ 9223372036854775807 := ok.cap
  have hcv := okv.le
  have hcv2 : cv ≤ 9223372036854775807 := okv.cap
  have hcl := okl.le
  have hcl2 : cl ≤ 9223372036854775807 := okl.cap
  refine rt_enter Try.func31 rfl (n := 149) Try.ntmps31 rfl fun a S => ?_
  refine r_seq ?_
  refine r_region ?_
  refine r_box (c := #[.int .i64 k, .int .u32 ((s : Nat) : Int)]) S H rfl rfl rfl rfl rfl rfl fun a w b1 S H => ?_
  refine r_box (c := #[.int .i64 ((m : Nat) : Int), .slice A es.length c]) S H rfl rfl rfl rfl rfl rfl fun a w b2 S H => ?_
  refine r_box (c := #[.slice Av vals.length cv, .slice Al live.length cl]) S H rfl rfl rfl rfl rfl rfl fun a w b3 S H => ?_
  refine r_alloc S H rfl Try.zeroValue40 rfl rfl rfl rfl fun a w b4 S H => ?_
  refine r_nil ?_
  refine x_then ?_
  refine r_seq ?_
  refine wp_via (J := fun a w => ∃ A6 : Option Addr, ∃ c7 : Nat, ∃ A9 : Option Addr, ∃ c10 : Nat, ∃ b11 : Nat, Slots a 149 [(0, .agg #[.int .i64 k, .int .u32 ((s : Nat) : Int)]), (1, .agg #[.int .i64 ((m : Nat) : Int), .slice A es.length c]), (2, .agg #[.slice Av vals.length cv, .slice Al live.length cl]), (3, .pointer (some ⟨b1, 0, none⟩)), (4, .pointer (some ⟨b2, 0, none⟩)), (5, .pointer (some ⟨b3, 0, none⟩)), (6, .pointer (some ⟨b4, 0, none⟩)), (7, .pointer (some ⟨b11, 0, none⟩))] ∧ Sat w (blk b11 (.cells #[.slice A6 vals.length c7, .slice A9 live.length c10] 40) :: row 4 1 (.slice A9 live.length c10) live.length (bools live) :: row 25 1 (.slice A6 vals.length c7) vals.length (u64s vals) :: blk b4 (.cells #[.slice none 0 0, .slice none 0 0] 40) :: blk b3 (.cells #[.slice Av vals.length cv, .slice Al live.length cl] 40) :: blk b2 (.cells #[.int .i64 ((m : Nat) : Int), .slice A es.length c] 35) :: blk b1 (.cells #[.int .i64 k, .int .u32 ((s : Nat) : Int)] 24) :: fr)) ?_ (fun a w hm => ?_)
  · skip
    refine h_start (blk b4 (.cells #[.slice none 0 0, .slice none 0 0] 40) :: blk b3 (.cells #[.slice Av vals.length cv, .slice Al live.length cl] 40) :: blk b2 (.cells #[.int .i64 ((m : Nat) : Int), .slice A es.length c] 35) :: blk b1 (.cells #[.int .i64 k, .int .u32 ((s : Nat) : Int)] 24) :: fr) (ls := [false, false, false, false, false, false, false, false, false, false, false]) H rfl rfl fun w H => ?_
    have HS : Sat _ (blk b4 (.cells #[.slice none 0 0, .slice none 0 0] 40) :: blk b3 (.cells #[.slice Av vals.length cv, .slice Al live.length cl] 40) :: blk b2 (.cells #[.int .i64 ((m : Nat) : Int), .slice A es.length c] 35) :: blk b1 (.cells #[.int .i64 k, .int .u32 ((s : Nat) : Int)] 24) :: fr) := H
    refine h_y 1 S HS rfl (y_fieldAddr S rfl rfl fa40_0) rfl rfl rfl (by kernel_rfl) (by kernel_rfl) (by kernel_rfl) (ls' := [false, true, false, false, false, false, false, false, false, false, false]) rfl (fun _ _ _ h => h) fun a S => ?_
    refine h_y 2 S HS rfl (y_load 1 S rfl rfl Try.isAgg37 rfl rfl) rfl rfl rfl (by kernel_rfl) (by kernel_rfl) (by kernel_rfl) (ls' := [false, true, true, false, false, false, false, false, false, false, false]) rfl (fun _ _ _ h => h) fun a S => ?_
    refine h_y 5 S HS rfl (y_fieldAddr S rfl rfl fa40_1) rfl rfl rfl (by kernel_rfl) (by kernel_rfl) (by kernel_rfl) (ls' := [false, true, true, false, false, true, false, false, false, false, false]) rfl (fun _ _ _ h => h) fun a S => ?_
    refine h_y 6 S HS rfl (y_load 1 S rfl rfl Try.isAgg38 rfl rfl) rfl rfl rfl (by kernel_rfl) (by kernel_rfl) (by kernel_rfl) (ls' := [false, true, true, false, false, true, true, false, false, false, false]) rfl (fun _ _ _ h => h) fun a S => ?_
    refine h_all (r := 0) (rs := [4, 9]) (by kernel_rfl) ⟨h_op (ls' := [true, true, true, false, false, true, true, false, false, false, false]) rfl rfl ?_, h_op (ls' := [false, true, true, false, true, true, true, false, false, false, false]) rfl rfl ?_, h_op (ls' := [false, true, true, false, false, true, true, false, false, true, false]) rfl rfl ?_, trivial⟩
    · skip
      refine r_lit (vs := #[]) (cs := u64s []) S H rfl rfl el37 (by kernel_rfl) (by decide) (by rfl) rfl rfl rfl fun a w b5 S H => ?_
      refine r_nil ?_
      refine x_then ?_
      have HS : Sat _ (blk b4 (.cells #[.slice none 0 0, .slice none 0 0] 40) :: blk b3 (.cells #[.slice Av vals.length cv, .slice Al live.length cl] 40) :: blk b2 (.cells #[.int .i64 ((m : Nat) : Int), .slice A es.length c] 35) :: blk b1 (.cells #[.int .i64 k, .int .u32 ((s : Nat) : Int)] 24) :: fr) := (H.pick [1, 2, 3, 4] 5 rfl)
      refine ⟨HS, ?_⟩
      refine h_all (r := 3) (rs := [4, 9]) (by kernel_rfl) ⟨h_op (ls' := [true, true, true, true, false, true, true, false, false, false, false]) rfl rfl ?_, h_op (ls' := [true, true, true, false, true, true, true, false, false, false, false]) rfl rfl ?_, h_op (ls' := [true, true, true, false, false, true, true, false, false, true, false]) rfl rfl ?_, trivial⟩
      · skip
        refine r_appendS (L' := fun A6 c7 => row 25 1 (.slice A6 vals.length c7) vals.length (u64s vals) :: blk b4 (.cells #[.slice none 0 0, .slice none 0 0] 40) :: blk b3 (.cells #[.slice Av vals.length cv, .slice Al live.length cl] 40) :: blk b2 (.cells #[.int .i64 ((m : Nat) : Int), .slice A es.length c] 35) :: blk b1 (.cells #[.int .i64 k, .int .u32 ((s : Nat) : Int)] 24) :: fr) (xs' := u64s vals) 0 S H rfl rfl rfl rfl el37 (((((okv.more _).more _).more _).more _).more _) (one_u64s _) (by simp only [maxLen]; first | omega | (simp <;> omega)) (by first | omega | (simp <;> omega)) (List.nil_append _) (by first | omega | (simp <;> omega)) (fun _ _ => rfl) rfl rfl rfl fun a w A6 c7 hA6 S H => ?_
        refine r_nil ?_
        refine x_then ?_
        have HS : Sat _ (blk b4 (.cells #[.slice none 0 0, .slice none 0 0] 40) :: blk b3 (.cells #[.slice Av vals.length cv, .slice Al live.length cl] 40) :: blk b2 (.cells #[.int .i64 ((m : Nat) : Int), .slice A es.length c] 35) :: blk b1 (.cells #[.int .i64 k, .int .u32 ((s : Nat) : Int)] 24) :: fr) := (H.pick [1, 2, 3, 4] 5 rfl)
        refine ⟨HS, ?_⟩
        refine h_all (r := 4) (rs := [9]) (by kernel_rfl) ⟨h_op (ls' := [true, true, true, true, true, true, true, false, false, false, false]) rfl rfl ?_, h_op (ls' := [true, true, true, true, false, true, true, false, false, true, false]) rfl rfl ?_, trivial⟩
        · skip
          refine r_lit (vs := #[]) (cs := bools []) S H rfl rfl el38 (by kernel_rfl) (by decide) (by rfl) rfl rfl rfl fun a w b8 S H => ?_
          refine r_nil ?_
          refine x_then ?_
          have HS : Sat _ (blk b4 (.cells #[.slice none 0 0, .slice none 0 0] 40) :: blk b3 (.cells #[.slice Av vals.length cv, .slice Al live.length cl] 40) :: blk b2 (.cells #[.int .i64 ((m : Nat) : Int), .slice A es.length c] 35) :: blk b1 (.cells #[.int .i64 k, .int .u32 ((s : Nat) : Int)] 24) :: fr) := (H.pick [2, 3, 4, 5] 6 rfl)
          refine ⟨HS, ?_⟩
          refine h_all (r := 7) (rs := [9]) (by kernel_rfl) ⟨h_op (ls' := [true, true, true, true, true, true, true, true, false, false, false]) rfl rfl ?_, h_op (ls' := [true, true, true, true, true, true, true, false, false, true, false]) rfl rfl ?_, trivial⟩
          · skip
            refine r_appendS (L' := fun A9 c10 => row 4 1 (.slice A9 live.length c10) live.length (bools live) :: row 25 1 (.slice A6 vals.length c7) vals.length (u64s vals) :: blk b4 (.cells #[.slice none 0 0, .slice none 0 0] 40) :: blk b3 (.cells #[.slice Av vals.length cv, .slice Al live.length cl] 40) :: blk b2 (.cells #[.int .i64 ((m : Nat) : Int), .slice A es.length c] 35) :: blk b1 (.cells #[.int .i64 k, .int .u32 ((s : Nat) : Int)] 24) :: fr) (xs' := bools live) 0 S H rfl rfl rfl rfl el38 ((((((okl.more _).more _).more _).more _).more _).more _) (one_bools _) (by simp only [maxLen]; first | omega | (simp <;> omega)) (by first | omega | (simp <;> omega)) (List.nil_append _) (by first | omega | (simp <;> omega)) (fun _ _ => rfl) rfl rfl rfl fun a w A9 c10 hA9 S H => ?_
            refine r_nil ?_
            refine x_then ?_
            have HS : Sat _ (blk b4 (.cells #[.slice none 0 0, .slice none 0 0] 40) :: blk b3 (.cells #[.slice Av vals.length cv, .slice Al live.length cl] 40) :: blk b2 (.cells #[.int .i64 ((m : Nat) : Int), .slice A es.length c] 35) :: blk b1 (.cells #[.int .i64 k, .int .u32 ((s : Nat) : Int)] 24) :: fr) := (H.pick [2, 3, 4, 5] 6 rfl)
            refine ⟨HS, ?_⟩
            refine h_y 8 S HS rfl (y_build (vs := #[(0, .slice A6 vals.length c7), (1, .slice A9 live.length c10)]) (v := .agg #[.slice A6 vals.length c7, .slice A9 live.length c10]) S rfl rfl (fun w => by kernel_rfl)) rfl rfl rfl (by kernel_rfl) (by kernel_rfl) (by kernel_rfl) (ls' := [true, true, true, true, true, true, true, true, true, false, false]) rfl (fun _ _ _ h => h) fun a S => ?_
            refine h_all (r := 9) (rs := []) (by kernel_rfl) ⟨h_op (ls' := [true, true, true, true, true, true, true, true, true, true, false]) rfl rfl ?_, trivial⟩
            refine r_alloc S H rfl Try.zeroValue40 rfl rfl rfl rfl fun a w b11 S H => ?_
            refine r_nil ?_
            refine x_then ?_
            have HS : Sat _ (blk b4 (.cells #[.slice none 0 0, .slice none 0 0] 40) :: blk b3 (.cells #[.slice Av vals.length cv, .slice Al live.length cl] 40) :: blk b2 (.cells #[.int .i64 ((m : Nat) : Int), .slice A es.length c] 35) :: blk b1 (.cells #[.int .i64 k, .int .u32 ((s : Nat) : Int)] 24) :: fr) := (H.pick [3, 4, 5, 6] 7 rfl)
            refine ⟨HS, ?_⟩
            refine h_all (r := 10) (rs := []) (by kernel_rfl) ⟨h_op (ls' := [true, true, true, true, true, true, true, true, true, true, true]) rfl rfl ?_, trivial⟩
            refine r_store (vs := [.slice A6 vals.length c7, .slice A9 live.length c10]) 0 S H rfl rfl rfl rfl Try.sizeOf40 rfl rfl (by simp [Value.oneCell']) rfl rfl rfl rfl rfl fun w H => ?_
            refine r_nil ?_
            refine x_then ?_
            have HS : Sat _ (blk b4 (.cells #[.slice none 0 0, .slice none 0 0] 40) :: blk b3 (.cells #[.slice Av vals.length cv, .slice Al live.length cl] 40) :: blk b2 (.cells #[.int .i64 ((m : Nat) : Int), .slice A es.length c] 35) :: blk b1 (.cells #[.int .i64 k, .int .u32 ((s : Nat) : Int)] 24) :: fr) := (H.pick [3, 4, 5, 6] 7 rfl)
            refine ⟨HS, ?_⟩
            refine h_done (by kernel_rfl) ?_
            refine x_then ?_
            exact ⟨_, _, _, _, _, S.sub ⟨rfl, rfl, rfl, rfl, rfl, rfl, rfl, rfl, trivial⟩, H⟩
          · skip
            refine r_alloc S H rfl Try.zeroValue40 rfl rfl rfl rfl fun a w b12 S H => ?_
            refine r_nil ?_
            refine x_then ?_
            have HS : Sat _ (blk b4 (.cells #[.slice none 0 0, .slice none 0 0] 40) :: blk b3 (.cells #[.slice Av vals.length cv, .slice Al live.length cl] 40) :: blk b2 (.cells #[.int .i64 ((m : Nat) : Int), .slice A es.length c] 35) :: blk b1 (.cells #[.int .i64 k, .int .u32 ((s : Nat) : Int)] 24) :: fr) := (H.pick [3, 4, 5, 6] 7 rfl)
            refine ⟨HS, ?_⟩
            refine h_all (r := 7) (rs := []) (by kernel_rfl) ⟨h_op (ls' := [true, true, true, true, true, true, true, true, false, true, false]) rfl rfl ?_, trivial⟩
            refine r_appendS (L' := fun A13 c14 => blk b12 (.cells #[.slice none 0 0, .slice none 0 0] 40) :: row 4 1 (.slice A13 live.length c14) live.length (bools live) :: row 25 1 (.slice A6 vals.length c7) vals.length (u64s vals) :: blk b4 (.cells #[.slice none 0 0, .slice none 0 0] 40) :: blk b3 (.cells #[.slice Av vals.length cv, .slice Al live.length cl] 40) :: blk b2 (.cells #[.int .i64 ((m : Nat) : Int), .slice A es.length c] 35) :: blk b1 (.cells #[.int .i64 k, .int .u32 ((s : Nat) : Int)] 24) :: fr) (xs' := bools live) 1 S H rfl rfl rfl rfl el38 (((((((okl.more _).more _).more _).more _).more _).more _).more _) (one_bools _) (by simp only [maxLen]; first | omega | (simp <;> omega)) (by first | omega | (simp <;> omega)) (List.nil_append _) (by first | omega | (simp <;> omega)) (fun _ _ => rfl) rfl rfl rfl fun a w A13 c14 hA13 S H => ?_
            refine r_nil ?_
            refine x_then ?_
            have HS : Sat _ (blk b4 (.cells #[.slice none 0 0, .slice none 0 0] 40) :: blk b3 (.cells #[.slice Av vals.length cv, .slice Al live.length cl] 40) :: blk b2 (.cells #[.int .i64 ((m : Nat) : Int), .slice A es.length c] 35) :: blk b1 (.cells #[.int .i64 k, .int .u32 ((s : Nat) : Int)] 24) :: fr) := (H.pick [3, 4, 5, 6] 7 rfl)
            refine ⟨HS, ?_⟩
            refine h_y 8 S HS rfl (y_build (vs := #[(0, .slice A6 vals.length c7), (1, .slice A13 live.length c14)]) (v := .agg #[.slice A6 vals.length c7, .slice A13 live.length c14]) S rfl rfl (fun w => by kernel_rfl)) rfl rfl rfl (by kernel_rfl) (by kernel_rfl) (by kernel_rfl) (ls' := [true, true, true, true, true, true, true, true, true, true, false]) rfl (fun _ _ _ h => h) fun a S => ?_
            refine h_all (r := 10) (rs := []) (by kernel_rfl) ⟨h_op (ls' := [true, true, true, true, true, true, true, true, true, true, true]) rfl rfl ?_, trivial⟩
            refine r_store (vs := [.slice A6 vals.length c7, .slice A13 live.length c14]) 0 S H rfl rfl rfl rfl Try.sizeOf40 rfl rfl (by simp [Value.oneCell']) rfl rfl rfl rfl rfl fun w H => ?_
            refine r_nil ?_
            refine x_then ?_
            have HS : Sat _ (blk b4 (.cells #[.slice none 0 0, .slice none 0 0] 40) :: blk b3 (.cells #[.slice Av vals.length cv, .slice Al live.length cl] 40) :: blk b2 (.cells #[.int .i64 ((m : Nat) : Int), .slice A es.length c] 35) :: blk b1 (.cells #[.int .i64 k, .int .u32 ((s : Nat) : Int)] 24) :: fr) := (H.pick [3, 4, 5, 6] 7 rfl)
            refine ⟨HS, ?_⟩
            refine h_done (by kernel_rfl) ?_
            refine x_then ?_
            exact ⟨_, _, _, _, _, S.sub ⟨rfl, rfl, rfl, rfl, rfl, rfl, rfl, rfl, trivial⟩, H⟩
        · skip
          refine r_alloc S H rfl Try.zeroValue40 rfl rfl rfl rfl fun a w b15 S H => ?_
          refine r_nil ?_
          refine x_then ?_
          have HS : Sat _ (blk b4 (.cells #[.slice none 0 0, .slice none 0 0] 40) :: blk b3 (.cells #[.slice Av vals.length cv, .slice Al live.length cl] 40) :: blk b2 (.cells #[.int .i64 ((m : Nat) : Int), .slice A es.length c] 35) :: blk b1 (.cells #[.int .i64 k, .int .u32 ((s : Nat) : Int)] 24) :: fr) := (H.pick [2, 3, 4, 5] 6 rfl)
          refine ⟨HS, ?_⟩
          refine h_all (r := 4) (rs := []) (by kernel_rfl) ⟨h_op (ls' := [true, true, true, true, true, true, true, false, false, true, false]) rfl rfl ?_, trivial⟩
          refine r_lit (vs := #[]) (cs := bools []) S H rfl rfl el38 (by kernel_rfl) (by decide) (by rfl) rfl rfl rfl fun a w b16 S H => ?_
          refine r_nil ?_
          refine x_then ?_
          have HS : Sat _ (blk b4 (.cells #[.slice none 0 0, .slice none 0 0] 40) :: blk b3 (.cells #[.slice Av vals.length cv, .slice Al live.length cl] 40) :: blk b2 (.cells #[.int .i64 ((m : Nat) : Int), .slice A es.length c] 35) :: blk b1 (.cells #[.int .i64 k, .int .u32 ((s : Nat) : Int)] 24) :: fr) := (H.pick [3, 4, 5, 6] 7 rfl)
          refine ⟨HS, ?_⟩
          refine h_all (r := 7) (rs := []) (by kernel_rfl) ⟨h_op (ls' := [true, true, true, true, true, true, true, true, false, true, false]) rfl rfl ?_, trivial⟩
          refine r_appendS (L' := fun A17 c18 => row 4 1 (.slice A17 live.length c18) live.length (bools live) :: blk b15 (.cells #[.slice none 0 0, .slice none 0 0] 40) :: row 25 1 (.slice A6 vals.length c7) vals.length (u64s vals) :: blk b4 (.cells #[.slice none 0 0, .slice none 0 0] 40) :: blk b3 (.cells #[.slice Av vals.length cv, .slice Al live.length cl] 40) :: blk b2 (.cells #[.int .i64 ((m : Nat) : Int), .slice A es.length c] 35) :: blk b1 (.cells #[.int .i64 k, .int .u32 ((s : Nat) : Int)] 24) :: fr) (xs' := bools live) 0 S H rfl rfl rfl rfl el38 (((((((okl.more _).more _).more _).more _).more _).more _).more _) (one_bools _) (by simp only [maxLen]; first | omega | (simp <;> omega)) (by first | omega | (simp <;> omega)) (List.nil_append _) (by first | omega | (simp <;> omega)) (fun _ _ => rfl) rfl rfl rfl fun a w A17 c18 hA17 S H => ?_
          refine r_nil ?_
          refine x_then ?_
          have HS : Sat _ (blk b4 (.cells #[.slice none 0 0, .slice none 0 0] 40) :: blk b3 (.cells #[.slice Av vals.length cv, .slice Al live.length cl] 40) :: blk b2 (.cells #[.int .i64 ((m : Nat) : Int), .slice A es.length c] 35) :: blk b1 (.cells #[.int .i64 k, .int .u32 ((s : Nat) : Int)] 24) :: fr) := (H.pick [3, 4, 5, 6] 7 rfl)
          refine ⟨HS, ?_⟩
          refine h_y 8 S HS rfl (y_build (vs := #[(0, .slice A6 vals.length c7), (1, .slice A17 live.length c18)]) (v := .agg #[.slice A6 vals.length c7, .slice A17 live.length c18]) S rfl rfl (fun w => by kernel_rfl)) rfl rfl rfl (by kernel_rfl) (by kernel_rfl) (by kernel_rfl) (ls' := [true, true, true, true, true, true, true, true, true, true, false]) rfl (fun _ _ _ h => h) fun a S => ?_
          refine h_all (r := 10) (rs := []) (by kernel_rfl) ⟨h_op (ls' := [true, true, true, true, true, true, true, true, true, true, true]) rfl rfl ?_, trivial⟩
          refine r_store (vs := [.slice A6 vals.length c7, .slice A17 live.length c18]) 1 S H rfl rfl rfl rfl Try.sizeOf40 rfl rfl (by simp [Value.oneCell']) rfl rfl rfl rfl rfl fun w H => ?_
          refine r_nil ?_
          refine x_then ?_
          have HS : Sat _ (blk b4 (.cells #[.slice none 0 0, .slice none 0 0] 40) :: blk b3 (.cells #[.slice Av vals.length cv, .slice Al live.length cl] 40) :: blk b2 (.cells #[.int .i64 ((m : Nat) : Int), .slice A es.length c] 35) :: blk b1 (.cells #[.int .i64 k, .int .u32 ((s : Nat) : Int)] 24) :: fr) := (H.pick [3, 4, 5, 6] 7 rfl)
          refine ⟨HS, ?_⟩
          refine h_done (by kernel_rfl) ?_
          refine x_then ?_
          exact ⟨_, _, _, _, _, S.sub ⟨rfl, rfl, rfl, rfl, rfl, rfl, rfl, rfl, trivial⟩, (H.pick [1, 0, 2, 3, 4, 5, 6] 7 rfl)⟩
      · skip
        refine r_lit (vs := #[]) (cs := bools []) S H rfl rfl el38 (by kernel_rfl) (by decide) (by rfl) rfl rfl rfl fun a w b19 S H => ?_
        refine r_nil ?_
        refine x_then ?_
        have HS : Sat _ (blk b4 (.cells #[.slice none 0 0, .slice none 0 0] 40) :: blk b3 (.cells #[.slice Av vals.length cv, .slice Al live.length cl] 40) :: blk b2 (.cells #[.int .i64 ((m : Nat) : Int), .slice A es.length c] 35) :: blk b1 (.cells #[.int .i64 k, .int .u32 ((s : Nat) : Int)] 24) :: fr) := (H.pick [2, 3, 4, 5] 6 rfl)
        refine ⟨HS, ?_⟩
        refine h_all (r := 3) (rs := [9]) (by kernel_rfl) ⟨h_op (ls' := [true, true, true, true, true, true, true, false, false, false, false]) rfl rfl ?_, h_op (ls' := [true, true, true, false, true, true, true, false, false, true, false]) rfl rfl ?_, trivial⟩
        · skip
          refine r_appendS (L' := fun A20 c21 => row 4 1 (.slice (some ⟨b19, 0, none⟩) 0 0) 0 (bools []) :: row 25 1 (.slice A20 vals.length c21) vals.length (u64s vals) :: blk b4 (.cells #[.slice none 0 0, .slice none 0 0] 40) :: blk b3 (.cells #[.slice Av vals.length cv, .slice Al live.length cl] 40) :: blk b2 (.cells #[.int .i64 ((m : Nat) : Int), .slice A es.length c] 35) :: blk b1 (.cells #[.int .i64 k, .int .u32 ((s : Nat) : Int)] 24) :: fr) (xs' := u64s vals) 1 S H rfl rfl rfl rfl el37 ((((((okv.more _).more _).more _).more _).more _).more _) (one_u64s _) (by simp only [maxLen]; first | omega | (simp <;> omega)) (by first | omega | (simp <;> omega)) (List.nil_append _) (by first | omega | (simp <;> omega)) (fun _ _ => rfl) rfl rfl rfl fun a w A20 c21 hA20 S H => ?_
          refine r_nil ?_
          refine x_then ?_
          have HS : Sat _ (blk b4 (.cells #[.slice none 0 0, .slice none 0 0] 40) :: blk b3 (.cells #[.slice Av vals.length cv, .slice Al live.length cl] 40) :: blk b2 (.cells #[.int .i64 ((m : Nat) : Int), .slice A es.length c] 35) :: blk b1 (.cells #[.int .i64 k, .int .u32 ((s : Nat) : Int)] 24) :: fr) := (H.pick [2, 3, 4, 5] 6 rfl)
          refine ⟨HS, ?_⟩
          refine h_all (r := 7) (rs := [9]) (by kernel_rfl) ⟨h_op (ls' := [true, true, true, true, true, true, true, true, false, false, false]) rfl rfl ?_, h_op (ls' := [true, true, true, true, true, true, true, false, false, true, false]) rfl rfl ?_, trivial⟩
          · skip
            refine r_appendS (L' := fun A22 c23 => row 4 1 (.slice A22 live.length c23) live.length (bools live) :: row 25 1 (.slice A20 vals.length c21) vals.length (u64s vals) :: blk b4 (.cells #[.slice none 0 0, .slice none 0 0] 40) :: blk b3 (.cells #[.slice Av vals.length cv, .slice Al live.length cl] 40) :: blk b2 (.cells #[.int .i64 ((m : Nat) : Int), .slice A es.length c] 35) :: blk b1 (.cells #[.int .i64 k, .int .u32 ((s : Nat) : Int)] 24) :: fr) (xs' := bools live) 0 S H rfl rfl rfl rfl el38 ((((((okl.more _).more _).more _).more _).more _).more _) (one_bools _) (by simp only [maxLen]; first | omega | (simp <;> omega)) (by first | omega | (simp <;> omega)) (List.nil_append _) (by first | omega | (simp <;> omega)) (fun _ _ => rfl) rfl rfl rfl fun a w A22 c23 hA22 S H => ?_
            refine r_nil ?_
            refine x_then ?_
            have HS : Sat _ (blk b4 (.cells #[.slice none 0 0, .slice none 0 0] 40) :: blk b3 (.cells #[.slice Av vals.length cv, .slice Al live.length cl] 40) :: blk b2 (.cells #[.int .i64 ((m : Nat) : Int), .slice A es.length c] 35) :: blk b1 (.cells #[.int .i64 k, .int .u32 ((s : Nat) : Int)] 24) :: fr) := (H.pick [2, 3, 4, 5] 6 rfl)
            refine ⟨HS, ?_⟩
            refine h_y 8 S HS rfl (y_build (vs := #[(0, .slice A20 vals.length c21), (1, .slice A22 live.length c23)]) (v := .agg #[.slice A20 vals.length c21, .slice A22 live.length c23]) S rfl rfl (fun w => by kernel_rfl)) rfl rfl rfl (by kernel_rfl) (by kernel_rfl) (by kernel_rfl) (ls' := [true, true, true, true, true, true, true, true, true, false, false]) rfl (fun _ _ _ h => h) fun a S => ?_
            refine h_all (r := 9) (rs := []) (by kernel_rfl) ⟨h_op (ls' := [true, true, true, true, true, true, true, true, true, true, false]) rfl rfl ?_, trivial⟩
            refine r_alloc S H rfl Try.zeroValue40 rfl rfl rfl rfl fun a w b24 S H => ?_
            refine r_nil ?_
            refine x_then ?_
            have HS : Sat _ (blk b4 (.cells #[.slice none 0 0, .slice none 0 0] 40) :: blk b3 (.cells #[.slice Av vals.length cv, .slice Al live.length cl] 40) :: blk b2 (.cells #[.int .i64 ((m : Nat) : Int), .slice A es.length c] 35) :: blk b1 (.cells #[.int .i64 k, .int .u32 ((s : Nat) : Int)] 24) :: fr) := (H.pick [3, 4, 5, 6] 7 rfl)
            refine ⟨HS, ?_⟩
            refine h_all (r := 10) (rs := []) (by kernel_rfl) ⟨h_op (ls' := [true, true, true, true, true, true, true, true, true, true, true]) rfl rfl ?_, trivial⟩
            refine r_store (vs := [.slice A20 vals.length c21, .slice A22 live.length c23]) 0 S H rfl rfl rfl rfl Try.sizeOf40 rfl rfl (by simp [Value.oneCell']) rfl rfl rfl rfl rfl fun w H => ?_
            refine r_nil ?_
            refine x_then ?_
            have HS : Sat _ (blk b4 (.cells #[.slice none 0 0, .slice none 0 0] 40) :: blk b3 (.cells #[.slice Av vals.length cv, .slice Al live.length cl] 40) :: blk b2 (.cells #[.int .i64 ((m : Nat) : Int), .slice A es.length c] 35) :: blk b1 (.cells #[.int .i64 k, .int .u32 ((s : Nat) : Int)] 24) :: fr) := (H.pick [3, 4, 5, 6] 7 rfl)
            refine ⟨HS, ?_⟩
            refine h_done (by kernel_rfl) ?_
            refine x_then ?_
            exact ⟨_, _, _, _, _, S.sub ⟨rfl, rfl, rfl, rfl, rfl, rfl, rfl, rfl, trivial⟩, H⟩
          · skip
            refine r_alloc S H rfl Try.zeroValue40 rfl rfl rfl rfl fun a w b25 S H => ?_
            refine r_nil ?_
            refine x_then ?_
            have HS : Sat _ (blk b4 (.cells #[.slice none 0 0, .slice none 0 0] 40) :: blk b3 (.cells #[.slice Av vals.length cv, .slice Al live.length cl] 40) :: blk b2 (.cells #[.int .i64 ((m : Nat) : Int), .slice A es.length c] 35) :: blk b1 (.cells #[.int .i64 k, .int .u32 ((s : Nat) : Int)] 24) :: fr) := (H.pick [3, 4, 5, 6] 7 rfl)
            refine ⟨HS, ?_⟩
            refine h_all (r := 7) (rs := []) (by kernel_rfl) ⟨h_op (ls' := [true, true, true, true, true, true, true, true, false, true, false]) rfl rfl ?_, trivial⟩
            refine r_appendS (L' := fun A26 c27 => blk b25 (.cells #[.slice none 0 0, .slice none 0 0] 40) :: row 4 1 (.slice A26 live.length c27) live.length (bools live) :: row 25 1 (.slice A20 vals.length c21) vals.length (u64s vals) :: blk b4 (.cells #[.slice none 0 0, .slice none 0 0] 40) :: blk b3 (.cells #[.slice Av vals.length cv, .slice Al live.length cl] 40) :: blk b2 (.cells #[.int .i64 ((m : Nat) : Int), .slice A es.length c] 35) :: blk b1 (.cells #[.int .i64 k, .int .u32 ((s : Nat) : Int)] 24) :: fr) (xs' := bools live) 1 S H rfl rfl rfl rfl el38 (((((((okl.more _).more _).more _).more _).more _).more _).more _) (one_bools _) (by simp only [maxLen]; first | omega | (simp <;> omega)) (by first | omega | (simp <;> omega)) (List.nil_append _) (by first | omega | (simp <;> omega)) (fun _ _ => rfl) rfl rfl rfl fun a w A26 c27 hA26 S H => ?_
            refine r_nil ?_
            refine x_then ?_
            have HS : Sat _ (blk b4 (.cells #[.slice none 0 0, .slice none 0 0] 40) :: blk b3 (.cells #[.slice Av vals.length cv, .slice Al live.length cl] 40) :: blk b2 (.cells #[.int .i64 ((m : Nat) : Int), .slice A es.length c] 35) :: blk b1 (.cells #[.int .i64 k, .int .u32 ((s : Nat) : Int)] 24) :: fr) := (H.pick [3, 4, 5, 6] 7 rfl)
            refine ⟨HS, ?_⟩
            refine h_y 8 S HS rfl (y_build (vs := #[(0, .slice A20 vals.length c21), (1, .slice A26 live.length c27)]) (v := .agg #[.slice A20 vals.length c21, .slice A26 live.length c27]) S rfl rfl (fun w => by kernel_rfl)) rfl rfl rfl (by kernel_rfl) (by kernel_rfl) (by kernel_rfl) (ls' := [true, true, true, true, true, true, true, true, true, true, false]) rfl (fun _ _ _ h => h) fun a S => ?_
            refine h_all (r := 10) (rs := []) (by kernel_rfl) ⟨h_op (ls' := [true, true, true, true, true, true, true, true, true, true, true]) rfl rfl ?_, trivial⟩
            refine r_store (vs := [.slice A20 vals.length c21, .slice A26 live.length c27]) 0 S H rfl rfl rfl rfl Try.sizeOf40 rfl rfl (by simp [Value.oneCell']) rfl rfl rfl rfl rfl fun w H => ?_
            refine r_nil ?_
            refine x_then ?_
            have HS : Sat _ (blk b4 (.cells #[.slice none 0 0, .slice none 0 0] 40) :: blk b3 (.cells #[.slice Av vals.length cv, .slice Al live.length cl] 40) :: blk b2 (.cells #[.int .i64 ((m : Nat) : Int), .slice A es.length c] 35) :: blk b1 (.cells #[.int .i64 k, .int .u32 ((s : Nat) : Int)] 24) :: fr) := (H.pick [3, 4, 5, 6] 7 rfl)
            refine ⟨HS, ?_⟩
            refine h_done (by kernel_rfl) ?_
            refine x_then ?_
            exact ⟨_, _, _, _, _, S.sub ⟨rfl, rfl, rfl, rfl, rfl, rfl, rfl, rfl, trivial⟩, H⟩
        · skip
          refine r_alloc S H rfl Try.zeroValue40 rfl rfl rfl rfl fun a w b28 S H => ?_
          refine r_nil ?_
          refine x_then ?_
          have HS : Sat _ (blk b4 (.cells #[.slice none 0 0, .slice none 0 0] 40) :: blk b3 (.cells #[.slice Av vals.length cv, .slice Al live.length cl] 40) :: blk b2 (.cells #[.int .i64 ((m : Nat) : Int), .slice A es.length c] 35) :: blk b1 (.cells #[.int .i64 k, .int .u32 ((s : Nat) : Int)] 24) :: fr) := (H.pick [3, 4, 5, 6] 7 rfl)
          refine ⟨HS, ?_⟩
          refine h_all (r := 3) (rs := []) (by kernel_rfl) ⟨h_op (ls' := [true, true, true, true, true, true, true, false, false, true, false]) rfl rfl ?_, trivial⟩
          refine r_appendS (L' := fun A29 c30 => blk b28 (.cells #[.slice none 0 0, .slice none 0 0] 40) :: row 4 1 (.slice (some ⟨b19, 0, none⟩) 0 0) 0 (bools []) :: row 25 1 (.slice A29 vals.length c30) vals.length (u64s vals) :: blk b4 (.cells #[.slice none 0 0, .slice none 0 0] 40) :: blk b3 (.cells #[.slice Av vals.length cv, .slice Al live.length cl] 40) :: blk b2 (.cells #[.int .i64 ((m : Nat) : Int), .slice A es.length c] 35) :: blk b1 (.cells #[.int .i64 k, .int .u32 ((s : Nat) : Int)] 24) :: fr) (xs' := u64s vals) 2 S H rfl rfl rfl rfl el37 (((((((okv.more _).more _).more _).more _).more _).more _).more _) (one_u64s _) (by simp only [maxLen]; first | omega | (simp <;> omega)) (by first | omega | (simp <;> omega)) (List.nil_append _) (by first | omega | (simp <;> omega)) (fun _ _ => rfl) rfl rfl rfl fun a w A29 c30 hA29 S H => ?_
          refine r_nil ?_
          refine x_then ?_
          have HS : Sat _ (blk b4 (.cells #[.slice none 0 0, .slice none 0 0] 40) :: blk b3 (.cells #[.slice Av vals.length cv, .slice Al live.length cl] 40) :: blk b2 (.cells #[.int .i64 ((m : Nat) : Int), .slice A es.length c] 35) :: blk b1 (.cells #[.int .i64 k, .int .u32 ((s : Nat) : Int)] 24) :: fr) := (H.pick [3, 4, 5, 6] 7 rfl)
          refine ⟨HS, ?_⟩
          refine h_all (r := 7) (rs := []) (by kernel_rfl) ⟨h_op (ls' := [true, true, true, true, true, true, true, true, false, true, false]) rfl rfl ?_, trivial⟩
          refine r_appendS (L' := fun A31 c32 => blk b28 (.cells #[.slice none 0 0, .slice none 0 0] 40) :: row 4 1 (.slice A31 live.length c32) live.length (bools live) :: row 25 1 (.slice A29 vals.length c30) vals.length (u64s vals) :: blk b4 (.cells #[.slice none 0 0, .slice none 0 0] 40) :: blk b3 (.cells #[.slice Av vals.length cv, .slice Al live.length cl] 40) :: blk b2 (.cells #[.int .i64 ((m : Nat) : Int), .slice A es.length c] 35) :: blk b1 (.cells #[.int .i64 k, .int .u32 ((s : Nat) : Int)] 24) :: fr) (xs' := bools live) 1 S H rfl rfl rfl rfl el38 (((((((okl.more _).more _).more _).more _).more _).more _).more _) (one_bools _) (by simp only [maxLen]; first | omega | (simp <;> omega)) (by first | omega | (simp <;> omega)) (List.nil_append _) (by first | omega | (simp <;> omega)) (fun _ _ => rfl) rfl rfl rfl fun a w A31 c32 hA31 S H => ?_
          refine r_nil ?_
          refine x_then ?_
          have HS : Sat _ (blk b4 (.cells #[.slice none 0 0, .slice none 0 0] 40) :: blk b3 (.cells #[.slice Av vals.length cv, .slice Al live.length cl] 40) :: blk b2 (.cells #[.int .i64 ((m : Nat) : Int), .slice A es.length c] 35) :: blk b1 (.cells #[.int .i64 k, .int .u32 ((s : Nat) : Int)] 24) :: fr) := (H.pick [3, 4, 5, 6] 7 rfl)
          refine ⟨HS, ?_⟩
          refine h_y 8 S HS rfl (y_build (vs := #[(0, .slice A29 vals.length c30), (1, .slice A31 live.length c32)]) (v := .agg #[.slice A29 vals.length c30, .slice A31 live.length c32]) S rfl rfl (fun w => by kernel_rfl)) rfl rfl rfl (by kernel_rfl) (by kernel_rfl) (by kernel_rfl) (ls' := [true, true, true, true, true, true, true, true, true, true, false]) rfl (fun _ _ _ h => h) fun a S => ?_
          refine h_all (r := 10) (rs := []) (by kernel_rfl) ⟨h_op (ls' := [true, true, true, true, true, true, true, true, true, true, true]) rfl rfl ?_, trivial⟩
          refine r_store (vs := [.slice A29 vals.length c30, .slice A31 live.length c32]) 0 S H rfl rfl rfl rfl Try.sizeOf40 rfl rfl (by simp [Value.oneCell']) rfl rfl rfl rfl rfl fun w H => ?_
          refine r_nil ?_
          refine x_then ?_
          have HS : Sat _ (blk b4 (.cells #[.slice none 0 0, .slice none 0 0] 40) :: blk b3 (.cells #[.slice Av vals.length cv, .slice Al live.length cl] 40) :: blk b2 (.cells #[.int .i64 ((m : Nat) : Int), .slice A es.length c] 35) :: blk b1 (.cells #[.int .i64 k, .int .u32 ((s : Nat) : Int)] 24) :: fr) := (H.pick [3, 4, 5, 6] 7 rfl)
          refine ⟨HS, ?_⟩
          refine h_done (by kernel_rfl) ?_
          refine x_then ?_
          exact ⟨_, _, _, _, _, S.sub ⟨rfl, rfl, rfl, rfl, rfl, rfl, rfl, rfl, trivial⟩, H⟩
      · skip
        refine r_alloc S H rfl Try.zeroValue40 rfl rfl rfl rfl fun a w b33 S H => ?_
        refine r_nil ?_
        refine x_then ?_
        have HS : Sat _ (blk b4 (.cells #[.slice none 0 0, .slice none 0 0] 40) :: blk b3 (.cells #[.slice Av vals.length cv, .slice Al live.length cl] 40) :: blk b2 (.cells #[.int .i64 ((m : Nat) : Int), .slice A es.length c] 35) :: blk b1 (.cells #[.int .i64 k, .int .u32 ((s : Nat) : Int)] 24) :: fr) := (H.pick [2, 3, 4, 5] 6 rfl)
        refine ⟨HS, ?_⟩
        refine h_all (r := 3) (rs := [4]) (by kernel_rfl) ⟨h_op (ls' := [true, true, true, true, false, true, true, false, false, true, false]) rfl rfl ?_, h_op (ls' := [true, true, true, false, true, true, true, false, false, true, false]) rfl rfl ?_, trivial⟩
        · skip
          refine r_appendS (L' := fun A34 c35 => blk b33 (.cells #[.slice none 0 0, .slice none 0 0] 40) :: row 25 1 (.slice A34 vals.length c35) vals.length (u64s vals) :: blk b4 (.cells #[.slice none 0 0, .slice none 0 0] 40) :: blk b3 (.cells #[.slice Av vals.length cv, .slice Al live.length cl] 40) :: blk b2 (.cells #[.int .i64 ((m : Nat) : Int), .slice A es.length c] 35) :: blk b1 (.cells #[.int .i64 k, .int .u32 ((s : Nat) : Int)] 24) :: fr) (xs' := u64s vals) 1 S H rfl rfl rfl rfl el37 ((((((okv.more _).more _).more _).more _).more _).more _) (one_u64s _) (by simp only [maxLen]; first | omega | (simp <;> omega)) (by first | omega | (simp <;> omega)) (List.nil_append _) (by first | omega | (simp <;> omega)) (fun _ _ => rfl) rfl rfl rfl fun a w A34 c35 hA34 S H => ?_
          refine r_nil ?_
          refine x_then ?_
          have HS : Sat _ (blk b4 (.cells #[.slice none 0 0, .slice none 0 0] 40) :: blk b3 (.cells #[.slice Av vals.length cv, .slice Al live.length cl] 40) :: blk b2 (.cells #[.int .i64 ((m : Nat) : Int), .slice A es.length c] 35) :: blk b1 (.cells #[.int .i64 k, .int .u32 ((s : Nat) : Int)] 24) :: fr) := (H.pick [2, 3, 4, 5] 6 rfl)
          refine ⟨HS, ?_⟩
          refine h_all (r := 4) (rs := []) (by kernel_rfl) ⟨h_op (ls' := [true, true, true, true, true, true, true, false, false, true, false]) rfl rfl ?_, trivial⟩
          refine r_lit (vs := #[]) (cs := bools []) S H rfl rfl el38 (by kernel_rfl) (by decide) (by rfl) rfl rfl rfl fun a w b36 S H => ?_
          refine r_nil ?_
          refine x_then ?_
          have HS : Sat _ (blk b4 (.cells #[.slice none 0 0, .slice none 0 0] 40) :: blk b3 (.cells #[.slice Av vals.length cv, .slice Al live.length cl] 40) :: blk b2 (.cells #[.int .i64 ((m : Nat) : Int), .slice A es.length c] 35) :: blk b1 (.cells #[.int .i64 k, .int .u32 ((s : Nat) : Int)] 24) :: fr) := (H.pick [3, 4, 5, 6] 7 rfl)
          refine ⟨HS, ?_⟩
          refine h_all (r := 7) (rs := []) (by kernel_rfl) ⟨h_op (ls' := [true, true, true, true, true, true, true, true, false, true, false]) rfl rfl ?_, trivial⟩
          refine r_appendS (L' := fun A37 c38 => row 4 1 (.slice A37 live.length c38) live.length (bools live) :: blk b33 (.cells #[.slice none 0 0, .slice none 0 0] 40) :: row 25 1 (.slice A34 vals.length c35) vals.length (u64s vals) :: blk b4 (.cells #[.slice none 0 0, .slice none 0 0] 40) :: blk b3 (.cells #[.slice Av vals.length cv, .slice Al live.length cl] 40) :: blk b2 (.cells #[.int .i64 ((m : Nat) : Int), .slice A es.length c] 35) :: blk b1 (.cells #[.int .i64 k, .int .u32 ((s : Nat) : Int)] 24) :: fr) (xs' := bools live) 0 S H rfl rfl rfl rfl el38 (((((((okl.more _).more _).more _).more _).more _).more _).more _) (one_bools _) (by simp only [maxLen]; first | omega | (simp <;> omega)) (by first | omega | (simp <;> omega)) (List.nil_append _) (by first | omega | (simp <;> omega)) (fun _ _ => rfl) rfl rfl rfl fun a w A37 c38 hA37 S H => ?_
          refine r_nil ?_
          refine x_then ?_
          have HS : Sat _ (blk b4 (.cells #[.slice none 0 0, .slice none 0 0] 40) :: blk b3 (.cells #[.slice Av vals.length cv, .slice Al live.length cl] 40) :: blk b2 (.cells #[.int .i64 ((m : Nat) : Int), .slice A es.length c] 35) :: blk b1 (.cells #[.int .i64 k, .int .u32 ((s : Nat) : Int)] 24) :: fr) := (H.pick [3, 4, 5, 6] 7 rfl)
          refine ⟨HS, ?_⟩
          refine h_y 8 S HS rfl (y_build (vs := #[(0, .slice A34 vals.length c35), (1, .slice A37 live.length c38)]) (v := .agg #[.slice A34 vals.length c35, .slice A37 live.length c38]) S rfl rfl (fun w => by kernel_rfl)) rfl rfl rfl (by kernel_rfl) (by kernel_rfl) (by kernel_rfl) (ls' := [true, true, true, true, true, true, true, true, true, true, false]) rfl (fun _ _ _ h => h) fun a S => ?_
          refine h_all (r := 10) (rs := []) (by kernel_rfl) ⟨h_op (ls' := [true, true, true, true, true, true, true, true, true, true, true]) rfl rfl ?_, trivial⟩
          refine r_store (vs := [.slice A34 vals.length c35, .slice A37 live.length c38]) 1 S H rfl rfl rfl rfl Try.sizeOf40 rfl rfl (by simp [Value.oneCell']) rfl rfl rfl rfl rfl fun w H => ?_
          refine r_nil ?_
          refine x_then ?_
          have HS : Sat _ (blk b4 (.cells #[.slice none 0 0, .slice none 0 0] 40) :: blk b3 (.cells #[.slice Av vals.length cv, .slice Al live.length cl] 40) :: blk b2 (.cells #[.int .i64 ((m : Nat) : Int), .slice A es.length c] 35) :: blk b1 (.cells #[.int .i64 k, .int .u32 ((s : Nat) : Int)] 24) :: fr) := (H.pick [3, 4, 5, 6] 7 rfl)
          refine ⟨HS, ?_⟩
          refine h_done (by kernel_rfl) ?_
          refine x_then ?_
          exact ⟨_, _, _, _, _, S.sub ⟨rfl, rfl, rfl, rfl, rfl, rfl, rfl, rfl, trivial⟩, (H.pick [1, 0, 2, 3, 4, 5, 6] 7 rfl)⟩
        · skip
          refine r_lit (vs := #[]) (cs := bools []) S H rfl rfl el38 (by kernel_rfl) (by decide) (by rfl) rfl rfl rfl fun a w b39 S H => ?_
          refine r_nil ?_
          refine x_then ?_
          have HS : Sat _ (blk b4 (.cells #[.slice none 0 0, .slice none 0 0] 40) :: blk b3 (.cells #[.slice Av vals.length cv, .slice Al live.length cl] 40) :: blk b2 (.cells #[.int .i64 ((m : Nat) : Int), .slice A es.length c] 35) :: blk b1 (.cells #[.int .i64 k, .int .u32 ((s : Nat) : Int)] 24) :: fr) := (H.pick [3, 4, 5, 6] 7 rfl)
          refine ⟨HS, ?_⟩
          refine h_all (r := 3) (rs := []) (by kernel_rfl) ⟨h_op (ls' := [true, true, true, true, true, true, true, false, false, true, false]) rfl rfl ?_, trivial⟩
          refine r_appendS (L' := fun A40 c41 => row 4 1 (.slice (some ⟨b39, 0, none⟩) 0 0) 0 (bools []) :: blk b33 (.cells #[.slice none 0 0, .slice none 0 0] 40) :: row 25 1 (.slice A40 vals.length c41) vals.length (u64s vals) :: blk b4 (.cells #[.slice none 0 0, .slice none 0 0] 40) :: blk b3 (.cells #[.slice Av vals.length cv, .slice Al live.length cl] 40) :: blk b2 (.cells #[.int .i64 ((m : Nat) : Int), .slice A es.length c] 35) :: blk b1 (.cells #[.int .i64 k, .int .u32 ((s : Nat) : Int)] 24) :: fr) (xs' := u64s vals) 2 S H rfl rfl rfl rfl el37 (((((((okv.more _).more _).more _).more _).more _).more _).more _) (one_u64s _) (by simp only [maxLen]; first | omega | (simp <;> omega)) (by first | omega | (simp <;> omega)) (List.nil_append _) (by first | omega | (simp <;> omega)) (fun _ _ => rfl) rfl rfl rfl fun a w A40 c41 hA40 S H => ?_
          refine r_nil ?_
          refine x_then ?_
          have HS : Sat _ (blk b4 (.cells #[.slice none 0 0, .slice none 0 0] 40) :: blk b3 (.cells #[.slice Av vals.length cv, .slice Al live.length cl] 40) :: blk b2 (.cells #[.int .i64 ((m : Nat) : Int), .slice A es.length c] 35) :: blk b1 (.cells #[.int .i64 k, .int .u32 ((s : Nat) : Int)] 24) :: fr) := (H.pick [3, 4, 5, 6] 7 rfl)
          refine ⟨HS, ?_⟩
          refine h_all (r := 7) (rs := []) (by kernel_rfl) ⟨h_op (ls' := [true, true, true, true, true, true, true, true, false, true, false]) rfl rfl ?_, trivial⟩
          refine r_appendS (L' := fun A42 c43 => row 4 1 (.slice A42 live.length c43) live.length (bools live) :: blk b33 (.cells #[.slice none 0 0, .slice none 0 0] 40) :: row 25 1 (.slice A40 vals.length c41) vals.length (u64s vals) :: blk b4 (.cells #[.slice none 0 0, .slice none 0 0] 40) :: blk b3 (.cells #[.slice Av vals.length cv, .slice Al live.length cl] 40) :: blk b2 (.cells #[.int .i64 ((m : Nat) : Int), .slice A es.length c] 35) :: blk b1 (.cells #[.int .i64 k, .int .u32 ((s : Nat) : Int)] 24) :: fr) (xs' := bools live) 0 S H rfl rfl rfl rfl el38 (((((((okl.more _).more _).more _).more _).more _).more _).more _) (one_bools _) (by simp only [maxLen]; first | omega | (simp <;> omega)) (by first | omega | (simp <;> omega)) (List.nil_append _) (by first | omega | (simp <;> omega)) (fun _ _ => rfl) rfl rfl rfl fun a w A42 c43 hA42 S H => ?_
          refine r_nil ?_
          refine x_then ?_
          have HS : Sat _ (blk b4 (.cells #[.slice none 0 0, .slice none 0 0] 40) :: blk b3 (.cells #[.slice Av vals.length cv, .slice Al live.length cl] 40) :: blk b2 (.cells #[.int .i64 ((m : Nat) : Int), .slice A es.length c] 35) :: blk b1 (.cells #[.int .i64 k, .int .u32 ((s : Nat) : Int)] 24) :: fr) := (H.pick [3, 4, 5, 6] 7 rfl)
          refine ⟨HS, ?_⟩
          refine h_y 8 S HS rfl (y_build (vs := #[(0, .slice A40 vals.length c41), (1, .slice A42 live.length c43)]) (v := .agg #[.slice A40 vals.length c41, .slice A42 live.length c43]) S rfl rfl (fun w => by kernel_rfl)) rfl rfl rfl (by kernel_rfl) (by kernel_rfl) (by kernel_rfl) (ls' := [true, true, true, true, true, true, true, true, true, true, false]) rfl (fun _ _ _ h => h) fun a S => ?_
          refine h_all (r := 10) (rs := []) (by kernel_rfl) ⟨h_op (ls' := [true, true, true, true, true, true, true, true, true, true, true]) rfl rfl ?_, trivial⟩
          refine r_store (vs := [.slice A40 vals.length c41, .slice A42 live.length c43]) 1 S H rfl rfl rfl rfl Try.sizeOf40 rfl rfl (by simp [Value.oneCell']) rfl rfl rfl rfl rfl fun w H => ?_
          refine r_nil ?_
          refine x_then ?_
          have HS : Sat _ (blk b4 (.cells #[.slice none 0 0, .slice none 0 0] 40) :: blk b3 (.cells #[.slice Av vals.length cv, .slice Al live.length cl] 40) :: blk b2 (.cells #[.int .i64 ((m : Nat) : Int), .slice A es.length c] 35) :: blk b1 (.cells #[.int .i64 k, .int .u32 ((s : Nat) : Int)] 24) :: fr) := (H.pick [3, 4, 5, 6] 7 rfl)
          refine ⟨HS, ?_⟩
          refine h_done (by kernel_rfl) ?_
          refine x_then ?_
          exact ⟨_, _, _, _, _, S.sub ⟨rfl, rfl, rfl, rfl, rfl, rfl, rfl, rfl, trivial⟩, (H.pick [1, 0, 2, 3, 4, 5, 6] 7 rfl)⟩
    · skip
      refine r_lit (vs := #[]) (cs := bools []) S H rfl rfl el38 (by kernel_rfl) (by decide) (by rfl) rfl rfl rfl fun a w b44 S H => ?_
      refine r_nil ?_
      refine x_then ?_
      have HS : Sat _ (blk b4 (.cells #[.slice none 0 0, .slice none 0 0] 40) :: blk b3 (.cells #[.slice Av vals.length cv, .slice Al live.length cl] 40) :: blk b2 (.cells #[.int .i64 ((m : Nat) : Int), .slice A es.length c] 35) :: blk b1 (.cells #[.int .i64 k, .int .u32 ((s : Nat) : Int)] 24) :: fr) := (H.pick [1, 2, 3, 4] 5 rfl)
      refine ⟨HS, ?_⟩
      refine h_all (r := 0) (rs := [9]) (by kernel_rfl) ⟨h_op (ls' := [true, true, true, false, true, true, true, false, false, false, false]) rfl rfl ?_, h_op (ls' := [false, true, true, false, true, true, true, false, false, true, false]) rfl rfl ?_, trivial⟩
      · skip
        refine r_lit (vs := #[]) (cs := u64s []) S H rfl rfl el37 (by kernel_rfl) (by decide) (by rfl) rfl rfl rfl fun a w b45 S H => ?_
        refine r_nil ?_
        refine x_then ?_
        have HS : Sat _ (blk b4 (.cells #[.slice none 0 0, .slice none 0 0] 40) :: blk b3 (.cells #[.slice Av vals.length cv, .slice Al live.length cl] 40) :: blk b2 (.cells #[.int .i64 ((m : Nat) : Int), .slice A es.length c] 35) :: blk b1 (.cells #[.int .i64 k, .int .u32 ((s : Nat) : Int)] 24) :: fr) := (H.pick [2, 3, 4, 5] 6 rfl)
        refine ⟨HS, ?_⟩
        refine h_all (r := 3) (rs := [9]) (by kernel_rfl) ⟨h_op (ls' := [true, true, true, true, true, true, true, false, false, false, false]) rfl rfl ?_, h_op (ls' := [true, true, true, false, true, true, true, false, false, true, false]) rfl rfl ?_, trivial⟩
        · skip
          refine r_appendS (L' := fun A46 c47 => row 25 1 (.slice A46 vals.length c47) vals.length (u64s vals) :: row 4 1 (.slice (some ⟨b44, 0, none⟩) 0 0) 0 (bools []) :: blk b4 (.cells #[.slice none 0 0, .slice none 0 0] 40) :: blk b3 (.cells #[.slice Av vals.length cv, .slice Al live.length cl] 40) :: blk b2 (.cells #[.int .i64 ((m : Nat) : Int), .slice A es.length c] 35) :: blk b1 (.cells #[.int .i64 k, .int .u32 ((s : Nat) : Int)] 24) :: fr) (xs' := u64s vals) 0 S H rfl rfl rfl rfl el37 ((((((okv.more _).more _).more _).more _).more _).more _) (one_u64s _) (by simp only [maxLen]; first | omega | (simp <;> omega)) (by first | omega | (simp <;> omega)) (List.nil_append _) (by first | omega | (simp <;> omega)) (fun _ _ => rfl) rfl rfl rfl fun a w A46 c47 hA46 S H => ?_
          refine r_nil ?_
          refine x_then ?_
          have HS : Sat _ (blk b4 (.cells #[.slice none 0 0, .slice none 0 0] 40) :: blk b3 (.cells #[.slice Av vals.length cv, .slice Al live.length cl] 40) :: blk b2 (.cells #[.int .i64 ((m : Nat) : Int), .slice A es.length c] 35) :: blk b1 (.cells #[.int .i64 k, .int .u32 ((s : Nat) : Int)] 24) :: fr) := (H.pick [2, 3, 4, 5] 6 rfl)
          refine ⟨HS, ?_⟩
          refine h_all (r := 7) (rs := [9]) (by kernel_rfl) ⟨h_op (ls' := [true, true, true, true, true, true, true, true, false, false, false]) rfl rfl ?_, h_op (ls' := [true, true, true, true, true, true, true, false, false, true, false]) rfl rfl ?_, trivial⟩
          · skip
            refine r_appendS (L' := fun A48 c49 => row 25 1 (.slice A46 vals.length c47) vals.length (u64s vals) :: row 4 1 (.slice A48 live.length c49) live.length (bools live) :: blk b4 (.cells #[.slice none 0 0, .slice none 0 0] 40) :: blk b3 (.cells #[.slice Av vals.length cv, .slice Al live.length cl] 40) :: blk b2 (.cells #[.int .i64 ((m : Nat) : Int), .slice A es.length c] 35) :: blk b1 (.cells #[.int .i64 k, .int .u32 ((s : Nat) : Int)] 24) :: fr) (xs' := bools live) 1 S H rfl rfl rfl rfl el38 ((((((okl.more _).more _).more _).more _).more _).more _) (one_bools _) (by simp only [maxLen]; first | omega | (simp <;> omega)) (by first | omega | (simp <;> omega)) (List.nil_append _) (by first | omega | (simp <;> omega)) (fun _ _ => rfl) rfl rfl rfl fun a w A48 c49 hA48 S H => ?_
            refine r_nil ?_
            refine x_then ?_
            have HS : Sat _ (blk b4 (.cells #[.slice none 0 0, .slice none 0 0] 40) :: blk b3 (.cells #[.slice Av vals.length cv, .slice Al live.length cl] 40) :: blk b2 (.cells #[.int .i64 ((m : Nat) : Int), .slice A es.length c] 35) :: blk b1 (.cells #[.int .i64 k, .int .u32 ((s : Nat) : Int)] 24) :: fr) := (H.pick [2, 3, 4, 5] 6 rfl)
            refine ⟨HS, ?_⟩
            refine h_y 8 S HS rfl (y_build (vs := #[(0, .slice A46 vals.length c47), (1, .slice A48 live.length c49)]) (v := .agg #[.slice A46 vals.length c47, .slice A48 live.length c49]) S rfl rfl (fun w => by kernel_rfl)) rfl rfl rfl (by kernel_rfl) (by kernel_rfl) (by kernel_rfl) (ls' := [true, true, true, true, true, true, true, true, true, false, false]) rfl (fun _ _ _ h => h) fun a S => ?_
            refine h_all (r := 9) (rs := []) (by kernel_rfl) ⟨h_op (ls' := [true, true, true, true, true, true, true, true, true, true, false]) rfl rfl ?_, trivial⟩
            refine r_alloc S H rfl Try.zeroValue40 rfl rfl rfl rfl fun a w b50 S H => ?_
            refine r_nil ?_
            refine x_then ?_
            have HS : Sat _ (blk b4 (.cells #[.slice none 0 0, .slice none 0 0] 40) :: blk b3 (.cells #[.slice Av vals.length cv, .slice Al live.length cl] 40) :: blk b2 (.cells #[.int .i64 ((m : Nat) : Int), .slice A es.length c] 35) :: blk b1 (.cells #[.int .i64 k, .int .u32 ((s : Nat) : Int)] 24) :: fr) := (H.pick [3, 4, 5, 6] 7 rfl)
            refine ⟨HS, ?_⟩
            refine h_all (r := 10) (rs := []) (by kernel_rfl) ⟨h_op (ls' := [true, true, true, true, true, true, true, true, true, true, true]) rfl rfl ?_, trivial⟩
            refine r_store (vs := [.slice A46 vals.length c47, .slice A48 live.length c49]) 0 S H rfl rfl rfl rfl Try.sizeOf40 rfl rfl (by simp [Value.oneCell']) rfl rfl rfl rfl rfl fun w H => ?_
            refine r_nil ?_
            refine x_then ?_
            have HS : Sat _ (blk b4 (.cells #[.slice none 0 0, .slice none 0 0] 40) :: blk b3 (.cells #[.slice Av vals.length cv, .slice Al live.length cl] 40) :: blk b2 (.cells #[.int .i64 ((m : Nat) : Int), .slice A es.length c] 35) :: blk b1 (.cells #[.int .i64 k, .int .u32 ((s : Nat) : Int)] 24) :: fr) := (H.pick [3, 4, 5, 6] 7 rfl)
            refine ⟨HS, ?_⟩
            refine h_done (by kernel_rfl) ?_
            refine x_then ?_
            exact ⟨_, _, _, _, _, S.sub ⟨rfl, rfl, rfl, rfl, rfl, rfl, rfl, rfl, trivial⟩, (H.pick [0, 2, 1, 3, 4, 5, 6] 7 rfl)⟩
          · skip
            refine r_alloc S H rfl Try.zeroValue40 rfl rfl rfl rfl fun a w b51 S H => ?_
            refine r_nil ?_
            refine x_then ?_
            have HS : Sat _ (blk b4 (.cells #[.slice none 0 0, .slice none 0 0] 40) :: blk b3 (.cells #[.slice Av vals.length cv, .slice Al live.length cl] 40) :: blk b2 (.cells #[.int .i64 ((m : Nat) : Int), .slice A es.length c] 35) :: blk b1 (.cells #[.int .i64 k, .int .u32 ((s : Nat) : Int)] 24) :: fr) := (H.pick [3, 4, 5, 6] 7 rfl)
            refine ⟨HS, ?_⟩
            refine h_all (r := 7) (rs := []) (by kernel_rfl) ⟨h_op (ls' := [true, true, true, true, true, true, true, true, false, true, false]) rfl rfl ?_, trivial⟩
            refine r_appendS (L' := fun A52 c53 => blk b51 (.cells #[.slice none 0 0, .slice none 0 0] 40) :: row 25 1 (.slice A46 vals.length c47) vals.length (u64s vals) :: row 4 1 (.slice A52 live.length c53) live.length (bools live) :: blk b4 (.cells #[.slice none 0 0, .slice none 0 0] 40) :: blk b3 (.cells #[.slice Av vals.length cv, .slice Al live.length cl] 40) :: blk b2 (.cells #[.int .i64 ((m : Nat) : Int), .slice A es.length c] 35) :: blk b1 (.cells #[.int .i64 k, .int .u32 ((s : Nat) : Int)] 24) :: fr) (xs' := bools live) 2 S H rfl rfl rfl rfl el38 (((((((okl.more _).more _).more _).more _).more _).more _).more _) (one_bools _) (by simp only [maxLen]; first | omega | (simp <;> omega)) (by first | omega | (simp <;> omega)) (List.nil_append _) (by first | omega | (simp <;> omega)) (fun _ _ => rfl) rfl rfl rfl fun a w A52 c53 hA52 S H => ?_
            refine r_nil ?_
            refine x_then ?_
            have HS : Sat _ (blk b4 (.cells #[.slice none 0 0, .slice none 0 0] 40) :: blk b3 (.cells #[.slice Av vals.length cv, .slice Al live.length cl] 40) :: blk b2 (.cells #[.int .i64 ((m : Nat) : Int), .slice A es.length c] 35) :: blk b1 (.cells #[.int .i64 k, .int .u32 ((s : Nat) : Int)] 24) :: fr) := (H.pick [3, 4, 5, 6] 7 rfl)
            refine ⟨HS, ?_⟩
            refine h_y 8 S HS rfl (y_build (vs := #[(0, .slice A46 vals.length c47), (1, .slice A52 live.length c53)]) (v := .agg #[.slice A46 vals.length c47, .slice A52 live.length c53]) S rfl rfl (fun w => by kernel_rfl)) rfl rfl rfl (by kernel_rfl) (by kernel_rfl) (by kernel_rfl) (ls' := [true, true, true, true, true, true, true, true, true, true, false]) rfl (fun _ _ _ h => h) fun a S => ?_
            refine h_all (r := 10) (rs := []) (by kernel_rfl) ⟨h_op (ls' := [true, true, true, true, true, true, true, true, true, true, true]) rfl rfl ?_, trivial⟩
            refine r_store (vs := [.slice A46 vals.length c47, .slice A52 live.length c53]) 0 S H rfl rfl rfl rfl Try.sizeOf40 rfl rfl (by simp [Value.oneCell']) rfl rfl rfl rfl rfl fun w H => ?_
            refine r_nil ?_
            refine x_then ?_
            have HS : Sat _ (blk b4 (.cells #[.slice none 0 0, .slice none 0 0] 40) :: blk b3 (.cells #[.slice Av vals.length cv, .slice Al live.length cl] 40) :: blk b2 (.cells #[.int .i64 ((m : Nat) : Int), .slice A es.length c] 35) :: blk b1 (.cells #[.int .i64 k, .int .u32 ((s : Nat) : Int)] 24) :: fr) := (H.pick [3, 4, 5, 6] 7 rfl)
            refine ⟨HS, ?_⟩
            refine h_done (by kernel_rfl) ?_
            refine x_then ?_
            exact ⟨_, _, _, _, _, S.sub ⟨rfl, rfl, rfl, rfl, rfl, rfl, rfl, rfl, trivial⟩, (H.pick [0, 2, 1, 3, 4, 5, 6] 7 rfl)⟩
        · skip
          refine r_alloc S H rfl Try.zeroValue40 rfl rfl rfl rfl fun a w b54 S H => ?_
          refine r_nil ?_
          refine x_then ?_
          have HS : Sat _ (blk b4 (.cells #[.slice none 0 0, .slice none 0 0] 40) :: blk b3 (.cells #[.slice Av vals.length cv, .slice Al live.length cl] 40) :: blk b2 (.cells #[.int .i64 ((m : Nat) : Int), .slice A es.length c] 35) :: blk b1 (.cells #[.int .i64 k, .int .u32 ((s : Nat) : Int)] 24) :: fr) := (H.pick [3, 4, 5, 6] 7 rfl)
          refine ⟨HS, ?_⟩
          refine h_all (r := 3) (rs := []) (by kernel_rfl) ⟨h_op (ls' := [true, true, true, true, true, true, true, false, false, true, false]) rfl rfl ?_, trivial⟩
          refine r_appendS (L' := fun A55 c56 => blk b54 (.cells #[.slice none 0 0, .slice none 0 0] 40) :: row 25 1 (.slice A55 vals.length c56) vals.length (u64s vals) :: row 4 1 (.slice (some ⟨b44, 0, none⟩) 0 0) 0 (bools []) :: blk b4 (.cells #[.slice none 0 0, .slice none 0 0] 40) :: blk b3 (.cells #[.slice Av vals.length cv, .slice Al live.length cl] 40) :: blk b2 (.cells #[.int .i64 ((m : Nat) : Int), .slice A es.length c] 35) :: blk b1 (.cells #[.int .i64 k, .int .u32 ((s : Nat) : Int)] 24) :: fr) (xs' := u64s vals) 1 S H rfl rfl rfl rfl el37 (((((((okv.more _).more _).more _).more _).more _).more _).more _) (one_u64s _) (by simp only [maxLen]; first | omega | (simp <;> omega)) (by first | omega | (simp <;> omega)) (List.nil_append _) (by first | omega | (simp <;> omega)) (fun _ _ => rfl) rfl rfl rfl fun a w A55 c56 hA55 S H => ?_
          refine r_nil ?_
          refine x_then ?_
          have HS : Sat _ (blk b4 (.cells #[.slice none 0 0, .slice none 0 0] 40) :: blk b3 (.cells #[.slice Av vals.length cv, .slice Al live.length cl] 40) :: blk b2 (.cells #[.int .i64 ((m : Nat) : Int), .slice A es.length c] 35) :: blk b1 (.cells #[.int .i64 k, .int .u32 ((s : Nat) : Int)] 24) :: fr) := (H.pick [3, 4, 5, 6] 7 rfl)
          refine ⟨HS, ?_⟩
          refine h_all (r := 7) (rs := []) (by kernel_rfl) ⟨h_op (ls' := [true, true, true, true, true, true, true, true, false, true, false]) rfl rfl ?_, trivial⟩
          refine r_appendS (L' := fun A57 c58 => blk b54 (.cells #[.slice none 0 0, .slice none 0 0] 40) :: row 25 1 (.slice A55 vals.length c56) vals.length (u64s vals) :: row 4 1 (.slice A57 live.length c58) live.length (bools live) :: blk b4 (.cells #[.slice none 0 0, .slice none 0 0] 40) :: blk b3 (.cells #[.slice Av vals.length cv, .slice Al live.length cl] 40) :: blk b2 (.cells #[.int .i64 ((m : Nat) : Int), .slice A es.length c] 35) :: blk b1 (.cells #[.int .i64 k, .int .u32 ((s : Nat) : Int)] 24) :: fr) (xs' := bools live) 2 S H rfl rfl rfl rfl el38 (((((((okl.more _).more _).more _).more _).more _).more _).more _) (one_bools _) (by simp only [maxLen]; first | omega | (simp <;> omega)) (by first | omega | (simp <;> omega)) (List.nil_append _) (by first | omega | (simp <;> omega)) (fun _ _ => rfl) rfl rfl rfl fun a w A57 c58 hA57 S H => ?_
          refine r_nil ?_
          refine x_then ?_
          have HS : Sat _ (blk b4 (.cells #[.slice none 0 0, .slice none 0 0] 40) :: blk b3 (.cells #[.slice Av vals.length cv, .slice Al live.length cl] 40) :: blk b2 (.cells #[.int .i64 ((m : Nat) : Int), .slice A es.length c] 35) :: blk b1 (.cells #[.int .i64 k, .int .u32 ((s : Nat) : Int)] 24) :: fr) := (H.pick [3, 4, 5, 6] 7 rfl)
          refine ⟨HS, ?_⟩
          refine h_y 8 S HS rfl (y_build (vs := #[(0, .slice A55 vals.length c56), (1, .slice A57 live.length c58)]) (v := .agg #[.slice A55 vals.length c56, .slice A57 live.length c58]) S rfl rfl (fun w => by kernel_rfl)) rfl rfl rfl (by kernel_rfl) (by kernel_rfl) (by kernel_rfl) (ls' := [true, true, true, true, true, true, true, true, true, true, false]) rfl (fun _ _ _ h => h) fun a S => ?_
          refine h_all (r := 10) (rs := []) (by kernel_rfl) ⟨h_op (ls' := [true, true, true, true, true, true, true, true, true, true, true]) rfl rfl ?_, trivial⟩
          refine r_store (vs := [.slice A55 vals.length c56, .slice A57 live.length c58]) 0 S H rfl rfl rfl rfl Try.sizeOf40 rfl rfl (by simp [Value.oneCell']) rfl rfl rfl rfl rfl fun w H => ?_
          refine r_nil ?_
          refine x_then ?_
          have HS : Sat _ (blk b4 (.cells #[.slice none 0 0, .slice none 0 0] 40) :: blk b3 (.cells #[.slice Av vals.length cv, .slice Al live.length cl] 40) :: blk b2 (.cells #[.int .i64 ((m : Nat) : Int), .slice A es.length c] 35) :: blk b1 (.cells #[.int .i64 k, .int .u32 ((s : Nat) : Int)] 24) :: fr) := (H.pick [3, 4, 5, 6] 7 rfl)
          refine ⟨HS, ?_⟩
          refine h_done (by kernel_rfl) ?_
          refine x_then ?_
          exact ⟨_, _, _, _, _, S.sub ⟨rfl, rfl, rfl, rfl, rfl, rfl, rfl, rfl, trivial⟩, (H.pick [0, 2, 1, 3, 4, 5, 6] 7 rfl)⟩
      · skip
        refine r_alloc S H rfl Try.zeroValue40 rfl rfl rfl rfl fun a w b59 S H => ?_
        refine r_nil ?_
        refine x_then ?_
        have HS : Sat _ (blk b4 (.cells #[.slice none 0 0, .slice none 0 0] 40) :: blk b3 (.cells #[.slice Av vals.length cv, .slice Al live.length cl] 40) :: blk b2 (.cells #[.int .i64 ((m : Nat) : Int), .slice A es.length c] 35) :: blk b1 (.cells #[.int .i64 k, .int .u32 ((s : Nat) : Int)] 24) :: fr) := (H.pick [2, 3, 4, 5] 6 rfl)
        refine ⟨HS, ?_⟩
        refine h_all (r := 0) (rs := []) (by kernel_rfl) ⟨h_op (ls' := [true, true, true, false, true, true, true, false, false, true, false]) rfl rfl ?_, trivial⟩
        refine r_lit (vs := #[]) (cs := u64s []) S H rfl rfl el37 (by kernel_rfl) (by decide) (by rfl) rfl rfl rfl fun a w b60 S H => ?_
        refine r_nil ?_
        refine x_then ?_
        have HS : Sat _ (blk b4 (.cells #[.slice none 0 0, .slice none 0 0] 40) :: blk b3 (.cells #[.slice Av vals.length cv, .slice Al live.length cl] 40) :: blk b2 (.cells #[.int .i64 ((m : Nat) : Int), .slice A es.length c] 35) :: blk b1 (.cells #[.int .i64 k, .int .u32 ((s : Nat) : Int)] 24) :: fr) := (H.pick [3, 4, 5, 6] 7 rfl)
        refine ⟨HS, ?_⟩
        refine h_all (r := 3) (rs := []) (by kernel_rfl) ⟨h_op (ls' := [true, true, true, true, true, true, true, false, false, true, false]) rfl rfl ?_, trivial⟩
        refine r_appendS (L' := fun A61 c62 => row 25 1 (.slice A61 vals.length c62) vals.length (u64s vals) :: blk b59 (.cells #[.slice none 0 0, .slice none 0 0] 40) :: row 4 1 (.slice (some ⟨b44, 0, none⟩) 0 0) 0 (bools []) :: blk b4 (.cells #[.slice none 0 0, .slice none 0 0] 40) :: blk b3 (.cells #[.slice Av vals.length cv, .slice Al live.length cl] 40) :: blk b2 (.cells #[.int .i64 ((m : Nat) : Int), .slice A es.length c] 35) :: blk b1 (.cells #[.int .i64 k, .int .u32 ((s : Nat) : Int)] 24) :: fr) (xs' := u64s vals) 0 S H rfl rfl rfl rfl el37 (((((((okv.more _).more _).more _).more _).more _).more _).more _) (one_u64s _) (by simp only [maxLen]; first | omega | (simp <;> omega)) (by first | omega | (simp <;> omega)) (List.nil_append _) (by first | omega | (simp <;> omega)) (fun _ _ => rfl) rfl rfl rfl fun a w A61 c62 hA61 S H => ?_
        refine r_nil ?_
        refine x_then ?_
        have HS : Sat _ (blk b4 (.cells #[.slice none 0 0, .slice none 0 0] 40) :: blk b3 (.cells #[.slice Av vals.length cv, .slice Al live.length cl] 40) :: blk b2 (.cells #[.int .i64 ((m : Nat) : Int), .slice A es.length c] 35) :: blk b1 (.cells #[.int .i64 k, .int .u32 ((s : Nat) : Int)] 24) :: fr) := (H.pick [3, 4, 5, 6] 7 rfl)
        refine ⟨HS, ?_⟩
        refine h_all (r := 7) (rs := []) (by kernel_rfl) ⟨h_op (ls' := [true, true, true, true, true, true, true, true, false, true, false]) rfl rfl ?_, trivial⟩
        refine r_appendS (L' := fun A63 c64 => row 25 1 (.slice A61 vals.length c62) vals.length (u64s vals) :: blk b59 (.cells #[.slice none 0 0, .slice none 0 0] 40) :: row 4 1 (.slice A63 live.length c64) live.length (bools live) :: blk b4 (.cells #[.slice none 0 0, .slice none 0 0] 40) :: blk b3 (.cells #[.slice Av vals.length cv, .slice Al live.length cl] 40) :: blk b2 (.cells #[.int .i64 ((m : Nat) : Int), .slice A es.length c] 35) :: blk b1 (.cells #[.int .i64 k, .int .u32 ((s : Nat) : Int)] 24) :: fr) (xs' := bools live) 2 S H rfl rfl rfl rfl el38 (((((((okl.more _).more _).more _).more _).more _).more _).more _) (one_bools _) (by simp only [maxLen]; first | omega | (simp <;> omega)) (by first | omega | (simp <;> omega)) (List.nil_append _) (by first | omega | (simp <;> omega)) (fun _ _ => rfl) rfl rfl rfl fun a w A63 c64 hA63 S H => ?_
        refine r_nil ?_
        refine x_then ?_
        have HS : Sat _ (blk b4 (.cells #[.slice none 0 0, .slice none 0 0] 40) :: blk b3 (.cells #[.slice Av vals.length cv, .slice Al live.length cl] 40) :: blk b2 (.cells #[.int .i64 ((m : Nat) : Int), .slice A es.length c] 35) :: blk b1 (.cells #[.int .i64 k, .int .u32 ((s : Nat) : Int)] 24) :: fr) := (H.pick [3, 4, 5, 6] 7 rfl)
        refine ⟨HS, ?_⟩
        refine h_y 8 S HS rfl (y_build (vs := #[(0, .slice A61 vals.length c62), (1, .slice A63 live.length c64)]) (v := .agg #[.slice A61 vals.length c62, .slice A63 live.length c64]) S rfl rfl (fun w => by kernel_rfl)) rfl rfl rfl (by kernel_rfl) (by kernel_rfl) (by kernel_rfl) (ls' := [true, true, true, true, true, true, true, true, true, true, false]) rfl (fun _ _ _ h => h) fun a S => ?_
        refine h_all (r := 10) (rs := []) (by kernel_rfl) ⟨h_op (ls' := [true, true, true, true, true, true, true, true, true, true, true]) rfl rfl ?_, trivial⟩
        refine r_store (vs := [.slice A61 vals.length c62, .slice A63 live.length c64]) 1 S H rfl rfl rfl rfl Try.sizeOf40 rfl rfl (by simp [Value.oneCell']) rfl rfl rfl rfl rfl fun w H => ?_
        refine r_nil ?_
        refine x_then ?_
        have HS : Sat _ (blk b4 (.cells #[.slice none 0 0, .slice none 0 0] 40) :: blk b3 (.cells #[.slice Av vals.length cv, .slice Al live.length cl] 40) :: blk b2 (.cells #[.int .i64 ((m : Nat) : Int), .slice A es.length c] 35) :: blk b1 (.cells #[.int .i64 k, .int .u32 ((s : Nat) : Int)] 24) :: fr) := (H.pick [3, 4, 5, 6] 7 rfl)
        refine ⟨HS, ?_⟩
        refine h_done (by kernel_rfl) ?_
        refine x_then ?_
        exact ⟨_, _, _, _, _, S.sub ⟨rfl, rfl, rfl, rfl, rfl, rfl, rfl, rfl, trivial⟩, (H.pick [1, 2, 0, 3, 4, 5, 6] 7 rfl)⟩
    · skip
      refine r_alloc S H rfl Try.zeroValue40 rfl rfl rfl rfl fun a w b65 S H => ?_
      refine r_nil ?_
      refine x_then ?_
      have HS : Sat _ (blk b4 (.cells #[.slice none 0 0, .slice none 0 0] 40) :: blk b3 (.cells #[.slice Av vals.length cv, .slice Al live.length cl] 40) :: blk b2 (.cells #[.int .i64 ((m : Nat) : Int), .slice A es.length c] 35) :: blk b1 (.cells #[.int .i64 k, .int .u32 ((s : Nat) : Int)] 24) :: fr) := (H.pick [1, 2, 3, 4] 5 rfl)
      refine ⟨HS, ?_⟩
      refine h_all (r := 0) (rs := [4]) (by kernel_rfl) ⟨h_op (ls' := [true, true, true, false, false, true, true, false, false, true, false]) rfl rfl ?_, h_op (ls' := [false, true, true, false, true, true, true, false, false, true, false]) rfl rfl ?_, trivial⟩
      · skip
        refine r_lit (vs := #[]) (cs := u64s []) S H rfl rfl el37 (by kernel_rfl) (by decide) (by rfl) rfl rfl rfl fun a w b66 S H => ?_
        refine r_nil ?_
        refine x_then ?_
        have HS : Sat _ (blk b4 (.cells #[.slice none 0 0, .slice none 0 0] 40) :: blk b3 (.cells #[.slice Av vals.length cv, .slice Al live.length cl] 40) :: blk b2 (.cells #[.int .i64 ((m : Nat) : Int), .slice A es.length c] 35) :: blk b1 (.cells #[.int .i64 k, .int .u32 ((s : Nat) : Int)] 24) :: fr) := (H.pick [2, 3, 4, 5] 6 rfl)
        refine ⟨HS, ?_⟩
        refine h_all (r := 3) (rs := [4]) (by kernel_rfl) ⟨h_op (ls' := [true, true, true, true, false, true, true, false, false, true, false]) rfl rfl ?_, h_op (ls' := [true, true, true, false, true, true, true, false, false, true, false]) rfl rfl ?_, trivial⟩
        · skip
          refine r_appendS (L' := fun A67 c68 => row 25 1 (.slice A67 vals.length c68) vals.length (u64s vals) :: blk b65 (.cells #[.slice none 0 0, .slice none 0 0] 40) :: blk b4 (.cells #[.slice none 0 0, .slice none 0 0] 40) :: blk b3 (.cells #[.slice Av vals.length cv, .slice Al live.length cl] 40) :: blk b2 (.cells #[.int .i64 ((m : Nat) : Int), .slice A es.length c] 35) :: blk b1 (.cells #[.int .i64 k, .int .u32 ((s : Nat) : Int)] 24) :: fr) (xs' := u64s vals) 0 S H rfl rfl rfl rfl el37 ((((((okv.more _).more _).more _).more _).more _).more _) (one_u64s _) (by simp only [maxLen]; first | omega | (simp <;> omega)) (by first | omega | (simp <;> omega)) (List.nil_append _) (by first | omega | (simp <;> omega)) (fun _ _ => rfl) rfl rfl rfl fun a w A67 c68 hA67 S H => ?_
          refine r_nil ?_
          refine x_then ?_
          have HS : Sat _ (blk b4 (.cells #[.slice none 0 0, .slice none 0 0] 40) :: blk b3 (.cells #[.slice Av vals.length cv, .slice Al live.length cl] 40) :: blk b2 (.cells #[.int .i64 ((m : Nat) : Int), .slice A es.length c] 35) :: blk b1 (.cells #[.int .i64 k, .int .u32 ((s : Nat) : Int)] 24) :: fr) := (H.pick [2, 3, 4, 5] 6 rfl)
          refine ⟨HS, ?_⟩
          refine h_all (r := 4) (rs := []) (by kernel_rfl) ⟨h_op (ls' := [true, true, true, true, true, true, true, false, false, true, false]) rfl rfl ?_, trivial⟩
          refine r_lit (vs := #[]) (cs := bools []) S H rfl rfl el38 (by kernel_rfl) (by decide) (by rfl) rfl rfl rfl fun a w b69 S H => ?_
          refine r_nil ?_
          refine x_then ?_
          have HS : Sat _ (blk b4 (.cells #[.slice none 0 0, .slice none 0 0] 40) :: blk b3 (.cells #[.slice Av vals.length cv, .slice Al live.length cl] 40) :: blk b2 (.cells #[.int .i64 ((m : Nat) : Int), .slice A es.length c] 35) :: blk b1 (.cells #[.int .i64 k, .int .u32 ((s : Nat) : Int)] 24) :: fr) := (H.pick [3, 4, 5, 6] 7 rfl)
          refine ⟨HS, ?_⟩
          refine h_all (r := 7) (rs := []) (by kernel_rfl) ⟨h_op (ls' := [true, true, true, true, true, true, true, true, false, true, false]) rfl rfl ?_, trivial⟩
          refine r_appendS (L' := fun A70 c71 => row 4 1 (.slice A70 live.length c71) live.length (bools live) :: row 25 1 (.slice A67 vals.length c68) vals.length (u64s vals) :: blk b65 (.cells #[.slice none 0 0, .slice none 0 0] 40) :: blk b4 (.cells #[.slice none 0 0, .slice none 0 0] 40) :: blk b3 (.cells #[.slice Av vals.length cv, .slice Al live.length cl] 40) :: blk b2 (.cells #[.int .i64 ((m : Nat) : Int), .slice A es.length c] 35) :: blk b1 (.cells #[.int .i64 k, .int .u32 ((s : Nat) : Int)] 24) :: fr) (xs' := bools live) 0 S H rfl rfl rfl rfl el38 (((((((okl.more _).more _).more _).more _).more _).more _).more _) (one_bools _) (by simp only [maxLen]; first | omega | (simp <;> omega)) (by first | omega | (simp <;> omega)) (List.nil_append _) (by first | omega | (simp <;> omega)) (fun _ _ => rfl) rfl rfl rfl fun a w A70 c71 hA70 S H => ?_
          refine r_nil ?_
          refine x_then ?_
          have HS : Sat _ (blk b4 (.cells #[.slice none 0 0, .slice none 0 0] 40) :: blk b3 (.cells #[.slice Av vals.length cv, .slice Al live.length cl] 40) :: blk b2 (.cells #[.int .i64 ((m : Nat) : Int), .slice A es.length c] 35) :: blk b1 (.cells #[.int .i64 k, .int .u32 ((s : Nat) : Int)] 24) :: fr) := (H.pick [3, 4, 5, 6] 7 rfl)
          refine ⟨HS, ?_⟩
          refine h_y 8 S HS rfl (y_build (vs := #[(0, .slice A67 vals.length c68), (1, .slice A70 live.length c71)]) (v := .agg #[.slice A67 vals.length c68, .slice A70 live.length c71]) S rfl rfl (fun w => by kernel_rfl)) rfl rfl rfl (by kernel_rfl) (by kernel_rfl) (by kernel_rfl) (ls' := [true, true, true, true, true, true, true, true, true, true, false]) rfl (fun _ _ _ h => h) fun a S => ?_
          refine h_all (r := 10) (rs := []) (by kernel_rfl) ⟨h_op (ls' := [true, true, true, true, true, true, true, true, true, true, true]) rfl rfl ?_, trivial⟩
          refine r_store (vs := [.slice A67 vals.length c68, .slice A70 live.length c71]) 2 S H rfl rfl rfl rfl Try.sizeOf40 rfl rfl (by simp [Value.oneCell']) rfl rfl rfl rfl rfl fun w H => ?_
          refine r_nil ?_
          refine x_then ?_
          have HS : Sat _ (blk b4 (.cells #[.slice none 0 0, .slice none 0 0] 40) :: blk b3 (.cells #[.slice Av vals.length cv, .slice Al live.length cl] 40) :: blk b2 (.cells #[.int .i64 ((m : Nat) : Int), .slice A es.length c] 35) :: blk b1 (.cells #[.int .i64 k, .int .u32 ((s : Nat) : Int)] 24) :: fr) := (H.pick [3, 4, 5, 6] 7 rfl)
          refine ⟨HS, ?_⟩
          refine h_done (by kernel_rfl) ?_
          refine x_then ?_
          exact ⟨_, _, _, _, _, S.sub ⟨rfl, rfl, rfl, rfl, rfl, rfl, rfl, rfl, trivial⟩, (H.pick [2, 0, 1, 3, 4, 5, 6] 7 rfl)⟩
        · skip
          refine r_lit (vs := #[]) (cs := bools []) S H rfl rfl el38 (by kernel_rfl) (by decide) (by rfl) rfl rfl rfl fun a w b72 S H => ?_
          refine r_nil ?_
          refine x_then ?_
          have HS : Sat _ (blk b4 (.cells #[.slice none 0 0, .slice none 0 0] 40) :: blk b3 (.cells #[.slice Av vals.length cv, .slice Al live.length cl] 40) :: blk b2 (.cells #[.int .i64 ((m : Nat) : Int), .slice A es.length c] 35) :: blk b1 (.cells #[.int .i64 k, .int .u32 ((s : Nat) : Int)] 24) :: fr) := (H.pick [3, 4, 5, 6] 7 rfl)
          refine ⟨HS, ?_⟩
          refine h_all (r := 3) (rs := []) (by kernel_rfl) ⟨h_op (ls' := [true, true, true, true, true, true, true, false, false, true, false]) rfl rfl ?_, trivial⟩
          refine r_appendS (L' := fun A73 c74 => row 4 1 (.slice (some ⟨b72, 0, none⟩) 0 0) 0 (bools []) :: row 25 1 (.slice A73 vals.length c74) vals.length (u64s vals) :: blk b65 (.cells #[.slice none 0 0, .slice none 0 0] 40) :: blk b4 (.cells #[.slice none 0 0, .slice none 0 0] 40) :: blk b3 (.cells #[.slice Av vals.length cv, .slice Al live.length cl] 40) :: blk b2 (.cells #[.int .i64 ((m : Nat) : Int), .slice A es.length c] 35) :: blk b1 (.cells #[.int .i64 k, .int .u32 ((s : Nat) : Int)] 24) :: fr) (xs' := u64s vals) 1 S H rfl rfl rfl rfl el37 (((((((okv.more _).more _).more _).more _).more _).more _).more _) (one_u64s _) (by simp only [maxLen]; first | omega | (simp <;> omega)) (by first | omega | (simp <;> omega)) (List.nil_append _) (by first | omega | (simp <;> omega)) (fun _ _ => rfl) rfl rfl rfl fun a w A73 c74 hA73 S H => ?_
          refine r_nil ?_
          refine x_then ?_
          have HS : Sat _ (blk b4 (.cells #[.slice none 0 0, .slice none 0 0] 40) :: blk b3 (.cells #[.slice Av vals.length cv, .slice Al live.length cl] 40) :: blk b2 (.cells #[.int .i64 ((m : Nat) : Int), .slice A es.length c] 35) :: blk b1 (.cells #[.int .i64 k, .int .u32 ((s : Nat) : Int)] 24) :: fr) := (H.pick [3, 4, 5, 6] 7 rfl)
          refine ⟨HS, ?_⟩
          refine h_all (r := 7) (rs := []) (by kernel_rfl) ⟨h_op (ls' := [true, true, true, true, true, true, true, true, false, true, false]) rfl rfl ?_, trivial⟩
          refine r_appendS (L' := fun A75 c76 => row 4 1 (.slice A75 live.length c76) live.length (bools live) :: row 25 1 (.slice A73 vals.length c74) vals.length (u64s vals) :: blk b65 (.cells #[.slice none 0 0, .slice none 0 0] 40) :: blk b4 (.cells #[.slice none 0 0, .slice none 0 0] 40) :: blk b3 (.cells #[.slice Av vals.length cv, .slice Al live.length cl] 40) :: blk b2 (.cells #[.int .i64 ((m : Nat) : Int), .slice A es.length c] 35) :: blk b1 (.cells #[.int .i64 k, .int .u32 ((s : Nat) : Int)] 24) :: fr) (xs' := bools live) 0 S H rfl rfl rfl rfl el38 (((((((okl.more _).more _).more _).more _).more _).more _).more _) (one_bools _) (by simp only [maxLen]; first | omega | (simp <;> omega)) (by first | omega | (simp <;> omega)) (List.nil_append _) (by first | omega | (simp <;> omega)) (fun _ _ => rfl) rfl rfl rfl fun a w A75 c76 hA75 S H => ?_
          refine r_nil ?_
          refine x_then ?_
          have HS : Sat _ (blk b4 (.cells #[.slice none 0 0, .slice none 0 0] 40) :: blk b3 (.cells #[.slice Av vals.length cv, .slice Al live.length cl] 40) :: blk b2 (.cells #[.int .i64 ((m : Nat) : Int), .slice A es.length c] 35) :: blk b1 (.cells #[.int .i64 k, .int .u32 ((s : Nat) : Int)] 24) :: fr) := (H.pick [3, 4, 5, 6] 7 rfl)
          refine ⟨HS, ?_⟩
          refine h_y 8 S HS rfl (y_build (vs := #[(0, .slice A73 vals.length c74), (1, .slice A75 live.length c76)]) (v := .agg #[.slice A73 vals.length c74, .slice A75 live.length c76]) S rfl rfl (fun w => by kernel_rfl)) rfl rfl rfl (by kernel_rfl) (by kernel_rfl) (by kernel_rfl) (ls' := [true, true, true, true, true, true, true, true, true, true, false]) rfl (fun _ _ _ h => h) fun a S => ?_
          refine h_all (r := 10) (rs := []) (by kernel_rfl) ⟨h_op (ls' := [true, true, true, true, true, true, true, true, true, true, true]) rfl rfl ?_, trivial⟩
          refine r_store (vs := [.slice A73 vals.length c74, .slice A75 live.length c76]) 2 S H rfl rfl rfl rfl Try.sizeOf40 rfl rfl (by simp [Value.oneCell']) rfl rfl rfl rfl rfl fun w H => ?_
          refine r_nil ?_
          refine x_then ?_
          have HS : Sat _ (blk b4 (.cells #[.slice none 0 0, .slice none 0 0] 40) :: blk b3 (.cells #[.slice Av vals.length cv, .slice Al live.length cl] 40) :: blk b2 (.cells #[.int .i64 ((m : Nat) : Int), .slice A es.length c] 35) :: blk b1 (.cells #[.int .i64 k, .int .u32 ((s : Nat) : Int)] 24) :: fr) := (H.pick [3, 4, 5, 6] 7 rfl)
          refine ⟨HS, ?_⟩
          refine h_done (by kernel_rfl) ?_
          refine x_then ?_
          exact ⟨_, _, _, _, _, S.sub ⟨rfl, rfl, rfl, rfl, rfl, rfl, rfl, rfl, trivial⟩, (H.pick [2, 0, 1, 3, 4, 5, 6] 7 rfl)⟩
      · skip
        refine r_lit (vs := #[]) (cs := bools []) S H rfl rfl el38 (by kernel_rfl) (by decide) (by rfl) rfl rfl rfl fun a w b77 S H => ?_
        refine r_nil ?_
        refine x_then ?_
        have HS : Sat _ (blk b4 (.cells #[.slice none 0 0, .slice none 0 0] 40) :: blk b3 (.cells #[.slice Av vals.length cv, .slice Al live.length cl] 40) :: blk b2 (.cells #[.int .i64 ((m : Nat) : Int), .slice A es.length c] 35) :: blk b1 (.cells #[.int .i64 k, .int .u32 ((s : Nat) : Int)] 24) :: fr) := (H.pick [2, 3, 4, 5] 6 rfl)
        refine ⟨HS, ?_⟩
        refine h_all (r := 0) (rs := []) (by kernel_rfl) ⟨h_op (ls' := [true, true, true, false, true, true, true, false, false, true, false]) rfl rfl ?_, trivial⟩
        refine r_lit (vs := #[]) (cs := u64s []) S H rfl rfl el37 (by kernel_rfl) (by decide) (by rfl) rfl rfl rfl fun a w b78 S H => ?_
        refine r_nil ?_
        refine x_then ?_
        have HS : Sat _ (blk b4 (.cells #[.slice none 0 0, .slice none 0 0] 40) :: blk b3 (.cells #[.slice Av vals.length cv, .slice Al live.length cl] 40) :: blk b2 (.cells #[.int .i64 ((m : Nat) : Int), .slice A es.length c] 35) :: blk b1 (.cells #[.int .i64 k, .int .u32 ((s : Nat) : Int)] 24) :: fr) := (H.pick [3, 4, 5, 6] 7 rfl)
        refine ⟨HS, ?_⟩
        refine h_all (r := 3) (rs := []) (by kernel_rfl) ⟨h_op (ls' := [true, true, true, true, true, true, true, false, false, true, false]) rfl rfl ?_, trivial⟩
        refine r_appendS (L' := fun A79 c80 => row 25 1 (.slice A79 vals.length c80) vals.length (u64s vals) :: row 4 1 (.slice (some ⟨b77, 0, none⟩) 0 0) 0 (bools []) :: blk b65 (.cells #[.slice none 0 0, .slice none 0 0] 40) :: blk b4 (.cells #[.slice none 0 0, .slice none 0 0] 40) :: blk b3 (.cells #[.slice Av vals.length cv, .slice Al live.length cl] 40) :: blk b2 (.cells #[.int .i64 ((m : Nat) : Int), .slice A es.length c] 35) :: blk b1 (.cells #[.int .i64 k, .int .u32 ((s : Nat) : Int)] 24) :: fr) (xs' := u64s vals) 0 S H rfl rfl rfl rfl el37 (((((((okv.more _).more _).more _).more _).more _).more _).more _) (one_u64s _) (by simp only [maxLen]; first | omega | (simp <;> omega)) (by first | omega | (simp <;> omega)) (List.nil_append _) (by first | omega | (simp <;> omega)) (fun _ _ => rfl) rfl rfl rfl fun a w A79 c80 hA79 S H => ?_
        refine r_nil ?_
        refine x_then ?_
        have HS : Sat _ (blk b4 (.cells #[.slice none 0 0, .slice none 0 0] 40) :: blk b3 (.cells #[.slice Av vals.length cv, .slice Al live.length cl] 40) :: blk b2 (.cells #[.int .i64 ((m : Nat) : Int), .slice A es.length c] 35) :: blk b1 (.cells #[.int .i64 k, .int .u32 ((s : Nat) : Int)] 24) :: fr) := (H.pick [3, 4, 5, 6] 7 rfl)
        refine ⟨HS, ?_⟩
        refine h_all (r := 7) (rs := []) (by kernel_rfl) ⟨h_op (ls' := [true, true, true, true, true, true, true, true, false, true, false]) rfl rfl ?_, trivial⟩
        refine r_appendS (L' := fun A81 c82 => row 25 1 (.slice A79 vals.length c80) vals.length (u64s vals) :: row 4 1 (.slice A81 live.length c82) live.length (bools live) :: blk b65 (.cells #[.slice none 0 0, .slice none 0 0] 40) :: blk b4 (.cells #[.slice none 0 0, .slice none 0 0] 40) :: blk b3 (.cells #[.slice Av vals.length cv, .slice Al live.length cl] 40) :: blk b2 (.cells #[.int .i64 ((m : Nat) : Int), .slice A es.length c] 35) :: blk b1 (.cells #[.int .i64 k, .int .u32 ((s : Nat) : Int)] 24) :: fr) (xs' := bools live) 1 S H rfl rfl rfl rfl el38 (((((((okl.more _).more _).more _).more _).more _).more _).more _) (one_bools _) (by simp only [maxLen]; first | omega | (simp <;> omega)) (by first | omega | (simp <;> omega)) (List.nil_append _) (by first | omega | (simp <;> omega)) (fun _ _ => rfl) rfl rfl rfl fun a w A81 c82 hA81 S H => ?_
        refine r_nil ?_
        refine x_then ?_
        have HS : Sat _ (blk b4 (.cells #[.slice none 0 0, .slice none 0 0] 40) :: blk b3 (.cells #[.slice Av vals.length cv, .slice Al live.length cl] 40) :: blk b2 (.cells #[.int .i64 ((m : Nat) : Int), .slice A es.length c] 35) :: blk b1 (.cells #[.int .i64 k, .int .u32 ((s : Nat) : Int)] 24) :: fr) := (H.pick [3, 4, 5, 6] 7 rfl)
        refine ⟨HS, ?_⟩
        refine h_y 8 S HS rfl (y_build (vs := #[(0, .slice A79 vals.length c80), (1, .slice A81 live.length c82)]) (v := .agg #[.slice A79 vals.length c80, .slice A81 live.length c82]) S rfl rfl (fun w => by kernel_rfl)) rfl rfl rfl (by kernel_rfl) (by kernel_rfl) (by kernel_rfl) (ls' := [true, true, true, true, true, true, true, true, true, true, false]) rfl (fun _ _ _ h => h) fun a S => ?_
        refine h_all (r := 10) (rs := []) (by kernel_rfl) ⟨h_op (ls' := [true, true, true, true, true, true, true, true, true, true, true]) rfl rfl ?_, trivial⟩
        refine r_store (vs := [.slice A79 vals.length c80, .slice A81 live.length c82]) 2 S H rfl rfl rfl rfl Try.sizeOf40 rfl rfl (by simp [Value.oneCell']) rfl rfl rfl rfl rfl fun w H => ?_
        refine r_nil ?_
        refine x_then ?_
        have HS : Sat _ (blk b4 (.cells #[.slice none 0 0, .slice none 0 0] 40) :: blk b3 (.cells #[.slice Av vals.length cv, .slice Al live.length cl] 40) :: blk b2 (.cells #[.int .i64 ((m : Nat) : Int), .slice A es.length c] 35) :: blk b1 (.cells #[.int .i64 k, .int .u32 ((s : Nat) : Int)] 24) :: fr) := (H.pick [3, 4, 5, 6] 7 rfl)
        refine ⟨HS, ?_⟩
        refine h_done (by kernel_rfl) ?_
        refine x_then ?_
        exact ⟨_, _, _, _, _, S.sub ⟨rfl, rfl, rfl, rfl, rfl, rfl, rfl, rfl, trivial⟩, (H.pick [2, 1, 0, 3, 4, 5, 6] 7 rfl)⟩
  obtain ⟨A6, c7, A9, c10, b11, S, H⟩ := hm
  refine x_then ?_
  refine r_seq ?_
  refine r_region ?_
  refine r_y S H (y_loadAgg [_, _] 4 S rfl rfl (fun w => ⟨Try.isAgg40 w, Try.sizeOf40 w⟩) rfl rfl ⟨rfl, rfl, trivial⟩) rfl rfl rfl fun a S => ?_
  refine r_call (args := #[.agg #[.slice Av vals.length cv, .slice Al live.length cl]]) S rfl rfl Try.call32 (rquiet_ct (H := H) _ _ _ _ vals (((((((okv.more _).more _).more _).more _).more _).more _).more _) _ _ live (((((((okl.more _).more _).more _).more _).more _).more _).more _)) rfl rfl rfl fun v a w hR S => ?_
  obtain ⟨rfl, H⟩ := hR
  refine r_y S H (y_assign S rfl rfl) rfl rfl rfl fun a S => ?_
  refine r_nil ?_
  refine x_then ?_
  refine r_seq ?_
  refine r_seq ?_
  refine r_region ?_
  refine r_y S H (y_move S rfl rfl) rfl rfl rfl fun a S => ?_
  refine r_nil ?_
  refine x_then ?_
  refine r_cond S rfl (fun h29 => ?_) (fun h29 => ?_)
  · skip
    refine r_seq ?_
    refine r_region ?_
    refine r_y S H (y_loadAgg [_, _] 0 S rfl rfl (fun w => ⟨Try.isAgg40 w, Try.sizeOf40 w⟩) rfl rfl ⟨rfl, rfl, trivial⟩) rfl rfl rfl fun a S => ?_
    refine r_store (vs := [.slice A6 vals.length c7, .slice A9 live.length c10]) 3 S H rfl rfl rfl rfl Try.sizeOf40 rfl rfl (by simp [Value.oneCell']) rfl rfl rfl rfl rfl fun w H => ?_
    refine r_nil ?_
    refine x_then ?_
    refine wp_ret ?_
    refine x_thenRet ?_
    refine r_ret1 S H Try.results31 (ro_agg [_, _] (i := 3) S rfl (fun w => ⟨Try.isAgg40 w, Try.sizeOf40 w⟩) rfl rfl ⟨rfl, rfl, trivial⟩) ?_
    rw [Tr.step_quiet (c := (vals, live)) h29]
    exact ⟨_, _, _, _, rfl, (H.pick [2, 1] 7 rfl)⟩
  · skip
    have hqq : quiet live = false := by simpa using h29
    refine wp_skip ?_
    refine x_then ?_
    refine r_seq ?_
    refine r_region ?_
    refine r_y S H (y_fieldAddr S rfl rfl fa35_0) rfl rfl rfl fun a S => ?_
    refine r_y S H (y_load 5 S rfl rfl Try.isAgg3 rfl rfl) rfl rfl rfl fun a S => ?_
    refine r_make (len := m) S H rfl rfl rfl el45 (by simp only [maxLen]; omega) (by omega) rfl rfl rfl fun a w b83 S H => ?_
    rw [made_ints] at H
    refine r_y S H (y_assign S rfl rfl) rfl rfl rfl fun a S => ?_
    refine r_nil ?_
    refine x_then ?_
    refine r_seq ?_
    refine r_seq ?_
    refine r_region ?_
    refine r_y S H (y_assign S rfl rfl) rfl rfl rfl fun a S => ?_
    refine r_nil ?_
    refine x_then ?_
    refine r_block ?_
    refine r_loop (ι := Nat) (fun p a w => Slots a 149 [(0, .agg #[.int .i64 k, .int .u32 ((s : Nat) : Int)]), (1, .agg #[.int .i64 ((m : Nat) : Int), .slice A es.length c]), (2, .agg #[.slice Av vals.length cv, .slice Al live.length cl]), (3, .pointer (some ⟨b1, 0, none⟩)), (4, .pointer (some ⟨b2, 0, none⟩)), (5, .pointer (some ⟨b3, 0, none⟩)), (6, .pointer (some ⟨b4, 0, none⟩)), (7, .pointer (some ⟨b11, 0, none⟩)), (8, .bool (quiet live)), (9, .slice (some ⟨b83, 0, none⟩) m m), (10, .int .i64 ((p : Nat) : Int)), (27, .agg #[.slice Av vals.length cv, .slice Al live.length cl]), (28, .bool (quiet live)), (29, .bool (quiet live)), (31, .pointer (some ⟨b2, 0, none⟩)), (32, .int .i64 ((m : Nat) : Int)), (33, .slice (some ⟨b83, 0, none⟩) m m)] ∧ Sat w (row 3 1 (.slice (some ⟨b83, 0, none⟩) m m) m (ints (Tr.outsR es m p)) :: blk b11 (.cells #[.slice A6 vals.length c7, .slice A9 live.length c10] 40) :: row 4 1 (.slice A9 live.length c10) live.length (bools live) :: row 25 1 (.slice A6 vals.length c7) vals.length (u64s vals) :: blk b4 (.cells #[.slice none 0 0, .slice none 0 0] 40) :: blk b3 (.cells #[.slice Av vals.length cv, .slice Al live.length cl] 40) :: blk b2 (.cells #[.int .i64 ((m : Nat) : Int), .slice A es.length c] 35) :: blk b1 (.cells #[.int .i64 k, .int .u32 ((s : Nat) : Int)] 24) :: fr) ∧ (p ≤ es.length)) (fun p => es.length - p) 0 ⟨S.sub ⟨rfl, rfl, rfl, rfl, rfl, rfl, rfl, rfl, rfl, rfl, rfl, rfl, rfl, rfl, rfl, rfl, rfl, trivial⟩, (by rw [Tr.outsR_zero es m] at H; exact H), Nat.zero_le _⟩ (fun p a w hI => ?_)
    obtain ⟨S, H, hI⟩ := hI
    have hlo := Tr.len_outsR es m p
    refine r_seq ?_
    refine r_seq ?_
    refine r_region ?_
    refine r_y S H (y_move S rfl rfl) rfl rfl rfl fun a S => ?_
    refine r_y S H (y_fieldAddr S rfl rfl fa35_1) rfl rfl rfl fun a S => ?_
    refine r_y S H (y_load 6 S rfl rfl Try.isAgg33 rfl rfl) rfl rfl rfl fun a S => ?_
    refine r_y S H (y_len S rfl rfl Try.underlying33) rfl rfl rfl fun a S => ?_
    refine r_y S H (y_lt S rfl rfl rfl) rfl rfl rfl fun a S => ?_
    refine r_nil ?_
    refine x_then ?_
    refine r_test S rfl (fun h38 => ?_) (fun h38 => ?_)
    · skip
      have hb := hee _ (getD_mem (by omega : p < es.length))
      have hb2 := hes _ (getD_mem (by omega : p < es.length))
      have hov := Tr.outsR_at (l := es) (i := p) hb.1
      have hol := Tr.outs_le (es.take p) (es.getD p e0).f
      have hol2 : (es.take p).length ≤ es.length := by simp; omega
      refine wp_skip ?_
      refine x_then ?_
      refine r_seq ?_
      refine r_block ?_
      refine r_region ?_
      refine r_y S H (y_move S rfl rfl) rfl rfl rfl fun a S => ?_
      refine r_y S H (y_fieldAddr S rfl rfl fa35_1) rfl rfl rfl fun a S => ?_
      refine r_y S H (y_load 6 S rfl rfl Try.isAgg33 rfl rfl) rfl rfl rfl fun a S => ?_
      refine r_y S H (y_move S rfl rfl) rfl rfl rfl fun a S => ?_
      obtain ⟨b84, o85, rfl⟩ := ((((((((ok.more _).more _).more _).more _).more _).more _).more _).more _).addr H (by first | omega | (simp <;> omega))
      refine r_y S H (y_index S rfl rfl rfl Try.underlying33 Try.sizeOf47 (by omega) (by omega)) rfl rfl rfl fun a S => ?_
      refine r_y S H (y_fieldAddr S rfl rfl fa47_0) rfl rfl rfl fun a S => ?_
      refine r_y S H (y_loadAt S rfl rfl Try.isAgg22 (fun w H => ((((((((ok.more _).more _).more _).more _).more _).more _).more _).more _).cell w H (ecells_f (i := p) (by omega)))) rfl rfl rfl fun a S => ?_
      refine r_y S H (y_index S rfl rfl rfl Try.underlying45 Try.sizeOf3 (by omega) (by omega)) rfl rfl rfl fun a S => ?_
      refine r_y S H (y_loadAt S rfl rfl Try.isAgg3 (fun w H => (SlOk.ofRow (i := 0) H rfl).cell w H (ints_at (i := ((es.getD p e0).f)) (by first | omega | (simp <;> omega))))) rfl rfl rfl fun a S => ?_
      refine r_y S H (y_add S rfl rfl rfl (wi64 (by omega) (by omega))) rfl rfl rfl fun a S => ?_
      refine r_y S H (y_index S rfl rfl rfl Try.underlying45 Try.sizeOf3 (by omega) (by omega)) rfl rfl rfl fun a S => ?_
      refine r_setRowV (L' := row 3 1 (.slice (some ⟨b83, 0, none⟩) m m) m (ints ((Tr.outsR es m p).set ((es.getD p e0).f) (((Tr.outsR es m p).getD ((es.getD p e0).f) 0) + 1))) :: blk b11 (.cells #[.slice A6 vals.length c7, .slice A9 live.length c10] 40) :: row 4 1 (.slice A9 live.length c10) live.length (bools live) :: row 25 1 (.slice A6 vals.length c7) vals.length (u64s vals) :: blk b4 (.cells #[.slice none 0 0, .slice none 0 0] 40) :: blk b3 (.cells #[.slice Av vals.length cv, .slice Al live.length cl] 40) :: blk b2 (.cells #[.int .i64 ((m : Nat) : Int), .slice (some ⟨b84, o85, none⟩) es.length c] 35) :: blk b1 (.cells #[.int .i64 k, .int .u32 ((s : Nat) : Int)] 24) :: fr) 0 S H rfl rfl rfl rfl Try.sizeOf3 rfl rfl (by first | omega | (simp <;> omega)) (xs' := ints ((Tr.outsR es m p).set ((es.getD p e0).f) (((Tr.outsR es m p).getD ((es.getD p e0).f) 0) + 1))) (ints_put (by omega) rfl) rfl rfl rfl fun w H => ?_
      refine r_nil ?_
      refine x_blockEnd ?_
      refine x_then ?_
      refine r_region ?_
      refine r_y S H (y_move S rfl rfl) rfl rfl rfl fun a S => ?_
      refine r_y S H (y_add S rfl rfl rfl (wi64 (by omega) (by omega))) rfl rfl rfl fun a S => ?_
      refine r_y S H (y_assign S rfl rfl) rfl rfl rfl fun a S => ?_
      refine r_nil ?_
      refine x_then ?_
      rw [Tr.outsR_set (by omega) hb.1] at H
      exact ⟨p + 1, ⟨S.sub ⟨rfl, rfl, rfl, rfl, rfl, rfl, rfl, rfl, rfl, rfl, rfl, rfl, rfl, rfl, rfl, rfl, rfl, trivial⟩, H, by omega⟩, by omega⟩
    · skip
      refine wp_exit ?_
      refine x_thenExit ?_
      refine x_thenExit ?_
      refine x_blockHere ?_
      refine x_then ?_
      refine r_seq ?_
      refine r_region ?_
      refine r_y S H (y_fieldAddr S rfl rfl fa35_0) rfl rfl rfl fun a S => ?_
      refine r_y S H (y_load 6 S rfl rfl Try.isAgg3 rfl rfl) rfl rfl rfl fun a S => ?_
      refine r_make (len := m) S H rfl rfl rfl el37 (by simp only [maxLen]; omega) (by omega) rfl rfl rfl fun a w b86 S H => ?_
      rw [made_u64s] at H
      refine r_y S H (y_assign S rfl rfl) rfl rfl rfl fun a S => ?_
      refine r_nil ?_
      refine x_then ?_
      refine r_seq ?_
      refine r_region ?_
      refine r_y S H (y_fieldAddr S rfl rfl fa35_0) rfl rfl rfl fun a S => ?_
      refine r_y S H (y_load 7 S rfl rfl Try.isAgg3 rfl rfl) rfl rfl rfl fun a S => ?_
      refine r_make (len := m) S H rfl rfl rfl el38 (by simp only [maxLen]; omega) (by omega) rfl rfl rfl fun a w b87 S H => ?_
      rw [made_bools] at H
      refine r_y S H (y_assign S rfl rfl) rfl rfl rfl fun a S => ?_
      refine r_nil ?_
      refine x_then ?_
      refine r_seq ?_
      refine r_seq ?_
      refine r_region ?_
      refine r_y S H (y_assign S rfl rfl) rfl rfl rfl fun a S => ?_
      refine r_nil ?_
      refine x_then ?_
      refine r_block ?_
      refine r_loop (ι := Nat) (fun i a w => Slots a 149 [(0, .agg #[.int .i64 k, .int .u32 ((s : Nat) : Int)]), (1, .agg #[.int .i64 ((m : Nat) : Int), .slice A es.length c]), (2, .agg #[.slice Av vals.length cv, .slice Al live.length cl]), (3, .pointer (some ⟨b1, 0, none⟩)), (4, .pointer (some ⟨b2, 0, none⟩)), (5, .pointer (some ⟨b3, 0, none⟩)), (6, .pointer (some ⟨b4, 0, none⟩)), (7, .pointer (some ⟨b11, 0, none⟩)), (8, .bool (quiet live)), (9, .slice (some ⟨b83, 0, none⟩) m m), (10, .int .i64 ((p : Nat) : Int)), (11, .slice (some ⟨b86, 0, none⟩) m m), (12, .slice (some ⟨b87, 0, none⟩) m m), (13, .int .i64 ((i : Nat) : Int)), (27, .agg #[.slice Av vals.length cv, .slice Al live.length cl]), (28, .bool (quiet live)), (29, .bool (quiet live)), (31, .pointer (some ⟨b2, 0, none⟩)), (32, .int .i64 ((m : Nat) : Int)), (33, .slice (some ⟨b83, 0, none⟩) m m), (34, .int .i64 ((p : Nat) : Int)), (35, .pointer (some ⟨b2, 1, none⟩)), (36, .slice A es.length c), (37, .int .i64 ((es.length : Nat) : Int)), (38, .bool (decide (((p : Nat) : Int) < ((es.length : Nat) : Int)))), (52, .pointer (some ⟨b2, 0, none⟩)), (53, .int .i64 ((m : Nat) : Int)), (54, .slice (some ⟨b86, 0, none⟩) m m), (55, .pointer (some ⟨b2, 0, none⟩)), (56, .int .i64 ((m : Nat) : Int)), (57, .slice (some ⟨b87, 0, none⟩) m m)] ∧ Sat w (row 4 1 (.slice (some ⟨b87, 0, none⟩) m m) m (bools (Tr.anyR k es (vals, live) m i)) :: row 25 1 (.slice (some ⟨b86, 0, none⟩) m m) m (u64s (Tr.sumR k es (vals, live) m i)) :: row 3 1 (.slice (some ⟨b83, 0, none⟩) m m) m (ints (Tr.outsR es m p)) :: blk b11 (.cells #[.slice A6 vals.length c7, .slice A9 live.length c10] 40) :: row 4 1 (.slice A9 live.length c10) live.length (bools live) :: row 25 1 (.slice A6 vals.length c7) vals.length (u64s vals) :: blk b4 (.cells #[.slice none 0 0, .slice none 0 0] 40) :: blk b3 (.cells #[.slice Av vals.length cv, .slice Al live.length cl] 40) :: blk b2 (.cells #[.int .i64 ((m : Nat) : Int), .slice A es.length c] 35) :: blk b1 (.cells #[.int .i64 k, .int .u32 ((s : Nat) : Int)] 24) :: fr) ∧ (i ≤ es.length)) (fun i => es.length - i) 0 ⟨S.sub ⟨rfl, rfl, rfl, rfl, rfl, rfl, rfl, rfl, rfl, rfl, rfl, rfl, rfl, rfl, rfl, rfl, rfl, rfl, rfl, rfl, rfl, rfl, rfl, rfl, rfl, rfl, rfl, rfl, rfl, rfl, rfl, trivial⟩, (by rw [Tr.sumR_zero k es (vals, live) m, Tr.anyR_zero k es (vals, live) m] at H; exact H), Nat.zero_le _⟩ (fun i a w hI => ?_)
      obtain ⟨S, H, hI⟩ := hI
      have hlo := Tr.len_outsR es m p
      have l3 := Tr.len_sumR k es (vals, live) m i
      have l4 := Tr.len_anyR k es (vals, live) m i
      refine r_seq ?_
      refine r_seq ?_
      refine r_region ?_
      refine r_y S H (y_move S rfl rfl) rfl rfl rfl fun a S => ?_
      refine r_y S H (y_fieldAddr S rfl rfl fa35_1) rfl rfl rfl fun a S => ?_
      refine r_y S H (y_load 8 S rfl rfl Try.isAgg33 rfl rfl) rfl rfl rfl fun a S => ?_
      refine r_y S H (y_len S rfl rfl Try.underlying33) rfl rfl rfl fun a S => ?_
      refine r_y S H (y_lt S rfl rfl rfl) rfl rfl rfl fun a S => ?_
      refine r_nil ?_
      refine x_then ?_
      refine r_test S rfl (fun h62 => ?_) (fun h62 => ?_)
      · skip
        have hb := hee _ (getD_mem (by omega : i < es.length))
        have hb2 := hes _ (getD_mem (by omega : i < es.length))
        have hbw := hew _ (getD_mem (by omega : i < es.length))
        have hx1 := Tr.getD_top hvt (es.getD i e0).f
        have ho := Tr.outsR_all (l := es) (m := m) (i := p) (by omega) hb.1
        have ho2 := Tr.outs_le es (es.getD i e0).f
        have hs1 := Tr.sumR_top (k := k) (es := es) (c := (vals, live)) (m := m) (i := i) (v := (es.getD i e0).t) hvt
        have hm1 := Tr.msg_le (k := k) hx1 ((Tr.outsR es m p).getD (es.getD i e0).f 0) (es.getD i e0).w
        refine wp_skip ?_
        refine x_then ?_
        refine r_seq ?_
        refine r_block ?_
        refine r_seq ?_
        refine r_region ?_
        refine r_y S H (y_fieldAddr S rfl rfl fa35_1) rfl rfl rfl fun a S => ?_
        refine r_y S H (y_load 8 S rfl rfl Try.isAgg33 rfl rfl) rfl rfl rfl fun a S => ?_
        refine r_y S H (y_move S rfl rfl) rfl rfl rfl fun a S => ?_
        obtain ⟨b88, o89, rfl⟩ := ((((((((((ok.more _).more _).more _).more _).more _).more _).more _).more _).more _).more _).addr H (by first | omega | (simp <;> omega))
        refine r_y S H (y_index S rfl rfl rfl Try.underlying33 Try.sizeOf47 (by omega) (by omega)) rfl rfl rfl fun a S => ?_
        refine r_y S H (y_loadAggAt [.int .u32 (((es.getD i e0).f : Nat) : Int), .int .u32 (((es.getD i e0).t : Nat) : Int), .int .u32 (((es.getD i e0).w : Nat) : Int)] S rfl rfl (fun w => ⟨Try.isAgg47 w, Try.sizeOf47 w⟩) rfl (fun w H => ((((((((((ok.more _).more _).more _).more _).more _).more _).more _).more _).more _).more _).cells w H (ecells_from (i := i) (by first | omega | (simp <;> omega))))) rfl rfl rfl fun a S => ?_
        refine r_alloc S H rfl Try.zeroValue47 rfl rfl rfl rfl fun a w b90 S H => ?_
        refine r_store (vs := [.int .u32 (((es.getD i e0).f : Nat) : Int), .int .u32 (((es.getD i e0).t : Nat) : Int), .int .u32 (((es.getD i e0).w : Nat) : Int)]) 0 S H rfl rfl rfl rfl Try.sizeOf47 rfl rfl (by simp [Value.oneCell']) rfl rfl rfl rfl rfl fun w H => ?_
        refine r_nil ?_
        refine x_then ?_
        refine r_seq ?_
        refine r_region ?_
        refine r_y S H (y_loadAgg [_, _] 10 S rfl rfl (fun w => ⟨Try.isAgg24 w, Try.sizeOf24 w⟩) rfl rfl ⟨rfl, rfl, trivial⟩) rfl rfl rfl fun a S => ?_
        refine r_y S H (y_loadAgg [_, _] 8 S rfl rfl (fun w => ⟨Try.isAgg40 w, Try.sizeOf40 w⟩) rfl rfl ⟨rfl, rfl, trivial⟩) rfl rfl rfl fun a S => ?_
        refine r_y S H (y_fieldAddr S rfl rfl fa47_0) rfl rfl rfl fun a S => ?_
        refine r_y S H (y_load 0 S rfl rfl Try.isAgg22 rfl rfl) rfl rfl rfl fun a S => ?_
        refine r_y S H (y_conv S rfl rfl Try.underlying22 Try.underlying3 (wi64 (by omega) (by omega))) rfl rfl rfl fun a S => ?_
        refine r_call (args := #[.agg #[.int .i64 k, .int .u32 ((s : Nat) : Int)], .agg #[.slice Av vals.length cv, .slice Al live.length cl], .int .i64 (((es.getD i e0).f : Nat) : Int)]) S rfl rfl Try.call34 (rsends_ct (H := H) _ _ k s _ _ vals (((((((((((okv.more _).more _).more _).more _).more _).more _).more _).more _).more _).more _).more _) _ _ live (((((((((((okl.more _).more _).more _).more _).more _).more _).more _).more _).more _).more _).more _) (((es.getD i e0).f : Nat) : Int) (by omega)) rfl rfl rfl fun v a w hR S => ?_
        obtain ⟨rfl, H⟩ := hR
        refine r_y S H (y_assign S rfl rfl) rfl rfl rfl fun a S => ?_
        refine r_nil ?_
        refine x_then ?_
        refine r_seq ?_
        refine r_seq ?_
        refine r_region ?_
        refine r_y S H (y_move S rfl rfl) rfl rfl rfl fun a S => ?_
        refine r_y S H (y_not S rfl rfl) rfl rfl rfl fun a S => ?_
        refine r_nil ?_
        refine x_then ?_
        refine r_cond S rfl (fun h77 => ?_) (fun h77 => ?_)
        · skip
          have hsn : Tr.sends k live (es.getD i e0).f = false := by rw [← Tr.sendsI_eq hqq (by omega)]; simpa [-List.getD_eq_getElem?_getD] using h77
          refine wp_exit ?_
          refine x_thenExit ?_
          refine x_blockHere ?_
          refine x_then ?_
          refine r_region ?_
          refine r_y S H (y_move S rfl rfl) rfl rfl rfl fun a S => ?_
          refine r_y S H (y_add S rfl rfl rfl (wi64 (by omega) (by omega))) rfl rfl rfl fun a S => ?_
          refine r_y S H (y_assign S rfl rfl) rfl rfl rfl fun a S => ?_
          refine r_nil ?_
          refine x_then ?_
          have hno := Tr.sumR_no (k := k) (c := (vals, live)) (m := m) (by omega : i < es.length) hsn
          rw [hno.1, hno.2] at H
          exact ⟨i + 1, ⟨S.sub ⟨rfl, rfl, rfl, rfl, rfl, rfl, rfl, rfl, rfl, rfl, rfl, rfl, rfl, rfl, rfl, rfl, rfl, rfl, rfl, rfl, rfl, rfl, rfl, rfl, rfl, rfl, rfl, rfl, rfl, rfl, rfl, trivial⟩, H.drop, by omega⟩, by omega⟩
        · skip
          have hsy : Tr.sends k live (es.getD i e0).f = true := by rw [← Tr.sendsI_eq hqq (by omega)]; simpa [-List.getD_eq_getElem?_getD] using h77
          refine wp_skip ?_
          refine x_then ?_
          refine r_seq ?_
          obtain ⟨b91, o92, rfl⟩ := (((((((((((okv.more _).more _).more _).more _).more _).more _).more _).more _).more _).more _).more _).addr H (by first | omega | (simp <;> omega))
          refine r_quiet (n := 149) (E' := [(0, .agg #[.int .i64 k, .int .u32 ((s : Nat) : Int)]), (1, .agg #[.int .i64 ((m : Nat) : Int), .slice (some ⟨b88, o89, none⟩) es.length c]), (2, .agg #[.slice (some ⟨b91, o92, none⟩) vals.length cv, .slice Al live.length cl]), (3, .pointer (some ⟨b1, 0, none⟩)), (4, .pointer (some ⟨b2, 0, none⟩)), (5, .pointer (some ⟨b3, 0, none⟩)), (6, .pointer (some ⟨b4, 0, none⟩)), (7, .pointer (some ⟨b11, 0, none⟩)), (8, .bool (quiet live)), (9, .slice (some ⟨b83, 0, none⟩) m m), (10, .int .i64 ((p : Nat) : Int)), (11, .slice (some ⟨b86, 0, none⟩) m m), (12, .slice (some ⟨b87, 0, none⟩) m m), (13, .int .i64 ((i : Nat) : Int)), (14, .pointer (some ⟨b90, 0, none⟩)), (15, .bool (Tr.sendsI k live (((es.getD i e0).f : Nat) : Int))), (16, .int .u64 ((msg k (vals.getD ((es.getD i e0).f) 0) ((Tr.outsR es m p).getD ((es.getD i e0).f) 0) ((es.getD i e0).w) : Nat) : Int)), (27, .agg #[.slice (some ⟨b91, o92, none⟩) vals.length cv, .slice Al live.length cl]), (28, .bool (quiet live)), (29, .bool (quiet live)), (31, .pointer (some ⟨b2, 0, none⟩)), (32, .int .i64 ((m : Nat) : Int)), (33, .slice (some ⟨b83, 0, none⟩) m m), (34, .int .i64 ((p : Nat) : Int)), (35, .pointer (some ⟨b2, 1, none⟩)), (36, .slice (some ⟨b88, o89, none⟩) es.length c), (37, .int .i64 ((es.length : Nat) : Int)), (38, .bool (decide (((p : Nat) : Int) < ((es.length : Nat) : Int)))), (52, .pointer (some ⟨b2, 0, none⟩)), (53, .int .i64 ((m : Nat) : Int)), (54, .slice (some ⟨b86, 0, none⟩) m m), (55, .pointer (some ⟨b2, 0, none⟩)), (56, .int .i64 ((m : Nat) : Int)), (57, .slice (some ⟨b87, 0, none⟩) m m), (58, .int .i64 ((i : Nat) : Int)), (59, .pointer (some ⟨b2, 1, none⟩)), (60, .slice (some ⟨b88, o89, none⟩) es.length c), (61, .int .i64 ((es.length : Nat) : Int)), (62, .bool (decide (((i : Nat) : Int) < ((es.length : Nat) : Int)))), (65, .pointer (some ⟨b2, 1, none⟩)), (66, .slice (some ⟨b88, o89, none⟩) es.length c), (67, .int .i64 ((i : Nat) : Int)), (68, .pointer (some ⟨b88, o89 + i * 3, none⟩)), (69, .agg #[.int .u32 (((es.getD i e0).f : Nat) : Int), .int .u32 (((es.getD i e0).t : Nat) : Int), .int .u32 (((es.getD i e0).w : Nat) : Int)]), (70, .agg #[.int .i64 k, .int .u32 ((s : Nat) : Int)]), (71, .agg #[.slice (some ⟨b91, o92, none⟩) vals.length cv, .slice Al live.length cl]), (72, .pointer (some ⟨b90, 0, none⟩)), (73, .int .u32 (((es.getD i e0).f : Nat) : Int)), (74, .int .i64 (((es.getD i e0).f : Nat) : Int)), (75, .bool (Tr.sendsI k live (((es.getD i e0).f : Nat) : Int))), (76, .bool (Tr.sendsI k live (((es.getD i e0).f : Nat) : Int))), (77, .bool (!(Tr.sendsI k live (((es.getD i e0).f : Nat) : Int))))]) H rfl (by kernel_rfl) ?_ (fun a w S H => ?_)
          · skip
            refine q_y S (y_loadAgg [_, _] 10 S rfl rfl (fun w => ⟨Try.isAgg24 w, Try.sizeOf24 w⟩) rfl rfl ⟨rfl, rfl, trivial⟩) rfl rfl rfl fun a S => ?_
            refine q_y S (y_fieldAddr S rfl rfl fa40_0) rfl rfl rfl fun a S => ?_
            refine q_y S (y_load 8 S rfl rfl Try.isAgg37 rfl rfl) rfl rfl rfl fun a S => ?_
            refine q_y S (y_fieldAddr S rfl rfl fa47_0) rfl rfl rfl fun a S => ?_
            refine q_y S (y_load 0 S rfl rfl Try.isAgg22 rfl rfl) rfl rfl rfl fun a S => ?_
            refine q_y S (y_index S rfl rfl rfl Try.underlying37 Try.sizeOf25 (by omega) (by omega)) rfl rfl rfl fun a S => ?_
            refine q_y S (y_loadAt S rfl rfl Try.isAgg25 (fun w H => (((((((((((okv.more _).more _).more _).more _).more _).more _).more _).more _).more _).more _).more _).cell w H (u64s_at (i := ((es.getD i e0).f)) (by first | omega | (simp <;> omega))))) rfl rfl rfl fun a S => ?_
            refine q_y S (y_move S rfl rfl) rfl rfl rfl fun a S => ?_
            refine q_y S (y_fieldAddr S rfl rfl fa47_0) rfl rfl rfl fun a S => ?_
            refine q_y S (y_load 0 S rfl rfl Try.isAgg22 rfl rfl) rfl rfl rfl fun a S => ?_
            refine q_y S (y_index S rfl rfl rfl Try.underlying45 Try.sizeOf3 (by omega) (by omega)) rfl rfl rfl fun a S => ?_
            refine q_y S (y_loadAt S rfl rfl Try.isAgg3 (fun w H => (SlOk.ofRow (i := 3) H rfl).cell w H (ints_at (i := ((es.getD i e0).f)) (by first | omega | (simp <;> omega))))) rfl rfl rfl fun a S => ?_
            refine q_y S (y_fieldAddr S rfl rfl fa47_2) rfl rfl rfl fun a S => ?_
            refine q_y S (y_load 0 S rfl rfl Try.isAgg22 rfl rfl) rfl rfl rfl fun a S => ?_
            refine q_call (args := #[.agg #[.int .i64 k, .int .u32 ((s : Nat) : Int)], .int .u64 ((vals.getD ((es.getD i e0).f) 0 : Nat) : Int), .int .i64 ((Tr.outsR es m p).getD ((es.getD i e0).f) 0), .int .u32 (((es.getD i e0).w : Nat) : Int)]) S rfl rfl Try.call22 (fun w H => rmessage_ct (H := H) _ _ k s (vals.getD ((es.getD i e0).f) 0) ((Tr.outsR es m p).getD ((es.getD i e0).f) 0) ((es.getD i e0).w) (by omega) (by omega) (by omega)) rfl rfl rfl fun a S => ?_
            refine q_y S (y_assign S rfl rfl) rfl rfl rfl fun a S => ?_
            exact q_nil (S.sub ⟨rfl, rfl, rfl, rfl, rfl, rfl, rfl, rfl, rfl, rfl, rfl, rfl, rfl, rfl, rfl, rfl, rfl, rfl, rfl, rfl, rfl, rfl, rfl, rfl, rfl, rfl, rfl, rfl, rfl, rfl, rfl, rfl, rfl, rfl, rfl, rfl, rfl, rfl, rfl, rfl, rfl, rfl, rfl, rfl, rfl, rfl, rfl, rfl, rfl, rfl, rfl, rfl, trivial⟩)
          · skip
            refine x_then ?_
            refine r_seq ?_
            refine r_seq ?_
            refine r_region ?_
            refine r_y S H (y_move S rfl rfl) rfl rfl rfl fun a S => ?_
            refine r_y S H (y_fieldAddr S rfl rfl fa47_1) rfl rfl rfl fun a S => ?_
            refine r_y S H (y_load 0 S rfl rfl Try.isAgg22 rfl rfl) rfl rfl rfl fun a S => ?_
            refine r_y S H (y_index S rfl rfl rfl Try.underlying38 Try.sizeOf4 (by omega) (by omega)) rfl rfl rfl fun a S => ?_
            refine r_y S H (y_loadAt S rfl rfl Try.isAgg4 (fun w H => (SlOk.ofRow (i := 1) H rfl).cell w H (bools_at (i := ((es.getD i e0).t)) (by first | omega | (simp <;> omega))))) rfl rfl rfl fun a S => ?_
            refine r_nil ?_
            refine x_then ?_
            refine r_cond S rfl (fun h97 => ?_) (fun h97 => ?_)
            · skip
              refine r_quiet (n := 149) (E' := [(0, .agg #[.int .i64 k, .int .u32 ((s : Nat) : Int)]), (1, .agg #[.int .i64 ((m : Nat) : Int), .slice (some ⟨b88, o89, none⟩) es.length c]), (2, .agg #[.slice (some ⟨b91, o92, none⟩) vals.length cv, .slice Al live.length cl]), (3, .pointer (some ⟨b1, 0, none⟩)), (4, .pointer (some ⟨b2, 0, none⟩)), (5, .pointer (some ⟨b3, 0, none⟩)), (6, .pointer (some ⟨b4, 0, none⟩)), (7, .pointer (some ⟨b11, 0, none⟩)), (8, .bool (quiet live)), (9, .slice (some ⟨b83, 0, none⟩) m m), (10, .int .i64 ((p : Nat) : Int)), (11, .slice (some ⟨b86, 0, none⟩) m m), (12, .slice (some ⟨b87, 0, none⟩) m m), (13, .int .i64 ((i : Nat) : Int)), (14, .pointer (some ⟨b90, 0, none⟩)), (15, .bool (Tr.sendsI k live (((es.getD i e0).f : Nat) : Int))), (16, .int .u64 (((comb ((if summed k then (1 : Int) else 2) == 1) ((Tr.sumR k es (vals, live) m i).getD ((es.getD i e0).t) 0) (msg k (vals.getD ((es.getD i e0).f) 0) ((Tr.outsR es m p).getD ((es.getD i e0).f) 0) ((es.getD i e0).w))) : Nat) : Int)), (27, .agg #[.slice (some ⟨b91, o92, none⟩) vals.length cv, .slice Al live.length cl]), (28, .bool (quiet live)), (29, .bool (quiet live)), (31, .pointer (some ⟨b2, 0, none⟩)), (32, .int .i64 ((m : Nat) : Int)), (33, .slice (some ⟨b83, 0, none⟩) m m), (34, .int .i64 ((p : Nat) : Int)), (35, .pointer (some ⟨b2, 1, none⟩)), (36, .slice (some ⟨b88, o89, none⟩) es.length c), (37, .int .i64 ((es.length : Nat) : Int)), (38, .bool (decide (((p : Nat) : Int) < ((es.length : Nat) : Int)))), (52, .pointer (some ⟨b2, 0, none⟩)), (53, .int .i64 ((m : Nat) : Int)), (54, .slice (some ⟨b86, 0, none⟩) m m), (55, .pointer (some ⟨b2, 0, none⟩)), (56, .int .i64 ((m : Nat) : Int)), (57, .slice (some ⟨b87, 0, none⟩) m m), (58, .int .i64 ((i : Nat) : Int)), (59, .pointer (some ⟨b2, 1, none⟩)), (60, .slice (some ⟨b88, o89, none⟩) es.length c), (61, .int .i64 ((es.length : Nat) : Int)), (62, .bool (decide (((i : Nat) : Int) < ((es.length : Nat) : Int)))), (65, .pointer (some ⟨b2, 1, none⟩)), (66, .slice (some ⟨b88, o89, none⟩) es.length c), (67, .int .i64 ((i : Nat) : Int)), (68, .pointer (some ⟨b88, o89 + i * 3, none⟩)), (69, .agg #[.int .u32 (((es.getD i e0).f : Nat) : Int), .int .u32 (((es.getD i e0).t : Nat) : Int), .int .u32 (((es.getD i e0).w : Nat) : Int)]), (70, .agg #[.int .i64 k, .int .u32 ((s : Nat) : Int)]), (71, .agg #[.slice (some ⟨b91, o92, none⟩) vals.length cv, .slice Al live.length cl]), (72, .pointer (some ⟨b90, 0, none⟩)), (73, .int .u32 (((es.getD i e0).f : Nat) : Int)), (74, .int .i64 (((es.getD i e0).f : Nat) : Int)), (75, .bool (Tr.sendsI k live (((es.getD i e0).f : Nat) : Int))), (76, .bool (Tr.sendsI k live (((es.getD i e0).f : Nat) : Int))), (77, .bool (!(Tr.sendsI k live (((es.getD i e0).f : Nat) : Int)))), (93, .slice (some ⟨b87, 0, none⟩) m m), (94, .pointer (some ⟨b90, 1, none⟩)), (95, .int .u32 (((es.getD i e0).t : Nat) : Int)), (96, .pointer (some ⟨b87, 0 + ((es.getD i e0).t) * 1, none⟩)), (97, .bool ((Tr.anyR k es (vals, live) m i).getD ((es.getD i e0).t) false))]) H rfl (by kernel_rfl) ?_ (fun a w S H => ?_)
              · skip
                refine q_y S (y_loadAgg [_, _] 10 S rfl rfl (fun w => ⟨Try.isAgg24 w, Try.sizeOf24 w⟩) rfl rfl ⟨rfl, rfl, trivial⟩) rfl rfl rfl fun a S => ?_
                refine q_call (args := #[.agg #[.int .i64 k, .int .u32 ((s : Nat) : Int)]]) S rfl rfl Try.call20 (fun w H => rhow_ct (H := H) _ _ k s) rfl rfl rfl fun a S => ?_
                refine q_y S (y_move S rfl rfl) rfl rfl rfl fun a S => ?_
                refine q_y S (y_fieldAddr S rfl rfl fa47_1) rfl rfl rfl fun a S => ?_
                refine q_y S (y_load 0 S rfl rfl Try.isAgg22 rfl rfl) rfl rfl rfl fun a S => ?_
                refine q_y S (y_index S rfl rfl rfl Try.underlying37 Try.sizeOf25 (by omega) (by omega)) rfl rfl rfl fun a S => ?_
                refine q_y S (y_loadAt S rfl rfl Try.isAgg25 (fun w H => (SlOk.ofRow (i := 2) H rfl).cell w H (u64s_at (i := ((es.getD i e0).t)) (by first | omega | (simp <;> omega))))) rfl rfl rfl fun a S => ?_
                refine q_y S (y_move S rfl rfl) rfl rfl rfl fun a S => ?_
                refine q_call (args := #[.int .i64 (if summed k then 1 else 2), .int .u64 (((Tr.sumR k es (vals, live) m i).getD ((es.getD i e0).t) 0 : Nat) : Int), .int .u64 ((msg k (vals.getD ((es.getD i e0).f) 0) ((Tr.outsR es m p).getD ((es.getD i e0).f) 0) ((es.getD i e0).w) : Nat) : Int)]) S rfl rfl Try.call37 (fun w H => rcombine_ct (H := H) _ _ (if summed k then 1 else 2) ((Tr.sumR k es (vals, live) m i).getD ((es.getD i e0).t) 0) (msg k (vals.getD ((es.getD i e0).f) 0) ((Tr.outsR es m p).getD ((es.getD i e0).f) 0) ((es.getD i e0).w)) (by omega) (by omega)) rfl rfl rfl fun a S => ?_
                refine q_y S (y_assign S rfl rfl) rfl rfl rfl fun a S => ?_
                exact q_nil (S.sub ⟨rfl, rfl, rfl, rfl, rfl, rfl, rfl, rfl, rfl, rfl, rfl, rfl, rfl, rfl, rfl, rfl, rfl, rfl, rfl, rfl, rfl, rfl, rfl, rfl, rfl, rfl, rfl, rfl, rfl, rfl, rfl, rfl, rfl, rfl, rfl, rfl, rfl, rfl, rfl, rfl, rfl, rfl, rfl, rfl, rfl, rfl, rfl, rfl, rfl, rfl, rfl, rfl, rfl, rfl, rfl, rfl, rfl, trivial⟩)
              · skip
                refine x_then ?_
                refine r_seq ?_
                refine r_region ?_
                refine r_y S H (y_move S rfl rfl) rfl rfl rfl fun a S => ?_
                refine r_y S H (y_fieldAddr S rfl rfl fa47_1) rfl rfl rfl fun a S => ?_
                refine r_y S H (y_load 0 S rfl rfl Try.isAgg22 rfl rfl) rfl rfl rfl fun a S => ?_
                refine r_y S H (y_index S rfl rfl rfl Try.underlying38 Try.sizeOf4 (by omega) (by omega)) rfl rfl rfl fun a S => ?_
                refine r_setRowV (L' := blk b90 (.cells #[.int .u32 (((es.getD i e0).f : Nat) : Int), .int .u32 (((es.getD i e0).t : Nat) : Int), .int .u32 (((es.getD i e0).w : Nat) : Int)] 47) :: row 4 1 (.slice (some ⟨b87, 0, none⟩) m m) m (bools ((Tr.anyR k es (vals, live) m i).set ((es.getD i e0).t) true)) :: row 25 1 (.slice (some ⟨b86, 0, none⟩) m m) m (u64s (Tr.sumR k es (vals, live) m i)) :: row 3 1 (.slice (some ⟨b83, 0, none⟩) m m) m (ints (Tr.outsR es m p)) :: blk b11 (.cells #[.slice A6 vals.length c7, .slice A9 live.length c10] 40) :: row 4 1 (.slice A9 live.length c10) live.length (bools live) :: row 25 1 (.slice A6 vals.length c7) vals.length (u64s vals) :: blk b4 (.cells #[.slice none 0 0, .slice none 0 0] 40) :: blk b3 (.cells #[.slice (some ⟨b91, o92, none⟩) vals.length cv, .slice Al live.length cl] 40) :: blk b2 (.cells #[.int .i64 ((m : Nat) : Int), .slice (some ⟨b88, o89, none⟩) es.length c] 35) :: blk b1 (.cells #[.int .i64 k, .int .u32 ((s : Nat) : Int)] 24) :: fr) 1 S H rfl rfl rfl rfl Try.sizeOf4 rfl rfl (by first | omega | (simp <;> omega)) (xs' := bools ((Tr.anyR k es (vals, live) m i).set ((es.getD i e0).t) true)) (bools_put (by omega) rfl) rfl rfl rfl fun w H => ?_
                refine r_nil ?_
                refine x_then ?_
                refine r_region ?_
                refine r_y S H (y_move S rfl rfl) rfl rfl rfl fun a S => ?_
                refine r_y S H (y_fieldAddr S rfl rfl fa47_1) rfl rfl rfl fun a S => ?_
                refine r_y S H (y_load 0 S rfl rfl Try.isAgg22 rfl rfl) rfl rfl rfl fun a S => ?_
                refine r_y S H (y_move S rfl rfl) rfl rfl rfl fun a S => ?_
                refine r_y S H (y_index S rfl rfl rfl Try.underlying37 Try.sizeOf25 (by omega) (by omega)) rfl rfl rfl fun a S => ?_
                refine r_setRowV (L' := blk b90 (.cells #[.int .u32 (((es.getD i e0).f : Nat) : Int), .int .u32 (((es.getD i e0).t : Nat) : Int), .int .u32 (((es.getD i e0).w : Nat) : Int)] 47) :: row 4 1 (.slice (some ⟨b87, 0, none⟩) m m) m (bools ((Tr.anyR k es (vals, live) m i).set ((es.getD i e0).t) true)) :: row 25 1 (.slice (some ⟨b86, 0, none⟩) m m) m (u64s ((Tr.sumR k es (vals, live) m i).set ((es.getD i e0).t) (comb ((if summed k then (1 : Int) else 2) == 1) ((Tr.sumR k es (vals, live) m i).getD ((es.getD i e0).t) 0) (msg k (vals.getD ((es.getD i e0).f) 0) ((Tr.outsR es m p).getD ((es.getD i e0).f) 0) ((es.getD i e0).w))))) :: row 3 1 (.slice (some ⟨b83, 0, none⟩) m m) m (ints (Tr.outsR es m p)) :: blk b11 (.cells #[.slice A6 vals.length c7, .slice A9 live.length c10] 40) :: row 4 1 (.slice A9 live.length c10) live.length (bools live) :: row 25 1 (.slice A6 vals.length c7) vals.length (u64s vals) :: blk b4 (.cells #[.slice none 0 0, .slice none 0 0] 40) :: blk b3 (.cells #[.slice (some ⟨b91, o92, none⟩) vals.length cv, .slice Al live.length cl] 40) :: blk b2 (.cells #[.int .i64 ((m : Nat) : Int), .slice (some ⟨b88, o89, none⟩) es.length c] 35) :: blk b1 (.cells #[.int .i64 k, .int .u32 ((s : Nat) : Int)] 24) :: fr) 2 S H rfl rfl rfl rfl Try.sizeOf25 rfl rfl (by first | omega | (simp <;> omega)) (xs' := u64s ((Tr.sumR k es (vals, live) m i).set ((es.getD i e0).t) (comb ((if summed k then (1 : Int) else 2) == 1) ((Tr.sumR k es (vals, live) m i).getD ((es.getD i e0).t) 0) (msg k (vals.getD ((es.getD i e0).f) 0) ((Tr.outsR es m p).getD ((es.getD i e0).f) 0) ((es.getD i e0).w))))) (u64s_put (by omega) rfl) rfl rfl rfl fun w H => ?_
                refine r_nil ?_
                refine x_blockEnd ?_
                refine x_then ?_
                refine r_region ?_
                refine r_y S H (y_move S rfl rfl) rfl rfl rfl fun a S => ?_
                refine r_y S H (y_add S rfl rfl rfl (wi64 (by omega) (by omega))) rfl rfl rfl fun a S => ?_
                refine r_y S H (y_assign S rfl rfl) rfl rfl rfl fun a S => ?_
                refine r_nil ?_
                refine x_then ?_
                have hys := Tr.sumR_yes (k := k) (c := (vals, live)) (m := m) (x := (comb ((if summed k then (1 : Int) else 2) == 1) ((Tr.sumR k es (vals, live) m i).getD ((es.getD i e0).t) 0) (msg k (vals.getD ((es.getD i e0).f) 0) ((Tr.outsR es m p).getD ((es.getD i e0).f) 0) ((es.getD i e0).w)))) (by omega : i < es.length) hb.2 hsy ho (by rw [if_pos h97, Tr.summed_eq])
                rw [hys.1, hys.2] at H
                exact ⟨i + 1, ⟨S.sub ⟨rfl, rfl, rfl, rfl, rfl, rfl, rfl, rfl, rfl, rfl, rfl, rfl, rfl, rfl, rfl, rfl, rfl, rfl, rfl, rfl, rfl, rfl, rfl, rfl, rfl, rfl, rfl, rfl, rfl, rfl, rfl, trivial⟩, (H.pick [1, 2, 3, 4, 5, 6, 7, 8, 9, 10] 11 rfl), by omega⟩, by omega⟩
            · skip
              refine wp_skip ?_
              refine x_then ?_
              refine r_seq ?_
              refine r_region ?_
              refine r_y S H (y_move S rfl rfl) rfl rfl rfl fun a S => ?_
              refine r_y S H (y_fieldAddr S rfl rfl fa47_1) rfl rfl rfl fun a S => ?_
              refine r_y S H (y_load 0 S rfl rfl Try.isAgg22 rfl rfl) rfl rfl rfl fun a S => ?_
              refine r_y S H (y_index S rfl rfl rfl Try.underlying38 Try.sizeOf4 (by omega) (by omega)) rfl rfl rfl fun a S => ?_
              refine r_setRowV (L' := blk b90 (.cells #[.int .u32 (((es.getD i e0).f : Nat) : Int), .int .u32 (((es.getD i e0).t : Nat) : Int), .int .u32 (((es.getD i e0).w : Nat) : Int)] 47) :: row 4 1 (.slice (some ⟨b87, 0, none⟩) m m) m (bools ((Tr.anyR k es (vals, live) m i).set ((es.getD i e0).t) true)) :: row 25 1 (.slice (some ⟨b86, 0, none⟩) m m) m (u64s (Tr.sumR k es (vals, live) m i)) :: row 3 1 (.slice (some ⟨b83, 0, none⟩) m m) m (ints (Tr.outsR es m p)) :: blk b11 (.cells #[.slice A6 vals.length c7, .slice A9 live.length c10] 40) :: row 4 1 (.slice A9 live.length c10) live.length (bools live) :: row 25 1 (.slice A6 vals.length c7) vals.length (u64s vals) :: blk b4 (.cells #[.slice none 0 0, .slice none 0 0] 40) :: blk b3 (.cells #[.slice (some ⟨b91, o92, none⟩) vals.length cv, .slice Al live.length cl] 40) :: blk b2 (.cells #[.int .i64 ((m : Nat) : Int), .slice (some ⟨b88, o89, none⟩) es.length c] 35) :: blk b1 (.cells #[.int .i64 k, .int .u32 ((s : Nat) : Int)] 24) :: fr) 1 S H rfl rfl rfl rfl Try.sizeOf4 rfl rfl (by first | omega | (simp <;> omega)) (xs' := bools ((Tr.anyR k es (vals, live) m i).set ((es.getD i e0).t) true)) (bools_put (by omega) rfl) rfl rfl rfl fun w H => ?_
              refine r_nil ?_
              refine x_then ?_
              refine r_region ?_
              refine r_y S H (y_move S rfl rfl) rfl rfl rfl fun a S => ?_
              refine r_y S H (y_fieldAddr S rfl rfl fa47_1) rfl rfl rfl fun a S => ?_
              refine r_y S H (y_load 0 S rfl rfl Try.isAgg22 rfl rfl) rfl rfl rfl fun a S => ?_
              refine r_y S H (y_move S rfl rfl) rfl rfl rfl fun a S => ?_
              refine r_y S H (y_index S rfl rfl rfl Try.underlying37 Try.sizeOf25 (by omega) (by omega)) rfl rfl rfl fun a S => ?_
              refine r_setRowV (L' := blk b90 (.cells #[.int .u32 (((es.getD i e0).f : Nat) : Int), .int .u32 (((es.getD i e0).t : Nat) : Int), .int .u32 (((es.getD i e0).w : Nat) : Int)] 47) :: row 4 1 (.slice (some ⟨b87, 0, none⟩) m m) m (bools ((Tr.anyR k es (vals, live) m i).set ((es.getD i e0).t) true)) :: row 25 1 (.slice (some ⟨b86, 0, none⟩) m m) m (u64s ((Tr.sumR k es (vals, live) m i).set ((es.getD i e0).t) (msg k (vals.getD ((es.getD i e0).f) 0) ((Tr.outsR es m p).getD ((es.getD i e0).f) 0) ((es.getD i e0).w)))) :: row 3 1 (.slice (some ⟨b83, 0, none⟩) m m) m (ints (Tr.outsR es m p)) :: blk b11 (.cells #[.slice A6 vals.length c7, .slice A9 live.length c10] 40) :: row 4 1 (.slice A9 live.length c10) live.length (bools live) :: row 25 1 (.slice A6 vals.length c7) vals.length (u64s vals) :: blk b4 (.cells #[.slice none 0 0, .slice none 0 0] 40) :: blk b3 (.cells #[.slice (some ⟨b91, o92, none⟩) vals.length cv, .slice Al live.length cl] 40) :: blk b2 (.cells #[.int .i64 ((m : Nat) : Int), .slice (some ⟨b88, o89, none⟩) es.length c] 35) :: blk b1 (.cells #[.int .i64 k, .int .u32 ((s : Nat) : Int)] 24) :: fr) 2 S H rfl rfl rfl rfl Try.sizeOf25 rfl rfl (by first | omega | (simp <;> omega)) (xs' := u64s ((Tr.sumR k es (vals, live) m i).set ((es.getD i e0).t) (msg k (vals.getD ((es.getD i e0).f) 0) ((Tr.outsR es m p).getD ((es.getD i e0).f) 0) ((es.getD i e0).w)))) (u64s_put (by omega) rfl) rfl rfl rfl fun w H => ?_
              refine r_nil ?_
              refine x_blockEnd ?_
              refine x_then ?_
              refine r_region ?_
              refine r_y S H (y_move S rfl rfl) rfl rfl rfl fun a S => ?_
              refine r_y S H (y_add S rfl rfl rfl (wi64 (by omega) (by omega))) rfl rfl rfl fun a S => ?_
              refine r_y S H (y_assign S rfl rfl) rfl rfl rfl fun a S => ?_
              refine r_nil ?_
              refine x_then ?_
              have hys := Tr.sumR_yes (k := k) (c := (vals, live)) (m := m) (x := (msg k (vals.getD ((es.getD i e0).f) 0) ((Tr.outsR es m p).getD ((es.getD i e0).f) 0) ((es.getD i e0).w))) (by omega : i < es.length) hb.2 hsy ho (by rw [if_neg (by rw [h97]; decide)])
              rw [hys.1, hys.2] at H
              exact ⟨i + 1, ⟨S.sub ⟨rfl, rfl, rfl, rfl, rfl, rfl, rfl, rfl, rfl, rfl, rfl, rfl, rfl, rfl, rfl, rfl, rfl, rfl, rfl, rfl, rfl, rfl, rfl, rfl, rfl, rfl, rfl, rfl, rfl, rfl, rfl, trivial⟩, (H.pick [1, 2, 3, 4, 5, 6, 7, 8, 9, 10] 11 rfl), by omega⟩, by omega⟩
      · skip
        refine wp_exit ?_
        refine x_thenExit ?_
        refine x_thenExit ?_
        refine x_blockHere ?_
        refine x_then ?_
        refine r_seq ?_
        refine r_seq ?_
        refine r_region ?_
        refine r_y S H (y_assign S rfl rfl) rfl rfl rfl fun a S => ?_
        refine r_nil ?_
        refine x_then ?_
        refine r_block ?_
        refine r_loop (ι := Nat) (fun q a w => Slots a 149 [(0, .agg #[.int .i64 k, .int .u32 ((s : Nat) : Int)]), (1, .agg #[.int .i64 ((m : Nat) : Int), .slice A es.length c]), (2, .agg #[.slice Av vals.length cv, .slice Al live.length cl]), (3, .pointer (some ⟨b1, 0, none⟩)), (4, .pointer (some ⟨b2, 0, none⟩)), (5, .pointer (some ⟨b3, 0, none⟩)), (6, .pointer (some ⟨b4, 0, none⟩)), (7, .pointer (some ⟨b11, 0, none⟩)), (8, .bool (quiet live)), (9, .slice (some ⟨b83, 0, none⟩) m m), (10, .int .i64 ((p : Nat) : Int)), (11, .slice (some ⟨b86, 0, none⟩) m m), (12, .slice (some ⟨b87, 0, none⟩) m m), (13, .int .i64 ((i : Nat) : Int)), (17, .int .i64 ((q : Nat) : Int)), (27, .agg #[.slice Av vals.length cv, .slice Al live.length cl]), (28, .bool (quiet live)), (29, .bool (quiet live)), (31, .pointer (some ⟨b2, 0, none⟩)), (32, .int .i64 ((m : Nat) : Int)), (33, .slice (some ⟨b83, 0, none⟩) m m), (34, .int .i64 ((p : Nat) : Int)), (35, .pointer (some ⟨b2, 1, none⟩)), (36, .slice A es.length c), (37, .int .i64 ((es.length : Nat) : Int)), (38, .bool (decide (((p : Nat) : Int) < ((es.length : Nat) : Int)))), (52, .pointer (some ⟨b2, 0, none⟩)), (53, .int .i64 ((m : Nat) : Int)), (54, .slice (some ⟨b86, 0, none⟩) m m), (55, .pointer (some ⟨b2, 0, none⟩)), (56, .int .i64 ((m : Nat) : Int)), (57, .slice (some ⟨b87, 0, none⟩) m m), (58, .int .i64 ((i : Nat) : Int)), (59, .pointer (some ⟨b2, 1, none⟩)), (60, .slice A es.length c), (61, .int .i64 ((es.length : Nat) : Int)), (62, .bool (decide (((i : Nat) : Int) < ((es.length : Nat) : Int))))] ∧ Sat w (row 4 1 (.slice (some ⟨b87, 0, none⟩) m m) m (bools (Tr.anyR k es (vals, live) m i)) :: row 25 1 (.slice (some ⟨b86, 0, none⟩) m m) m (u64s (Tr.sumR k es (vals, live) m i)) :: row 3 1 (.slice (some ⟨b83, 0, none⟩) m m) m (ints (Tr.outsR es m p)) :: blk b11 (.cells #[.slice A6 vals.length c7, .slice A9 live.length c10] 40) :: row 4 1 (.slice A9 live.length c10) live.length (bools (fill (fun v => (Tr.nexts k es (vals, live) v).2) live q)) :: row 25 1 (.slice A6 vals.length c7) vals.length (u64s (fill (fun v => (Tr.nexts k es (vals, live) v).1) vals q)) :: blk b4 (.cells #[.slice none 0 0, .slice none 0 0] 40) :: blk b3 (.cells #[.slice Av vals.length cv, .slice Al live.length cl] 40) :: blk b2 (.cells #[.int .i64 ((m : Nat) : Int), .slice A es.length c] 35) :: blk b1 (.cells #[.int .i64 k, .int .u32 ((s : Nat) : Int)] 24) :: fr) ∧ (q ≤ m)) (fun q => m - q) 0 ⟨S.sub ⟨rfl, rfl, rfl, rfl, rfl, rfl, rfl, rfl, rfl, rfl, rfl, rfl, rfl, rfl, rfl, rfl, rfl, rfl, rfl, rfl, rfl, rfl, rfl, rfl, rfl, rfl, rfl, rfl, rfl, rfl, rfl, rfl, rfl, rfl, rfl, rfl, rfl, trivial⟩, (by rw [fill_zero, fill_zero]; exact H), Nat.zero_le _⟩ (fun q a w hI => ?_)
        obtain ⟨S, H, hI⟩ := hI
        have l1 : (fill (fun v => (Tr.nexts k es (vals, live) v).1) vals q).length = vals.length := fill_len (by omega)
        have l2 : (fill (fun v => (Tr.nexts k es (vals, live) v).2) live q).length = live.length := fill_len (by omega)
        have l3 := Tr.len_sumR k es (vals, live) m i
        have l4 := Tr.len_anyR k es (vals, live) m i
        refine r_seq ?_
        refine r_seq ?_
        refine r_region ?_
        refine r_y S H (y_move S rfl rfl) rfl rfl rfl fun a S => ?_
        refine r_y S H (y_fieldAddr S rfl rfl fa35_0) rfl rfl rfl fun a S => ?_
        refine r_y S H (y_load 8 S rfl rfl Try.isAgg3 rfl rfl) rfl rfl rfl fun a S => ?_
        refine r_y S H (y_lt S rfl rfl rfl) rfl rfl rfl fun a S => ?_
        refine r_nil ?_
        refine x_then ?_
        refine r_test S rfl (fun h119 => ?_) (fun h119 => ?_)
        · skip
          have hx1 := Tr.getD_top hvt q
          have hs1 := Tr.sumR_top (k := k) (es := es) (c := (vals, live)) (m := m) (i := i) (v := q) hvt
          refine wp_skip ?_
          refine x_then ?_
          refine r_seq ?_
          refine r_block ?_
          refine h_start (row 4 1 (.slice (some ⟨b87, 0, none⟩) m m) m (bools (Tr.anyR k es (vals, live) m i)) :: row 25 1 (.slice (some ⟨b86, 0, none⟩) m m) m (u64s (Tr.sumR k es (vals, live) m i)) :: row 3 1 (.slice (some ⟨b83, 0, none⟩) m m) m (ints (Tr.outsR es m p)) :: blk b11 (.cells #[.slice A6 vals.length c7, .slice A9 live.length c10] 40) :: blk b4 (.cells #[.slice none 0 0, .slice none 0 0] 40) :: blk b3 (.cells #[.slice Av vals.length cv, .slice Al live.length cl] 40) :: blk b2 (.cells #[.int .i64 ((m : Nat) : Int), .slice A es.length c] 35) :: blk b1 (.cells #[.int .i64 k, .int .u32 ((s : Nat) : Int)] 24) :: fr) (ls := [false, false, false, false, false, false, false, false, false, false, false, false, false, false, false, false, false, false, false, false, false, false, false, false, false, false, false, false]) H rfl rfl fun w H => ?_
          have HS : Sat _ (row 4 1 (.slice (some ⟨b87, 0, none⟩) m m) m (bools (Tr.anyR k es (vals, live) m i)) :: row 25 1 (.slice (some ⟨b86, 0, none⟩) m m) m (u64s (Tr.sumR k es (vals, live) m i)) :: row 3 1 (.slice (some ⟨b83, 0, none⟩) m m) m (ints (Tr.outsR es m p)) :: blk b11 (.cells #[.slice A6 vals.length c7, .slice A9 live.length c10] 40) :: blk b4 (.cells #[.slice none 0 0, .slice none 0 0] 40) :: blk b3 (.cells #[.slice Av vals.length cv, .slice Al live.length cl] 40) :: blk b2 (.cells #[.int .i64 ((m : Nat) : Int), .slice A es.length c] 35) :: blk b1 (.cells #[.int .i64 k, .int .u32 ((s : Nat) : Int)] 24) :: fr) := (H.pick [0, 1, 2, 3, 6, 7, 8, 9] 10 rfl)
          refine h_y 0 S HS rfl (y_fieldAddr S rfl rfl fa40_0) rfl rfl rfl (by kernel_rfl) (by kernel_rfl) (by kernel_rfl) (ls' := [true, false, false, false, false, false, false, false, false, false, false, false, false, false, false, false, false, false, false, false, false, false, false, false, false, false, false, false]) rfl (fun _ _ _ h => h) fun a S => ?_
          refine h_y 1 S HS rfl (y_load 3 S rfl rfl Try.isAgg37 rfl rfl) rfl rfl rfl (by kernel_rfl) (by kernel_rfl) (by kernel_rfl) (ls' := [true, true, false, false, false, false, false, false, false, false, false, false, false, false, false, false, false, false, false, false, false, false, false, false, false, false, false, false]) rfl (fun _ _ _ h => h) fun a S => ?_
          refine h_y 2 S HS rfl (y_move S rfl rfl) rfl rfl rfl (by kernel_rfl) (by kernel_rfl) (by kernel_rfl) (ls' := [true, true, true, false, false, false, false, false, false, false, false, false, false, false, false, false, false, false, false, false, false, false, false, false, false, false, false, false]) rfl (fun _ _ _ h => h) fun a S => ?_
          refine h_y 3 S HS rfl (y_fieldAddr S rfl rfl fa40_1) rfl rfl rfl (by kernel_rfl) (by kernel_rfl) (by kernel_rfl) (ls' := [true, true, true, true, false, false, false, false, false, false, false, false, false, false, false, false, false, false, false, false, false, false, false, false, false, false, false, false]) rfl (fun _ _ _ h => h) fun a S => ?_
          refine h_y 4 S HS rfl (y_load 3 S rfl rfl Try.isAgg38 rfl rfl) rfl rfl rfl (by kernel_rfl) (by kernel_rfl) (by kernel_rfl) (ls' := [true, true, true, true, true, false, false, false, false, false, false, false, false, false, false, false, false, false, false, false, false, false, false, false, false, false, false, false]) rfl (fun _ _ _ h => h) fun a S => ?_
          refine h_y 5 S HS rfl (y_move S rfl rfl) rfl rfl rfl (by kernel_rfl) (by kernel_rfl) (by kernel_rfl) (ls' := [true, true, true, true, true, true, false, false, false, false, false, false, false, false, false, false, false, false, false, false, false, false, false, false, false, false, false, false]) rfl (fun _ _ _ h => h) fun a S => ?_
          refine h_y 6 S HS rfl (y_loadAgg [_, _] 7 S rfl rfl (fun w => ⟨Try.isAgg24 w, Try.sizeOf24 w⟩) rfl rfl ⟨rfl, rfl, trivial⟩) rfl rfl rfl (by kernel_rfl) (by kernel_rfl) (by kernel_rfl) (ls' := [true, true, true, true, true, true, true, false, false, false, false, false, false, false, false, false, false, false, false, false, false, false, false, false, false, false, false, false]) rfl (fun _ _ _ h => h) fun a S => ?_
          refine h_y 7 S HS rfl (y_fieldAddr S rfl rfl fa40_0) rfl rfl rfl (by kernel_rfl) (by kernel_rfl) (by kernel_rfl) (ls' := [true, true, true, true, true, true, true, true, false, false, false, false, false, false, false, false, false, false, false, false, false, false, false, false, false, false, false, false]) rfl (fun _ _ _ h => h) fun a S => ?_
          refine h_y 8 S HS rfl (y_load 5 S rfl rfl Try.isAgg37 rfl rfl) rfl rfl rfl (by kernel_rfl) (by kernel_rfl) (by kernel_rfl) (ls' := [true, true, true, true, true, true, true, true, true, false, false, false, false, false, false, false, false, false, false, false, false, false, false, false, false, false, false, false]) rfl (fun _ _ _ h => h) fun a S => ?_
          refine h_y 9 S HS rfl (y_move S rfl rfl) rfl rfl rfl (by kernel_rfl) (by kernel_rfl) (by kernel_rfl) (ls' := [true, true, true, true, true, true, true, true, true, true, false, false, false, false, false, false, false, false, false, false, false, false, false, false, false, false, false, false]) rfl (fun _ _ _ h => h) fun a S => ?_
          obtain ⟨b93, o94, rfl⟩ := ((((((((okv.more _).more _).more _).more _).more _).more _).more _).more _).addr HS (by first | omega | (simp <;> omega))
          refine h_y 10 S HS rfl (y_index S rfl rfl rfl Try.underlying37 Try.sizeOf25 (by omega) (by omega)) rfl rfl rfl (by kernel_rfl) (by kernel_rfl) (by kernel_rfl) (ls' := [true, true, true, true, true, true, true, true, true, true, true, false, false, false, false, false, false, false, false, false, false, false, false, false, false, false, false, false]) rfl (fun _ _ _ h => h) fun a S => ?_
          refine h_y 11 S HS rfl (y_loadAt S rfl rfl Try.isAgg25 (fun w H => ((((((((okv.more _).more _).more _).more _).more _).more _).more _).more _).cell w H (u64s_at (i := q) (by first | omega | (simp <;> omega))))) rfl rfl rfl (by kernel_rfl) (by kernel_rfl) (by kernel_rfl) (ls' := [true, true, true, true, true, true, true, true, true, true, true, true, false, false, false, false, false, false, false, false, false, false, false, false, false, false, false, false]) rfl (fun _ _ _ h => h) fun a S => ?_
          refine h_y 12 S HS rfl (y_move S rfl rfl) rfl rfl rfl (by kernel_rfl) (by kernel_rfl) (by kernel_rfl) (ls' := [true, true, true, true, true, true, true, true, true, true, true, true, true, false, false, false, false, false, false, false, false, false, false, false, false, false, false, false]) rfl (fun _ _ _ h => h) fun a S => ?_
          refine h_y 13 S HS rfl (y_move S rfl rfl) rfl rfl rfl (by kernel_rfl) (by kernel_rfl) (by kernel_rfl) (ls' := [true, true, true, true, true, true, true, true, true, true, true, true, true, true, false, false, false, false, false, false, false, false, false, false, false, false, false, false]) rfl (fun _ _ _ h => h) fun a S => ?_
          refine h_y 14 S HS rfl (y_index S rfl rfl rfl Try.underlying37 Try.sizeOf25 (by omega) (by omega)) rfl rfl rfl (by kernel_rfl) (by kernel_rfl) (by kernel_rfl) (ls' := [true, true, true, true, true, true, true, true, true, true, true, true, true, true, true, false, false, false, false, false, false, false, false, false, false, false, false, false]) rfl (fun _ _ _ h => h) fun a S => ?_
          refine h_y 15 S HS rfl (y_loadAt S rfl rfl Try.isAgg25 (fun w H => (SlOk.ofRow (i := 1) HS rfl).cell w H (u64s_at (i := q) (by first | omega | (simp <;> omega))))) rfl rfl rfl (by kernel_rfl) (by kernel_rfl) (by kernel_rfl) (ls' := [true, true, true, true, true, true, true, true, true, true, true, true, true, true, true, true, false, false, false, false, false, false, false, false, false, false, false, false]) rfl (fun _ _ _ h => h) fun a S => ?_
          refine h_y 16 S HS rfl (y_move S rfl rfl) rfl rfl rfl (by kernel_rfl) (by kernel_rfl) (by kernel_rfl) (ls' := [true, true, true, true, true, true, true, true, true, true, true, true, true, true, true, true, true, false, false, false, false, false, false, false, false, false, false, false]) rfl (fun _ _ _ h => h) fun a S => ?_
          refine h_y 17 S HS rfl (y_move S rfl rfl) rfl rfl rfl (by kernel_rfl) (by kernel_rfl) (by kernel_rfl) (ls' := [true, true, true, true, true, true, true, true, true, true, true, true, true, true, true, true, true, true, false, false, false, false, false, false, false, false, false, false]) rfl (fun _ _ _ h => h) fun a S => ?_
          refine h_y 18 S HS rfl (y_index S rfl rfl rfl Try.underlying38 Try.sizeOf4 (by omega) (by omega)) rfl rfl rfl (by kernel_rfl) (by kernel_rfl) (by kernel_rfl) (ls' := [true, true, true, true, true, true, true, true, true, true, true, true, true, true, true, true, true, true, true, false, false, false, false, false, false, false, false, false]) rfl (fun _ _ _ h => h) fun a S => ?_
          refine h_y 19 S HS rfl (y_loadAt S rfl rfl Try.isAgg4 (fun w H => (SlOk.ofRow (i := 0) HS rfl).cell w H (bools_at (i := q) (by first | omega | (simp <;> omega))))) rfl rfl rfl (by kernel_rfl) (by kernel_rfl) (by kernel_rfl) (ls' := [true, true, true, true, true, true, true, true, true, true, true, true, true, true, true, true, true, true, true, true, false, false, false, false, false, false, false, false]) rfl (fun _ _ _ h => h) fun a S => ?_
          refine h_all (r := 20) (rs := []) (by kernel_rfl) ⟨h_op (ls' := [true, true, true, true, true, true, true, true, true, true, true, true, true, true, true, true, true, true, true, true, true, false, false, false, false, false, false, false]) rfl rfl ?_, trivial⟩
          refine r_call (args := #[.agg #[.int .i64 k, .int .u32 ((s : Nat) : Int)], .int .u64 ((vals.getD q 0 : Nat) : Int), .int .u64 (((Tr.sumR k es (vals, live) m i).getD q 0 : Nat) : Int), .bool ((Tr.anyR k es (vals, live) m i).getD q false)]) S rfl rfl Try.call18 (rnext_ct (H := H) _ _ k s (vals.getD q 0) ((Tr.sumR k es (vals, live) m i).getD q 0) ((Tr.anyR k es (vals, live) m i).getD q false) (by omega) (by omega)) rfl rfl rfl fun v a w hR S => ?_
          obtain ⟨rfl, H⟩ := hR
          refine r_nil ?_
          refine x_then ?_
          have HS : Sat _ (row 4 1 (.slice (some ⟨b87, 0, none⟩) m m) m (bools (Tr.anyR k es (vals, live) m i)) :: row 25 1 (.slice (some ⟨b86, 0, none⟩) m m) m (u64s (Tr.sumR k es (vals, live) m i)) :: row 3 1 (.slice (some ⟨b83, 0, none⟩) m m) m (ints (Tr.outsR es m p)) :: blk b11 (.cells #[.slice A6 vals.length c7, .slice A9 live.length c10] 40) :: blk b4 (.cells #[.slice none 0 0, .slice none 0 0] 40) :: blk b3 (.cells #[.slice (some ⟨b93, o94, none⟩) vals.length cv, .slice Al live.length cl] 40) :: blk b2 (.cells #[.int .i64 ((m : Nat) : Int), .slice A es.length c] 35) :: blk b1 (.cells #[.int .i64 k, .int .u32 ((s : Nat) : Int)] 24) :: fr) := (H.pick [0, 1, 2, 3, 6, 7, 8, 9] 10 rfl)
          refine ⟨HS, ?_⟩
          refine h_y 21 S HS rfl (y_move S rfl rfl) rfl rfl rfl (by kernel_rfl) (by kernel_rfl) (by kernel_rfl) (ls' := [true, true, true, true, true, true, true, true, true, true, true, true, true, true, true, true, true, true, true, true, true, true, false, false, false, false, false, false]) rfl (fun _ _ _ h => h) fun a S => ?_
          refine h_y 22 S HS rfl (y_extract (v := .int .u64 (((nxt k (vals.getD q 0) ((Tr.sumR k es (vals, live) m i).getD q 0) ((Tr.anyR k es (vals, live) m i).getD q false)).1 : Nat) : Int)) S rfl rfl rfl) rfl rfl rfl (by kernel_rfl) (by kernel_rfl) (by kernel_rfl) (ls' := [true, true, true, true, true, true, true, true, true, true, true, true, true, true, true, true, true, true, true, true, true, true, true, false, false, false, false, false]) rfl (fun _ _ _ h => h) fun a S => ?_
          refine h_y 23 S HS rfl (y_extract (v := .bool ((nxt k (vals.getD q 0) ((Tr.sumR k es (vals, live) m i).getD q 0) ((Tr.anyR k es (vals, live) m i).getD q false)).2)) S rfl rfl rfl) rfl rfl rfl (by kernel_rfl) (by kernel_rfl) (by kernel_rfl) (ls' := [true, true, true, true, true, true, true, true, true, true, true, true, true, true, true, true, true, true, true, true, true, true, true, true, false, false, false, false]) rfl (fun _ _ _ h => h) fun a S => ?_
          refine h_all (r := 24) (rs := []) (by kernel_rfl) ⟨h_op (ls' := [true, true, true, true, true, true, true, true, true, true, true, true, true, true, true, true, true, true, true, true, true, true, true, true, true, false, false, false]) rfl rfl ?_, trivial⟩
          obtain ⟨b97, rfl⟩ := H.rowAt (i := 5) rfl (by first | omega | (simp <;> omega))
          refine r_y S H (y_index S rfl rfl rfl Try.underlying37 Try.sizeOf25 (by omega) (by omega)) rfl rfl rfl fun a S => ?_
          refine r_nil ?_
          refine x_then ?_
          have HS : Sat _ (row 4 1 (.slice (some ⟨b87, 0, none⟩) m m) m (bools (Tr.anyR k es (vals, live) m i)) :: row 25 1 (.slice (some ⟨b86, 0, none⟩) m m) m (u64s (Tr.sumR k es (vals, live) m i)) :: row 3 1 (.slice (some ⟨b83, 0, none⟩) m m) m (ints (Tr.outsR es m p)) :: blk b11 (.cells #[.slice (some ⟨b97, 0, none⟩) vals.length c7, .slice A9 live.length c10] 40) :: blk b4 (.cells #[.slice none 0 0, .slice none 0 0] 40) :: blk b3 (.cells #[.slice (some ⟨b93, o94, none⟩) vals.length cv, .slice Al live.length cl] 40) :: blk b2 (.cells #[.int .i64 ((m : Nat) : Int), .slice A es.length c] 35) :: blk b1 (.cells #[.int .i64 k, .int .u32 ((s : Nat) : Int)] 24) :: fr) := (H.pick [0, 1, 2, 3, 6, 7, 8, 9] 10 rfl)
          refine ⟨HS, ?_⟩
          refine h_all (r := 25) (rs := []) (by kernel_rfl) ⟨h_op (ls' := [true, true, true, true, true, true, true, true, true, true, true, true, true, true, true, true, true, true, true, true, true, true, true, true, true, true, false, false]) rfl rfl ?_, trivial⟩
          refine r_setRowV (L' := row 4 1 (.slice (some ⟨b87, 0, none⟩) m m) m (bools (Tr.anyR k es (vals, live) m i)) :: row 25 1 (.slice (some ⟨b86, 0, none⟩) m m) m (u64s (Tr.sumR k es (vals, live) m i)) :: row 3 1 (.slice (some ⟨b83, 0, none⟩) m m) m (ints (Tr.outsR es m p)) :: blk b11 (.cells #[.slice (some ⟨b97, 0, none⟩) vals.length c7, .slice A9 live.length c10] 40) :: row 4 1 (.slice A9 live.length c10) live.length (bools (fill (fun v => (Tr.nexts k es (vals, live) v).2) live q)) :: row 25 1 (.slice (some ⟨b97, 0, none⟩) vals.length c7) vals.length (u64s ((fill (fun v => (Tr.nexts k es (vals, live) v).1) vals q).set q ((nxt k (vals.getD q 0) ((Tr.sumR k es (vals, live) m i).getD q 0) ((Tr.anyR k es (vals, live) m i).getD q false)).1))) :: blk b4 (.cells #[.slice none 0 0, .slice none 0 0] 40) :: blk b3 (.cells #[.slice (some ⟨b93, o94, none⟩) vals.length cv, .slice Al live.length cl] 40) :: blk b2 (.cells #[.int .i64 ((m : Nat) : Int), .slice A es.length c] 35) :: blk b1 (.cells #[.int .i64 k, .int .u32 ((s : Nat) : Int)] 24) :: fr) 5 S H rfl rfl rfl rfl Try.sizeOf25 rfl rfl (by first | omega | (simp <;> omega)) (xs' := u64s ((fill (fun v => (Tr.nexts k es (vals, live) v).1) vals q).set q ((nxt k (vals.getD q 0) ((Tr.sumR k es (vals, live) m i).getD q 0) ((Tr.anyR k es (vals, live) m i).getD q false)).1))) (u64s_put (by omega) rfl) rfl rfl rfl fun w H => ?_
          refine r_nil ?_
          refine x_then ?_
          have HS : Sat _ (row 4 1 (.slice (some ⟨b87, 0, none⟩) m m) m (bools (Tr.anyR k es (vals, live) m i)) :: row 25 1 (.slice (some ⟨b86, 0, none⟩) m m) m (u64s (Tr.sumR k es (vals, live) m i)) :: row 3 1 (.slice (some ⟨b83, 0, none⟩) m m) m (ints (Tr.outsR es m p)) :: blk b11 (.cells #[.slice (some ⟨b97, 0, none⟩) vals.length c7, .slice A9 live.length c10] 40) :: blk b4 (.cells #[.slice none 0 0, .slice none 0 0] 40) :: blk b3 (.cells #[.slice (some ⟨b93, o94, none⟩) vals.length cv, .slice Al live.length cl] 40) :: blk b2 (.cells #[.int .i64 ((m : Nat) : Int), .slice A es.length c] 35) :: blk b1 (.cells #[.int .i64 k, .int .u32 ((s : Nat) : Int)] 24) :: fr) := (H.pick [0, 1, 2, 3, 6, 7, 8, 9] 10 rfl)
          refine ⟨HS, ?_⟩
          refine h_all (r := 26) (rs := []) (by kernel_rfl) ⟨h_op (ls' := [true, true, true, true, true, true, true, true, true, true, true, true, true, true, true, true, true, true, true, true, true, true, true, true, true, true, true, false]) rfl rfl ?_, trivial⟩
          obtain ⟨b101, rfl⟩ := H.rowAt (i := 4) rfl (by first | omega | (simp <;> omega))
          refine r_y S H (y_index S rfl rfl rfl Try.underlying38 Try.sizeOf4 (by omega) (by omega)) rfl rfl rfl fun a S => ?_
          refine r_nil ?_
          refine x_then ?_
          have HS : Sat _ (row 4 1 (.slice (some ⟨b87, 0, none⟩) m m) m (bools (Tr.anyR k es (vals, live) m i)) :: row 25 1 (.slice (some ⟨b86, 0, none⟩) m m) m (u64s (Tr.sumR k es (vals, live) m i)) :: row 3 1 (.slice (some ⟨b83, 0, none⟩) m m) m (ints (Tr.outsR es m p)) :: blk b11 (.cells #[.slice (some ⟨b97, 0, none⟩) vals.length c7, .slice (some ⟨b101, 0, none⟩) live.length c10] 40) :: blk b4 (.cells #[.slice none 0 0, .slice none 0 0] 40) :: blk b3 (.cells #[.slice (some ⟨b93, o94, none⟩) vals.length cv, .slice Al live.length cl] 40) :: blk b2 (.cells #[.int .i64 ((m : Nat) : Int), .slice A es.length c] 35) :: blk b1 (.cells #[.int .i64 k, .int .u32 ((s : Nat) : Int)] 24) :: fr) := (H.pick [0, 1, 2, 3, 6, 7, 8, 9] 10 rfl)
          refine ⟨HS, ?_⟩
          refine h_all (r := 27) (rs := []) (by kernel_rfl) ⟨h_op (ls' := [true, true, true, true, true, true, true, true, true, true, true, true, true, true, true, true, true, true, true, true, true, true, true, true, true, true, true, true]) rfl rfl ?_, trivial⟩
          refine r_setRowV (L' := row 4 1 (.slice (some ⟨b87, 0, none⟩) m m) m (bools (Tr.anyR k es (vals, live) m i)) :: row 25 1 (.slice (some ⟨b86, 0, none⟩) m m) m (u64s (Tr.sumR k es (vals, live) m i)) :: row 3 1 (.slice (some ⟨b83, 0, none⟩) m m) m (ints (Tr.outsR es m p)) :: blk b11 (.cells #[.slice (some ⟨b97, 0, none⟩) vals.length c7, .slice (some ⟨b101, 0, none⟩) live.length c10] 40) :: row 4 1 (.slice (some ⟨b101, 0, none⟩) live.length c10) live.length (bools ((fill (fun v => (Tr.nexts k es (vals, live) v).2) live q).set q ((nxt k (vals.getD q 0) ((Tr.sumR k es (vals, live) m i).getD q 0) ((Tr.anyR k es (vals, live) m i).getD q false)).2))) :: row 25 1 (.slice (some ⟨b97, 0, none⟩) vals.length c7) vals.length (u64s ((fill (fun v => (Tr.nexts k es (vals, live) v).1) vals q).set q ((nxt k (vals.getD q 0) ((Tr.sumR k es (vals, live) m i).getD q 0) ((Tr.anyR k es (vals, live) m i).getD q false)).1))) :: blk b4 (.cells #[.slice none 0 0, .slice none 0 0] 40) :: blk b3 (.cells #[.slice (some ⟨b93, o94, none⟩) vals.length cv, .slice Al live.length cl] 40) :: blk b2 (.cells #[.int .i64 ((m : Nat) : Int), .slice A es.length c] 35) :: blk b1 (.cells #[.int .i64 k, .int .u32 ((s : Nat) : Int)] 24) :: fr) 4 S H rfl rfl rfl rfl Try.sizeOf4 rfl rfl (by first | omega | (simp <;> omega)) (xs' := bools ((fill (fun v => (Tr.nexts k es (vals, live) v).2) live q).set q ((nxt k (vals.getD q 0) ((Tr.sumR k es (vals, live) m i).getD q 0) ((Tr.anyR k es (vals, live) m i).getD q false)).2))) (bools_put (by omega) rfl) rfl rfl rfl fun w H => ?_
          refine r_nil ?_
          refine x_then ?_
          have HS : Sat _ (row 4 1 (.slice (some ⟨b87, 0, none⟩) m m) m (bools (Tr.anyR k es (vals, live) m i)) :: row 25 1 (.slice (some ⟨b86, 0, none⟩) m m) m (u64s (Tr.sumR k es (vals, live) m i)) :: row 3 1 (.slice (some ⟨b83, 0, none⟩) m m) m (ints (Tr.outsR es m p)) :: blk b11 (.cells #[.slice (some ⟨b97, 0, none⟩) vals.length c7, .slice (some ⟨b101, 0, none⟩) live.length c10] 40) :: blk b4 (.cells #[.slice none 0 0, .slice none 0 0] 40) :: blk b3 (.cells #[.slice (some ⟨b93, o94, none⟩) vals.length cv, .slice Al live.length cl] 40) :: blk b2 (.cells #[.int .i64 ((m : Nat) : Int), .slice A es.length c] 35) :: blk b1 (.cells #[.int .i64 k, .int .u32 ((s : Nat) : Int)] 24) :: fr) := (H.pick [0, 1, 2, 3, 6, 7, 8, 9] 10 rfl)
          refine ⟨HS, ?_⟩
          refine h_done (by kernel_rfl) ?_
          refine x_blockEnd ?_
          refine x_then ?_
          refine r_region ?_
          refine r_y S H (y_move S rfl rfl) rfl rfl rfl fun a S => ?_
          refine r_y S H (y_add S rfl rfl rfl (wi64 (by omega) (by omega))) rfl rfl rfl fun a S => ?_
          refine r_y S H (y_assign S rfl rfl) rfl rfl rfl fun a S => ?_
          refine r_nil ?_
          refine x_then ?_
          rw [fill_put (f := fun v => (Tr.nexts k es (vals, live) v).1) (l := vals) (k := q) (by omega) (by show _ = (Tr.nexts k es (vals, live) q).1; rw [← Tr.nextsR (m := m) (i := i) (by omega) (by omega)])] at H
          rw [fill_put (f := fun v => (Tr.nexts k es (vals, live) v).2) (l := live) (k := q) (by omega) (by show _ = (Tr.nexts k es (vals, live) q).2; rw [← Tr.nextsR (m := m) (i := i) (by omega) (by omega)])] at H
          exact ⟨q + 1, ⟨S.sub ⟨rfl, rfl, rfl, rfl, rfl, rfl, rfl, rfl, rfl, rfl, rfl, rfl, rfl, rfl, rfl, rfl, rfl, rfl, rfl, rfl, rfl, rfl, rfl, rfl, rfl, rfl, rfl, rfl, rfl, rfl, rfl, rfl, rfl, rfl, rfl, rfl, rfl, trivial⟩, H, by omega⟩, by omega⟩
        · skip
          refine wp_exit ?_
          refine x_thenExit ?_
          refine x_thenExit ?_
          refine x_blockHere ?_
          refine x_then ?_
          refine r_seq ?_
          refine r_region ?_
          refine r_y S H (y_loadAgg [_, _] 3 S rfl rfl (fun w => ⟨Try.isAgg40 w, Try.sizeOf40 w⟩) rfl rfl ⟨rfl, rfl, trivial⟩) rfl rfl rfl fun a S => ?_
          refine r_store (vs := [.slice A6 vals.length c7, .slice A9 live.length c10]) 6 S H rfl rfl rfl rfl Try.sizeOf40 rfl rfl (by simp [Value.oneCell']) rfl rfl rfl rfl rfl fun w H => ?_
          refine r_nil ?_
          refine x_then ?_
          refine wp_ret ?_
          refine r_ret1 S H Try.results31 (ro_agg [_, _] (i := 6) S rfl (fun w => ⟨Try.isAgg40 w, Try.sizeOf40 w⟩) rfl rfl ⟨rfl, rfl, trivial⟩) ?_
          have hqm : q = vals.length := by omega
          subst hqm
          rw [Tr.step_fill hqq (by omega)]
          have l5 : (fill (fun v => (Tr.nexts k es (vals, live) v).1) vals vals.length).length = vals.length := fill_len (by omega)
          have l6 : (fill (fun v => (Tr.nexts k es (vals, live) v).2) live vals.length).length = live.length := fill_len (by omega)
          simp only [l5, l6]
          exact ⟨_, _, _, _, rfl, (H.pick [5, 4] 10 rfl)⟩

end Go.Proofs.Ytfmpgdhmfjllnaa
