/- Walks of functions of the program, over slots and resources, and what they rest on. No condition. -/
import Derived.Test.YtfndfpgmgnacgaaGreatDoorKCommitKeepsd
import Derived.Test.YtfndfpgmgnacgaaGreatDoorCk
namespace Go.Proofs.YtfndfpgmgnacgaaGreatDoor
open Go.RowKit Go.Cg
set_option linter.unusedVariables false
set_option linter.unusedSimpArgs false
set_option maxRecDepth 8000
set_option synthInstance.maxHeartbeats 1000000
set_option synthInstance.maxSize 1000000
open Go.Cg.Dk (By Nm)
open Go.Cg.Oc (Mf)
theorem y_min3 {P : Program} {L : List Res} {E : Env} {n : Nat} {a : Act} {o : Oper} {x y z : Operand} {ts : Array TypeId} {k k' k'' : IntKind} {m m' m'' : Int} (S : Slots a n E) (ho : o.op = .call { callee := .builtin .min, args := #[x, y, z], argTypes := ts }) (hx : ev E x = some (.int k m)) (hy : ev E y = some (.int k' m')) (hz : ev E z = some (.int k'' m'')) : Yl P L o a (.int k (min (min m m') m'')) := fun w _ => by
  simp [execOp, ho, resolve, invoke, builtin, S.eval hx, S.eval hy, S.eval hz, Builtin.min_, Builtin.min2]
  omega
theorem config_ct (w : World) (fr : List Res) (A1 : Option Addr) (n1 c1 : Nat) (x : List Nat) (ok1 : SlOk fr 1 A1 n1 c1 (u64s x)) (A2 : Option Addr) (n2 c2 : Nat) (y : List Bool) (ok2 : SlOk fr 1 A2 n2 c2 (bools y)) (H : Sat w (fr)) :
    Rt Tryz.prog 25 #[.agg #[.slice A1 n1 c1, .slice A2 n2 c2]] w fun v w' => ∃ B1 e1 B2 e2, v = .agg #[.slice B1 (x.take (min (min x.length y.length) 60)).length e1, .slice B2 (y.take (min (min x.length y.length) 60)).length e2] ∧ Sat w' (row 22 1 (.slice B1 (x.take (min (min x.length y.length) 60)).length e1) (x.take (min (min x.length y.length) 60)).length (u64s (x.take (min (min x.length y.length) 60))) :: row 4 1 (.slice B2 (y.take (min (min x.length y.length) 60)).length e2) (y.take (min (min x.length y.length) 60)).length (bools (y.take (min (min x.length y.length) 60))) :: fr) := by
  refine en1 Tryz.func25 rfl Tryz.ntmps25 rfl fun a S => ?_
  have hn1 : n1 = x.length := by have := ok1.len; simp at this; omega
  subst hn1
  have hn2 : n2 = y.length := by have := ok2.len; simp at this; omega
  subst hn2
  have hc1 := ok1.le
  have hc2 := ok2.le
  have hc3 := ok1.cap
  have hc4 := ok2.cap
  refine sb ?_
  refine r_box (c := #[.slice A1 x.length c1, .slice A2 y.length c2]) S H rfl rfl rfl rfl rfl rfl fun a w b1 S H => ?_
  refine r_alloc S H rfl Tryz.zeroValue53 rfl rfl rfl rfl fun a w b2 S H => ?_
  replace H : Sat _ (blk b2 (.cells #[.slice none 0 0, .slice none 0 0] 53) :: blk b1 (.cells #[.slice A1 x.length c1, .slice A2 y.length c2] 53) :: fr) := H
  refine sn ?_
  refine sb ?_
  refine rn 6 S H t0 fun a w S H => ?_
  refine r_y S H (y_min3 S rfl rfl rfl rfl) rfl rfl rfl fun a S => ?_
  obtain ⟨K, hK⟩ : ∃ K : Nat, ((K : Nat) : Int) = min (min ((x.length : Nat) : Int) ((y.length : Nat) : Int)) 60 := ⟨min (min x.length y.length) 60, by omega⟩
  have hKe : K = min (min x.length y.length) 60 := by omega
  have S := S.retell (v' := .int .i64 ((K : Nat) : Int)) 10 rfl (by rw [hK])
  refine rs 1 S H t0 fun a w S H => ?_
  refine r_seq ?_
  refine ha [1] 2 H fun w H HS => ?_
  refine tk 1 S HS fun a S => ?_
  refine tk 2 S HS fun a S => ?_
  refine tk 3 S HS fun a S => ?_
  refine tkY 4 S HS rfl (y_sliceH (k := K) S rfl rfl rfl Tryz.underlying50 Tryz.sizeOf22 (by first | omega | (simp <;> omega)) (by first | omega | (simp <;> omega))) rfl rfl rfl fun a S => ?_
  refine tk 7 S HS fun a S => ?_
  refine tk 8 S HS fun a S => ?_
  refine tk 9 S HS fun a S => ?_
  refine tkY 10 S HS rfl (y_sliceH (k := K) S rfl rfl rfl Tryz.underlying51 Tryz.sizeOf4 (by first | omega | (simp <;> omega)) (by first | omega | (simp <;> omega))) rfl rfl rfl fun a S => ?_
  refine hmemo [true, true, true, true, true, true, true, true, true, true, true, false, false, false] 3 (fun a w => ∃ A4 : Option Addr, ∃ c5 : Nat, ∃ b6 : Nat, Slots a 24 [(0, .agg #[.slice A1 x.length c1, .slice A2 y.length c2]), (1, .pointer (some ⟨b1, 0, none⟩)), (2, .pointer (some ⟨b2, 0, none⟩)), (3, .int .i64 ((K : Nat) : Int)), (4, .pointer (some ⟨b1, 0, none⟩)), (5, .slice A1 x.length c1), (6, .int .i64 ((x.length : Nat) : Int)), (7, .pointer (some ⟨b1, 1, none⟩)), (8, .slice A2 y.length c2), (9, .int .i64 ((y.length : Nat) : Int)), (10, .int .i64 ((K : Nat) : Int)), (16, .slice A4 K c5), (17, .slice (some ⟨b6, 0, none⟩) 0 0), (21, .slice (shift A2 0 (decide (c2 = 0))) K c2), (24, undef)] ∧ Sat w (row 4 1 (.slice (some ⟨b6, 0, none⟩) 0 0) 0 (bools []) :: row 22 1 (.slice A4 K c5) K (u64s (x.take K)) :: blk b2 (.cells #[.slice none 0 0, .slice none 0 0] 53) :: blk b1 (.cells #[.slice A1 x.length c1, .slice A2 y.length c2] 53) :: fr)) ?_ fun K0 => ?_
  · rintro a w ⟨A4, c5, b6, S, H⟩
    have HS : Sat w _ := pk [3] 4 H
    refine h1 11 ?_
    refine r_appendS (L' := fun A14 c15 => row 4 1 (.slice A14 K c15) K (bools (y.take K)) :: row 22 1 (.slice A4 K c5) K (u64s (x.take K)) :: blk b2 (.cells #[.slice none 0 0, .slice none 0 0] 53) :: blk b1 (.cells #[.slice A1 x.length c1, .slice A2 y.length c2] 53) :: fr) (xs' := bools (y.take K)) 0 S H rfl rfl rfl rfl el51 (bools_take y K ▸ ((((ok2.more _).more _).more _).more _).init K (by first | omega | (simp <;> omega))) (one_bools _) (by simp only [maxLen]; first | omega | (simp <;> omega)) (by first | omega | (simp <;> omega)) (List.nil_append _) (by first | omega | (simp <;> omega)) (fun _ _ => rfl) rfl rfl rfl fun a w A14 c15 hA14 S H => ?_
    refine sn ?_
    refine hk (pk [3] 4 H) fun HS => ?_
    refine tkY 12 S HS rfl (y_build (vs := #[(0, .slice A4 K c5), (1, .slice A14 K c15)]) (v := .agg #[.slice A4 K c5, .slice A14 K c15]) S rfl rfl (fun w => by kernel_rfl)) rfl rfl rfl fun a S => ?_
    refine h1 13 ?_
    refine rs 1 S H t0 fun a w S H => ?_
    refine hk (pk [3] 4 H) fun HS => ?_
    refine hz ?_
    refine x_then ?_
    refine wp_ret ?_
    refine r_ret1 S H Tryz.results25 (ro_agg [_, _] (i := 2) S rfl (fun w => ⟨Tryz.isAgg53 w, Tryz.sizeOf53 w⟩) rfl rfl ⟨rfl, rfl, trivial⟩) ?_
    have n1 : (x.take K).length = K := by simp; omega
    have n2 : (y.take K).length = K := by simp; omega
    have H := pk [1, 0] 4 H
    rw [← hKe, n1, n2]
    exact ⟨_, _, _, _, rfl, H⟩
  refine hmemo [true, true, true, true, true, false, true, true, true, true, true, false, false, false] 4 (fun a w => ∃ b3 : Nat, ∃ b9 : Nat, Slots a 24 [(0, .agg #[.slice A1 x.length c1, .slice A2 y.length c2]), (1, .pointer (some ⟨b1, 0, none⟩)), (2, .pointer (some ⟨b2, 0, none⟩)), (3, .int .i64 ((K : Nat) : Int)), (4, .pointer (some ⟨b1, 0, none⟩)), (5, .slice A1 x.length c1), (6, .int .i64 ((x.length : Nat) : Int)), (7, .pointer (some ⟨b1, 1, none⟩)), (8, .slice A2 y.length c2), (9, .int .i64 ((y.length : Nat) : Int)), (10, .int .i64 ((K : Nat) : Int)), (11, .slice (some ⟨b3, 0, none⟩) 0 0), (15, .slice (shift A1 0 (decide (c1 = 0))) K c1), (17, .slice (some ⟨b9, 0, none⟩) 0 0), (21, .slice (shift A2 0 (decide (c2 = 0))) K c2), (24, undef)] ∧ Sat w (row 4 1 (.slice (some ⟨b9, 0, none⟩) 0 0) 0 (bools []) :: row 22 1 (.slice (some ⟨b3, 0, none⟩) 0 0) 0 (u64s []) :: blk b2 (.cells #[.slice none 0 0, .slice none 0 0] 53) :: blk b1 (.cells #[.slice A1 x.length c1, .slice A2 y.length c2] 53) :: fr)) ?_ fun K1 => ?_
  · rintro a w ⟨b3, b9, S, H⟩
    have HS : Sat w _ := pk [3] 4 H
    refine h1 5 ?_
    refine r_appendS (L' := fun A16 c17 => row 4 1 (.slice (some ⟨b9, 0, none⟩) 0 0) 0 (bools []) :: row 22 1 (.slice A16 K c17) K (u64s (x.take K)) :: blk b2 (.cells #[.slice none 0 0, .slice none 0 0] 53) :: blk b1 (.cells #[.slice A1 x.length c1, .slice A2 y.length c2] 53) :: fr) (xs' := u64s (x.take K)) 1 S H rfl rfl rfl rfl el50 (u64s_take x K ▸ ((((ok1.more _).more _).more _).more _).init K (by first | omega | (simp <;> omega))) (one_u64s _) (by simp only [maxLen]; first | omega | (simp <;> omega)) (by first | omega | (simp <;> omega)) (List.nil_append _) (by first | omega | (simp <;> omega)) (fun _ _ => rfl) rfl rfl rfl fun a w A16 c17 hA16 S H => ?_
    refine sn ?_
    refine hk (pk [3] 4 H) fun HS => ?_
    exact K0 _ _ ⟨_, _, _, S.sub ⟨rfl, rfl, rfl, rfl, rfl, rfl, rfl, rfl, rfl, rfl, rfl, rfl, rfl, rfl, rfl, trivial⟩, H⟩
  refine h2 0 6 ?_ ?_
  · skip
    refine r_lit (vs := #[]) (cs := u64s []) S H rfl rfl el50 (by kernel_rfl) (by decide) (by rfl) rfl rfl rfl fun a w b18 S H => ?_
    refine sn ?_
    refine hk (pk [2] 3 H) fun HS => ?_
    refine h2 5 6 ?_ ?_
    · skip
      refine r_appendS (L' := fun A19 c20 => row 22 1 (.slice A19 K c20) K (u64s (x.take K)) :: blk b2 (.cells #[.slice none 0 0, .slice none 0 0] 53) :: blk b1 (.cells #[.slice A1 x.length c1, .slice A2 y.length c2] 53) :: fr) (xs' := u64s (x.take K)) 0 S H rfl rfl rfl rfl el50 (u64s_take x K ▸ (((ok1.more _).more _).more _).init K (by first | omega | (simp <;> omega))) (one_u64s _) (by simp only [maxLen]; first | omega | (simp <;> omega)) (by first | omega | (simp <;> omega)) (List.nil_append _) (by first | omega | (simp <;> omega)) (fun _ _ => rfl) rfl rfl rfl fun a w A19 c20 hA19 S H => ?_
      refine sn ?_
      refine hk (pk [2] 3 H) fun HS => ?_
      refine h1 6 ?_
      refine r_lit (vs := #[]) (cs := bools []) S H rfl rfl el51 (by kernel_rfl) (by decide) (by rfl) rfl rfl rfl fun a w b21 S H => ?_
      refine sn ?_
      refine hk (pk [3] 4 H) fun HS => ?_
      exact K0 _ _ ⟨_, _, _, S.sub ⟨rfl, rfl, rfl, rfl, rfl, rfl, rfl, rfl, rfl, rfl, rfl, rfl, rfl, rfl, rfl, trivial⟩, H⟩
    · skip
      refine r_lit (vs := #[]) (cs := bools []) S H rfl rfl el51 (by kernel_rfl) (by decide) (by rfl) rfl rfl rfl fun a w b22 S H => ?_
      refine sn ?_
      refine hk (pk [3] 4 H) fun HS => ?_
      exact K1 _ _ ⟨_, _, S.sub ⟨rfl, rfl, rfl, rfl, rfl, rfl, rfl, rfl, rfl, rfl, rfl, rfl, rfl, rfl, rfl, rfl, trivial⟩, H⟩
  · skip
    refine r_lit (vs := #[]) (cs := bools []) S H rfl rfl el51 (by kernel_rfl) (by decide) (by rfl) rfl rfl rfl fun a w b23 S H => ?_
    refine sn ?_
    refine hk (pk [2] 3 H) fun HS => ?_
    refine h1 0 ?_
    refine r_lit (vs := #[]) (cs := u64s []) S H rfl rfl el50 (by kernel_rfl) (by decide) (by rfl) rfl rfl rfl fun a w b24 S H => ?_
    refine sn ?_
    refine hk (pk [3] 4 H) fun HS => ?_
    exact K1 _ _ ⟨_, _, S.sub ⟨rfl, rfl, rfl, rfl, rfl, rfl, rfl, rfl, rfl, rfl, rfl, rfl, rfl, rfl, rfl, rfl, trivial⟩, pk [1, 0, 2, 3] 4 H⟩

end Go.Proofs.YtfndfpgmgnacgaaGreatDoor
namespace Go.Proofs.YtfndfpgmgnacgaaGreatDoor
open Go.RowKit Go.Cg
set_option linter.unusedVariables false
set_option linter.unusedSimpArgs false
set_option maxRecDepth 8000
set_option synthInstance.maxHeartbeats 1000000
set_option synthInstance.maxSize 1000000
open Go.Cg.Dk (By Nm)
open Go.Cg.Oc (Mf)
theorem same_ct (w : World) (fr : List Res) (x : List Nat) (y : List Bool) (A1 : Option Addr) (n1 c1 : Nat) (ok1 : SlOk fr 1 A1 n1 c1 (u64s x)) (A2 : Option Addr) (n2 c2 : Nat) (ok2 : SlOk fr 1 A2 n2 c2 (bools y)) (A3 : Option Addr) (n3 c3 : Nat) (ok3 : SlOk fr 1 A3 n3 c3 (u64s x)) (A4 : Option Addr) (n4 c4 : Nat) (ok4 : SlOk fr 1 A4 n4 c4 (bools y)) (H : Sat w (fr)) :
    Rt Tryz.prog 26 #[.agg #[.slice A1 n1 c1, .slice A2 n2 c2], .agg #[.slice A3 n3 c3, .slice A4 n4 c4]] w fun v w' => v = .bool true ∧ Sat w' fr := by
  refine en2 Tryz.func26 rfl Tryz.ntmps26 rfl fun a S => ?_
  have hn1 : n1 = x.length := by have := ok1.len; simp at this; omega
  subst hn1
  have hc1 := ok1.le
  have hd1 := ok1.cap
  simp only [maxLen] at hd1
  have hn2 : n2 = y.length := by have := ok2.len; simp at this; omega
  subst hn2
  have hc2 := ok2.le
  have hd2 := ok2.cap
  simp only [maxLen] at hd2
  have hn3 : n3 = x.length := by have := ok3.len; simp at this; omega
  subst hn3
  have hc3 := ok3.le
  have hd3 := ok3.cap
  simp only [maxLen] at hd3
  have hn4 : n4 = y.length := by have := ok4.len; simp at this; omega
  subst hn4
  have hc4 := ok4.le
  have hd4 := ok4.cap
  simp only [maxLen] at hd4
  refine sb ?_
  refine r_box (c := #[.slice A1 x.length c1, .slice A2 y.length c2]) S H rfl rfl rfl rfl rfl rfl fun a w b1 S H => ?_
  refine r_box (c := #[.slice A3 x.length c3, .slice A4 y.length c4]) S H rfl rfl rfl rfl rfl rfl fun a w b2 S H => ?_
  refine rs 1 S H t0 fun a w S H => ?_
  refine r_seq ?_
  refine sb ?_
  refine rn 8 S H t0 fun a w S H => ?_
  refine scO 6 S H (fun _ => t0) fun a w S H => ?_
  refine sn ?_
  refine r_cond S rfl (fun h22 => ?_) (fun h22 => ?_)
  · skip
    exfalso; simp at h22
  · skip
    refine wp_skip ?_
    refine x_then ?_
    refine r_seq ?_
    refine sr 1 S H t0 fun a w S H => ?_
    refine r_block ?_
    refine r_loop (ι := Nat) (fun i a w => Slots a 59 [(0, .agg #[.slice A1 x.length c1, .slice A2 y.length c2]), (1, .agg #[.slice A3 x.length c3, .slice A4 y.length c4]), (2, .pointer (some ⟨b1, 0, none⟩)), (3, .pointer (some ⟨b2, 0, none⟩)), (5, .int .i64 ((i : Nat) : Int)), (7, .pointer (some ⟨b1, 0, none⟩)), (8, .slice A1 x.length c1), (9, .int .i64 ((x.length : Nat) : Int)), (10, .pointer (some ⟨b2, 0, none⟩)), (11, .slice A3 x.length c3), (12, .int .i64 ((x.length : Nat) : Int)), (13, .bool (decide (((x.length : Nat) : Int) ≠ ((x.length : Nat) : Int)))), (14, .bool (decide (((x.length : Nat) : Int) ≠ ((x.length : Nat) : Int)))), (22, .bool ((decide (((x.length : Nat) : Int) ≠ ((x.length : Nat) : Int))) || (decide (((y.length : Nat) : Int) ≠ ((y.length : Nat) : Int))))), (59, undef)] ∧ Sat w (blk b2 (.cells #[.slice A3 x.length c3, .slice A4 y.length c4] 53) :: blk b1 (.cells #[.slice A1 x.length c1, .slice A2 y.length c2] 53) :: fr) ∧ (i ≤ x.length)) (fun i => x.length - i) 0 ⟨S.sub ⟨rfl, rfl, rfl, rfl, rfl, rfl, rfl, rfl, rfl, rfl, rfl, rfl, rfl, rfl, rfl, trivial⟩, H, Nat.zero_le _⟩ (fun i a w hI => ?_)
    obtain ⟨S, H, hI⟩ := hI
    have hil := hI
    refine r_seq ?_
    refine sr 5 S H t0 fun a w S H => ?_
    refine r_test S rfl (fun h27 => ?_) (fun h27 => ?_)
    · skip
      refine wp_skip ?_
      refine x_then ?_
      refine r_seq ?_
      refine r_block ?_
      obtain ⟨b3, o4, rfl⟩ := ((ok1.more _).more _).addr H (by omega)
      obtain ⟨b5, o6, rfl⟩ := ((ok3.more _).more _).addr H (by omega)
      apply qb H rfl (by kernel_rfl)
      · skip
        refine qn 3 S t0 fun a S => ?_
        refine q_y S (y_index S rfl rfl rfl Tryz.underlying50 Tryz.sizeOf22 (by omega) (by omega)) rfl rfl rfl fun a S => ?_
        refine q_y S (y_loadAt S rfl rfl Tryz.isAgg22 (fun w H => ((ok1.more _).more _).cell w H (u64s_at (i := i) (by first | omega | (simp <;> omega))))) rfl rfl rfl fun a S => ?_
        refine qn 3 S t0 fun a S => ?_
        refine q_y S (y_index S rfl rfl rfl Tryz.underlying50 Tryz.sizeOf22 (by omega) (by omega)) rfl rfl rfl fun a S => ?_
        refine q_y S (y_loadAt S rfl rfl Tryz.isAgg22 (fun w H => ((ok3.more _).more _).cell w H (u64s_at (i := i) (by first | omega | (simp <;> omega))))) rfl rfl rfl fun a S => ?_
        refine qn 1 S t0 fun a S => ?_
        exact q_nil S
      · intro a w S H
        refine r_test S rfl (fun h40 => ?_) (fun h40 => ?_)
        · skip
          exfalso; simp at h40
        · skip
          refine wp_skip ?_
          refine x_blockEnd ?_
          refine x_then ?_
          refine er 3 S H (by omega) fun a w S H => ?_
          refine x_then ?_
          exact ⟨(i + 1), ⟨S.sub ⟨rfl, rfl, rfl, rfl, rfl, rfl, rfl, rfl, rfl, rfl, rfl, rfl, rfl, rfl, rfl, trivial⟩, H, (by omega : i + 1 ≤ x.length)⟩, by show x.length - (i + 1) < x.length - i; omega⟩
    · skip
      refine wp_exit ?_
      refine x_thenExit ?_
      refine x_thenExit ?_
      refine x_blockHere ?_
      refine x_then ?_
      refine r_seq ?_
      refine sr 1 S H t0 fun a w S H => ?_
      refine r_block ?_
      refine r_loop (ι := Nat) (fun i a w => Slots a 59 [(0, .agg #[.slice A1 x.length c1, .slice A2 y.length c2]), (1, .agg #[.slice A3 x.length c3, .slice A4 y.length c4]), (2, .pointer (some ⟨b1, 0, none⟩)), (3, .pointer (some ⟨b2, 0, none⟩)), (6, .int .i64 ((i : Nat) : Int)), (7, .pointer (some ⟨b1, 0, none⟩)), (8, .slice A1 x.length c1), (9, .int .i64 ((x.length : Nat) : Int)), (10, .pointer (some ⟨b2, 0, none⟩)), (11, .slice A3 x.length c3), (12, .int .i64 ((x.length : Nat) : Int)), (13, .bool (decide (((x.length : Nat) : Int) ≠ ((x.length : Nat) : Int)))), (14, .bool (decide (((x.length : Nat) : Int) ≠ ((x.length : Nat) : Int)))), (22, .bool ((decide (((x.length : Nat) : Int) ≠ ((x.length : Nat) : Int))) || (decide (((y.length : Nat) : Int) ≠ ((y.length : Nat) : Int))))), (24, .pointer (some ⟨b1, 0, none⟩)), (25, .slice A1 x.length c1), (26, .int .i64 ((x.length : Nat) : Int)), (59, undef)] ∧ Sat w (blk b2 (.cells #[.slice A3 x.length c3, .slice A4 y.length c4] 53) :: blk b1 (.cells #[.slice A1 x.length c1, .slice A2 y.length c2] 53) :: fr) ∧ (i ≤ y.length)) (fun i => y.length - i) 0 ⟨S.sub ⟨rfl, rfl, rfl, rfl, rfl, rfl, rfl, rfl, rfl, rfl, rfl, rfl, rfl, rfl, rfl, rfl, rfl, rfl, trivial⟩, H, Nat.zero_le _⟩ (fun i a w hI => ?_)
      obtain ⟨S, H, hI⟩ := hI
      have hil := hI
      refine r_seq ?_
      refine sr 5 S H t0 fun a w S H => ?_
      refine r_test S rfl (fun h45 => ?_) (fun h45 => ?_)
      · skip
        refine wp_skip ?_
        refine x_then ?_
        refine r_seq ?_
        refine r_block ?_
        obtain ⟨b7, o8, rfl⟩ := ((ok2.more _).more _).addr H (by omega)
        obtain ⟨b9, o10, rfl⟩ := ((ok4.more _).more _).addr H (by omega)
        apply qb H rfl (by kernel_rfl)
        · skip
          refine qn 3 S t0 fun a S => ?_
          refine q_y S (y_index S rfl rfl rfl Tryz.underlying51 Tryz.sizeOf4 (by omega) (by omega)) rfl rfl rfl fun a S => ?_
          refine q_y S (y_loadAt S rfl rfl Tryz.isAgg4 (fun w H => ((ok2.more _).more _).cell w H (bools_at (i := i) (by first | omega | (simp <;> omega))))) rfl rfl rfl fun a S => ?_
          refine qn 3 S t0 fun a S => ?_
          refine q_y S (y_index S rfl rfl rfl Tryz.underlying51 Tryz.sizeOf4 (by omega) (by omega)) rfl rfl rfl fun a S => ?_
          refine q_y S (y_loadAt S rfl rfl Tryz.isAgg4 (fun w H => ((ok4.more _).more _).cell w H (bools_at (i := i) (by first | omega | (simp <;> omega))))) rfl rfl rfl fun a S => ?_
          refine q_y S (y_neB S rfl rfl rfl Tryz.underlying4) rfl rfl rfl fun a S => ?_
          exact q_nil S
        · intro a w S H
          refine r_cond S rfl (fun h58 => ?_) (fun h58 => ?_)
          · skip
            exfalso; simp at h58
          · skip
            refine wp_skip ?_
            refine x_blockEnd ?_
            refine x_then ?_
            refine er 3 S H (by omega) fun a w S H => ?_
            refine x_then ?_
            exact ⟨(i + 1), ⟨S.sub ⟨rfl, rfl, rfl, rfl, rfl, rfl, rfl, rfl, rfl, rfl, rfl, rfl, rfl, rfl, rfl, rfl, rfl, rfl, trivial⟩, H, (by omega : i + 1 ≤ y.length)⟩, by show y.length - (i + 1) < y.length - i; omega⟩
      · skip
        refine wp_exit ?_
        refine x_thenExit ?_
        refine x_thenExit ?_
        refine x_blockHere ?_
        refine x_then ?_
        refine sr 1 S H t0 fun a w S H => ?_
        refine wp_ret ?_
        refine r_ret1 S H Tryz.results26 (ro_tmp S rfl) ?_
        exact ⟨rfl, H.drop.drop⟩

end Go.Proofs.YtfndfpgmgnacgaaGreatDoor
namespace Go.Proofs.YtfndfpgmgnacgaaGreatDoor
open Go.RowKit Go.Cg
set_option linter.unusedVariables false
set_option linter.unusedSimpArgs false
set_option maxRecDepth 8000
set_option synthInstance.maxHeartbeats 1000000
set_option synthInstance.maxSize 1000000
open Go.Cg.Dk (By Nm)
open Go.Cg.Oc (Mf)
theorem law_keeps (w : World) (fr : List Res) (hl : Laid fr) (A1 : Option Addr) (n1 c1 : Nat) (x0 : List Nat) (ok1 : SlOk fr 1 A1 n1 c1 (u64s x0)) (A2 : Option Addr) (n2 c2 : Nat) (y0 : List Bool) (ok2 : SlOk fr 1 A2 n2 c2 (bools y0)) (A3 : Option Addr) (n3 c3 : Nat) (x1 : List Nat) (ok3 : SlOk fr 1 A3 n3 c3 (u64s x1)) (A4 : Option Addr) (n4 c4 : Nat) (y1 : List Bool) (ok4 : SlOk fr 1 A4 n4 c4 (bools y1)) (h64a : ∀ x ∈ x0, x < 18446744073709551616) (h64b : ∀ x ∈ x1, x < 18446744073709551616) (a2 a3 : Int) (A5 : Option Addr) (n5 c5 : Nat) (z : List Bool) (ok5 : SlOk fr 1 A5 n5 c5 (bools z)) (H : Sat w (fr)) :
    Rt Tryz.prog 8 #[.agg #[.slice A1 n1 c1, .slice A2 n2 c2], .agg #[.slice A3 n3 c3, .slice A4 n4 c4], .int .i64 a2, .int .i64 a3, .slice A5 n5 c5] w fun v w' => v = .bool true ∧ Sat w' fr := by
  refine en5 Tryz.func8 rfl Tryz.ntmps8 rfl fun a S => ?_
  have hn1 : n1 = x0.length := by have := ok1.len; simp at this; omega
  subst hn1
  have hn2 : n2 = y0.length := by have := ok2.len; simp at this; omega
  subst hn2
  have hn3 : n3 = x1.length := by have := ok3.len; simp at this; omega
  subst hn3
  have hn4 : n4 = y1.length := by have := ok4.len; simp at this; omega
  subst hn4
  obtain rfl := ok5.nB
  have hc0 := ok5.le
  have hc1 := ok5.cap
  refine sb ?_
  refine r_box (c := #[.slice A1 x0.length c1, .slice A2 y0.length c2]) S H rfl rfl rfl rfl rfl rfl fun a w b1 S H => ?_
  refine r_box (c := #[.slice A3 x1.length c3, .slice A4 y1.length c4]) S H rfl rfl rfl rfl rfl rfl fun a w b2 S H => ?_
  refine rs 1 S H t0 fun a w S H => ?_
  refine sb ?_
  refine r_call (args := #[]) S rfl rfl Tryz.call9 (shown_ct (H := H) _ _ (hl.via fun _ H => H.drop.drop)) rfl rfl rfl fun v a w hR S => ?_
  obtain ⟨rfl, H⟩ := hR
  refine rs 1 S H t0 fun a w S H => ?_
  refine sb ?_
  refine rn 3 S H t0 fun a w S H => ?_
  refine r_y S H (y_min S rfl rfl rfl) rfl rfl rfl fun a S => ?_
  obtain ⟨Kkk, hKkk⟩ : ∃ K : Nat, ((K : Nat) : Int) = min ((z.length : Nat) : Int) 60 := ⟨min z.length 60, by omega⟩
  have S := S.retell (v' := .int .i64 ((Kkk : Nat) : Int)) 26 rfl (by rw [hKkk])
  refine r_y S H (y_sliceH (k := Kkk) S rfl rfl rfl Tryz.underlying51 Tryz.sizeOf4 (by first | omega | (simp <;> omega)) (by first | omega | (simp <;> omega))) rfl rfl rfl fun a S => ?_
  have hcapkk := ok5.le
  obtain ⟨kk, hkk⟩ : ∃ x, x = z.take Kkk := ⟨_, rfl⟩
  have hlkk : kk.length = Kkk := by rw [hkk]; simp; omega
  have okkk : SlOk fr 1 (shift A5 0 (decide (c5 = 0))) kk.length c5 (bools kk) := by rw [hlkk, hkk]; exact bools_take z Kkk ▸ ok5.init Kkk (by omega)
  have S := S.retell (v' := .slice (shift A5 0 (decide (c5 = 0))) kk.length c5) 27 rfl (by rw [hlkk])
  refine rs 1 S H t0 fun a w S H => ?_
  refine sb ?_
  refine rn 1 S H t0 fun a w S H => ?_
  refine r_y S H (y_bitop S rfl rfl rfl (fun w => maskL 16 65536 65535 (by decide) (by decide) (by decide) a3 w)) rfl rfl rfl fun a S => ?_
  refine r_y S H (y_remN S rfl rfl rfl (by omega) (by omega)) rfl rfl rfl fun a S => ?_
  refine rs 2 S H (by omega) fun a w S H => ?_
  refine sb ?_
  refine rn 1 S H t0 fun a w S H => ?_
  refine r_y S H (y_bitop S rfl rfl rfl (fun w => maskL 16 65536 65535 (by decide) (by decide) (by decide) a2 w)) rfl rfl rfl fun a S => ?_
  refine rs 1 S H t0 fun a w S H => ?_
  refine sb ?_
  refine rn 1 S H t0 fun a w S H => ?_
  refine r_call (args := #[.agg #[.slice A1 x0.length c1, .slice A2 y0.length c2]]) S rfl rfl Tryz.call25 (config_ct (H := H) _ _ _ _ _ x0 ((ok1.more _).more _) _ _ _ y0 ((ok2.more _).more _)) rfl rfl rfl fun v a w hR S => ?_
  obtain ⟨A11, c12, A13, c14, rfl, H⟩ := hR
  refine r_alloc S H rfl Tryz.zeroValue53 rfl rfl rfl rfl fun a w b15 S H => ?_
  replace H : Sat _ (blk b15 (.cells #[.slice none 0 0, .slice none 0 0] 53) :: row 22 1 (.slice A11 ((x0.take (min (min x0.length y0.length) 60)).length) c12) ((x0.take (min (min x0.length y0.length) 60)).length) (u64s (x0.take (min (min x0.length y0.length) 60))) :: row 4 1 (.slice A13 ((y0.take (min (min x0.length y0.length) 60)).length) c14) ((y0.take (min (min x0.length y0.length) 60)).length) (bools (y0.take (min (min x0.length y0.length) 60))) :: blk b2 (.cells #[.slice A3 x1.length c3, .slice A4 y1.length c4] 53) :: blk b1 (.cells #[.slice A1 x0.length c1, .slice A2 y0.length c2] 53) :: fr) := H
  refine rs 1 S H t0 fun a w S H => ?_
  refine sb ?_
  refine rn 1 S H t0 fun a w S H => ?_
  refine r_call (args := #[.agg #[.slice A3 x1.length c3, .slice A4 y1.length c4]]) S rfl rfl Tryz.call25 (config_ct (H := H) _ _ _ _ _ x1 (((((ok3.more _).more _).more _).more _).more _) _ _ _ y1 (((((ok4.more _).more _).more _).more _).more _)) rfl rfl rfl fun v a w hR S => ?_
  obtain ⟨A24, c25, A26, c27, rfl, H⟩ := hR
  refine r_alloc S H rfl Tryz.zeroValue53 rfl rfl rfl rfl fun a w b28 S H => ?_
  replace H : Sat _ (blk b28 (.cells #[.slice none 0 0, .slice none 0 0] 53) :: row 22 1 (.slice A24 ((x1.take (min (min x1.length y1.length) 60)).length) c25) ((x1.take (min (min x1.length y1.length) 60)).length) (u64s (x1.take (min (min x1.length y1.length) 60))) :: row 4 1 (.slice A26 ((y1.take (min (min x1.length y1.length) 60)).length) c27) ((y1.take (min (min x1.length y1.length) 60)).length) (bools (y1.take (min (min x1.length y1.length) 60))) :: blk b15 (.cells #[.slice A11 ((x0.take (min (min x0.length y0.length) 60)).length) c12, .slice A13 ((y0.take (min (min x0.length y0.length) 60)).length) c14] 53) :: row 22 1 (.slice A11 ((x0.take (min (min x0.length y0.length) 60)).length) c12) ((x0.take (min (min x0.length y0.length) 60)).length) (u64s (x0.take (min (min x0.length y0.length) 60))) :: row 4 1 (.slice A13 ((y0.take (min (min x0.length y0.length) 60)).length) c14) ((y0.take (min (min x0.length y0.length) 60)).length) (bools (y0.take (min (min x0.length y0.length) 60))) :: blk b2 (.cells #[.slice A3 x1.length c3, .slice A4 y1.length c4] 53) :: blk b1 (.cells #[.slice A1 x0.length c1, .slice A2 y0.length c2] 53) :: fr) := H
  refine rs 1 S H t0 fun a w S H => ?_
  obtain ⟨at_, hat⟩ : ∃ q, q = 1 + a3 % 65536 % 12 := ⟨_, rfl⟩
  have S := S.retell (v' := .int .i64 at_) 3 rfl (by rw [hat])
  obtain ⟨stp, hstp⟩ : ∃ q, q = a2 % 65536 := ⟨_, rfl⟩
  have S := S.retell (v' := .int .i64 stp) 2 rfl (by rw [hstp])
  obtain ⟨vQa, hva⟩ : ∃ q, q = x0.take (min (min x0.length y0.length) 60) := ⟨_, rfl⟩
  obtain ⟨lQa, hla⟩ : ∃ q, q = y0.take (min (min x0.length y0.length) 60) := ⟨_, rfl⟩
  have hfa : Cl.Cf vQa lQa := ⟨by rw [hva, hla]; simp; omega, by rw [hva]; simp; omega, fun q hq => h64a q (by rw [hva] at hq; exact List.mem_of_mem_take hq)⟩
  rw [← hva, ← hla] at H S
  obtain ⟨vQb, hvb⟩ : ∃ q, q = x1.take (min (min x1.length y1.length) 60) := ⟨_, rfl⟩
  obtain ⟨lQb, hlb⟩ : ∃ q, q = y1.take (min (min x1.length y1.length) 60) := ⟨_, rfl⟩
  have hfb : Cl.Cf vQb lQb := ⟨by rw [hvb, hlb]; simp; omega, by rw [hvb]; simp; omega, fun q hq => h64b q (by rw [hvb] at hq; exact List.mem_of_mem_take hq)⟩
  rw [← hvb, ← hlb] at H S
  have hkk : kk.length ≤ 60 := by omega
  obtain ⟨d1, d2, d3, d5, d6, eE, vz, lz, e1, e2, e3, e5, e6, hez, ⟨k0, k1, k2, k3, k4, k5⟩, s1, s2, s3⟩ := Cl.keeps_plan (step := stp) (by omega) (by omega) hfa hfb at_ (by omega) (by omega) kk
  refine sb ?_
  refine r_call (args := #[.int .i64 1000]) S rfl rfl Tryz.call10 (new_ct (H := H) _ _ 1000 (by omega)) rfl rfl rfl fun v a w hR S => ?_
  obtain ⟨db30, rfl, H⟩ := hR
  refine rs 1 S H t0 fun a w S H => ?_
  refine r_seq ?_
  refine sb ?_
  refine rn 6 S H t0 fun a w S H => ?_
  refine r_call (args := #[.pointer (some ⟨db30, 0, none⟩), .int .i64 stp, .agg #[.slice A11 (vQa.length) c12, .slice A13 (lQa.length) c14]]) S rfl rfl Tryz.call20 (keep_ct (H := H) _ _ (hl.via fun _ H => H.drop.drop.drop.drop.drop.drop.drop.drop) db30 (Dk.fresh 1000) stp (by omega) (by omega) _ _ _ vQa (SlOk.ofRow (i := 4) (Sat.drop H) rfl) _ _ _ lQa (SlOk.ofRow (i := 5) (Sat.drop H) rfl) hfa.u64 (by omega)) rfl rfl rfl fun v a w hR S => ?_
  obtain ⟨rfl, H⟩ := hR
  rw [e1] at S H
  dsimp only at S H
  refine rn 1 S H t0 fun a w S H => ?_
  have S := S.retell (v' := .bool false) 46 rfl rfl
  refine rs 1 S H t0 fun a w S H => ?_
  refine r_condF S rfl ?_
  refine wp_skip ?_
  refine x_then ?_
  refine sb ?_
  refine rn 2 S H t0 fun a w S H => ?_
  refine r_call (args := #[.pointer (some ⟨db30, 0, none⟩), .int .i64 stp]) S rfl rfl Tryz.call21 (state_ct (H := H) _ _ (hl.via fun _ H => H.drop.drop.drop.drop.drop.drop.drop.drop) db30 d1 stp (by omega) (by omega) (by omega) (s1)) rfl rfl rfl fun v a w hR S => ?_
  obtain ⟨A31, c32, A33, c34, rfl, H⟩ := hR
  rw [e2] at S H
  dsimp only at S H
  refine rn 3 S H t0 fun a w S H => ?_
  refine r_alloc S H rfl Tryz.zeroValue53 rfl rfl rfl rfl fun a w b35 S H => ?_
  replace H : Sat _ (blk b35 (.cells #[.slice none 0 0, .slice none 0 0] 53) :: diskR db30 d2 :: row 22 1 (.slice A31 (vQa.length) c32) (vQa.length) (u64s vQa) :: row 4 1 (.slice A33 (lQa.length) c34) (lQa.length) (bools lQa) :: blk b28 (.cells #[.slice A24 (vQb.length) c25, .slice A26 (lQb.length) c27] 53) :: row 22 1 (.slice A24 (vQb.length) c25) (vQb.length) (u64s vQb) :: row 4 1 (.slice A26 (lQb.length) c27) (lQb.length) (bools lQb) :: blk b15 (.cells #[.slice A11 (vQa.length) c12, .slice A13 (lQa.length) c14] 53) :: row 22 1 (.slice A11 (vQa.length) c12) (vQa.length) (u64s vQa) :: row 4 1 (.slice A13 (lQa.length) c14) (lQa.length) (bools lQa) :: blk b2 (.cells #[.slice A3 x1.length c3, .slice A4 y1.length c4] 53) :: blk b1 (.cells #[.slice A1 x0.length c1, .slice A2 y0.length c2] 53) :: fr) := H
  refine rs 2 S H t0 fun a w S H => ?_
  refine sb ?_
  refine rn 3 S H t0 fun a w S H => ?_
  refine r_call (args := #[.pointer (some ⟨db30, 0, none⟩), .int .i64 at_, .slice (shift A5 0 (decide (c5 = 0))) kk.length c5]) S rfl rfl Tryz.call24 (arm_ct (H := (pk [1, 0, 2, 3, 4, 5, 6, 7, 8, 9, 10, 11] 12 H)) _ _ db30 d2 at_ (by omega) _ _ kk (okkk.via fun _ H => H.drop.drop.drop.drop.drop.drop.drop.drop.drop.drop.drop) (by first | omega | simp)) rfl rfl rfl fun v a w hR S => ?_
  obtain ⟨rfl, H⟩ := hR
  refine sn ?_
  refine sb ?_
  refine rn 3 S H t0 fun a w S H => ?_
  refine r_call (args := #[.pointer (some ⟨db30, 0, none⟩), .int .i64 stp, .agg #[.slice A24 (vQb.length) c25, .slice A26 (lQb.length) c27]]) S rfl rfl Tryz.call20 (keep_ct (H := H) _ _ (hl.via fun _ H => H.drop.drop.drop.drop.drop.drop.drop.drop.drop.drop.drop) db30 (Dk.Disk.arm at_ kk d2) stp (by omega) (by omega) _ _ _ vQb (SlOk.ofRow (i := 4) (Sat.drop H) rfl) _ _ _ lQb (SlOk.ofRow (i := 5) (Sat.drop H) rfl) hfb.u64 (by omega)) rfl rfl rfl fun v a w hR S => ?_
  obtain ⟨rfl, H⟩ := hR
  rw [e3] at S H
  dsimp only at S H
  refine rs 1 S H t0 fun a w S H => ?_
  refine sb ?_
  refine rn 1 S H t0 fun a w S H => ?_
  refine r_call (args := #[.pointer (some ⟨db30, 0, none⟩), .int .i64 0, .slice none 0 0]) S rfl rfl Tryz.call24 (arm_ct (H := H) _ _ db30 d3 0 (by omega) _ _ ([]) (okNil _) (by first | omega | simp)) rfl rfl rfl fun v a w hR S => ?_
  obtain ⟨rfl, H⟩ := hR
  refine sn ?_
  refine sb ?_
  refine rn 2 S H t0 fun a w S H => ?_
  refine r_call (args := #[.pointer (some ⟨db30, 0, none⟩), .slice (shift A5 0 (decide (c5 = 0))) kk.length c5]) S rfl rfl Tryz.call22 (crashed_ct (H := H) _ _ db30 (Dk.Disk.arm 0 ([]) d3) (by omega) _ _ kk (okkk.via fun _ H => H.drop.drop.drop.drop.drop.drop.drop.drop.drop.drop.drop)) rfl rfl rfl fun v a w hR S => ?_
  obtain ⟨rfl, H⟩ := hR
  refine sn ?_
  refine sr 2 S H (by omega) fun a w S H => ?_
  refine sb ?_
  refine rn 2 S H t0 fun a w S H => ?_
  refine r_call (args := #[.pointer (some ⟨db30, 0, none⟩), .int .i64 stp]) S rfl rfl Tryz.call21 (state_ct (H := H) _ _ (hl.via fun _ H => H.drop.drop.drop.drop.drop.drop.drop.drop.drop.drop.drop) db30 (Dk.Disk.restart (Dk.Disk.crash kk (Dk.Disk.arm 0 ([]) d3))) stp (by omega) (by omega) (by omega) (s2)) rfl rfl rfl fun v a w hR S => ?_
  obtain ⟨A36, c37, A38, c39, rfl, H⟩ := hR
  rw [e5] at S H
  dsimp only at S H
  refine rn 3 S H t0 fun a w S H => ?_
  refine r_alloc S H rfl Tryz.zeroValue53 rfl rfl rfl rfl fun a w b40 S H => ?_
  replace H : Sat _ (blk b40 (.cells #[.slice none 0 0, .slice none 0 0] 53) :: diskR db30 d5 :: row 22 1 (.slice A36 (vz.length) c37) (vz.length) (u64s vz) :: row 4 1 (.slice A38 (lz.length) c39) (lz.length) (bools lz) :: blk b35 (.cells #[.slice A31 (vQa.length) c32, .slice A33 (lQa.length) c34] 53) :: row 22 1 (.slice A31 (vQa.length) c32) (vQa.length) (u64s vQa) :: row 4 1 (.slice A33 (lQa.length) c34) (lQa.length) (bools lQa) :: blk b28 (.cells #[.slice A24 (vQb.length) c25, .slice A26 (lQb.length) c27] 53) :: row 22 1 (.slice A24 (vQb.length) c25) (vQb.length) (u64s vQb) :: row 4 1 (.slice A26 (lQb.length) c27) (lQb.length) (bools lQb) :: blk b15 (.cells #[.slice A11 (vQa.length) c12, .slice A13 (lQa.length) c14] 53) :: row 22 1 (.slice A11 (vQa.length) c12) (vQa.length) (u64s vQa) :: row 4 1 (.slice A13 (lQa.length) c14) (lQa.length) (bools lQa) :: blk b2 (.cells #[.slice A3 x1.length c3, .slice A4 y1.length c4] 53) :: blk b1 (.cells #[.slice A1 x0.length c1, .slice A2 y0.length c2] 53) :: fr) := H
  refine rs 2 S H t0 fun a w S H => ?_
  refine sb ?_
  refine rn 3 S H (by omega) fun a w S H => ?_
  refine r_call (args := #[.pointer (some ⟨db30, 0, none⟩), .int .i64 (stp + 1)]) S rfl rfl Tryz.call21 (state_ct (H := (pk [1, 0, 2, 3, 4, 5, 6, 7, 8, 9, 10, 11, 12, 13, 14] 15 H)) _ _ (hl.via fun _ H => H.drop.drop.drop.drop.drop.drop.drop.drop.drop.drop.drop.drop.drop.drop) db30 d5 (stp + 1) (by omega) (by omega) (by omega) (s3)) rfl rfl rfl fun v a w hR S => ?_
  obtain ⟨A41, c42, A43, c44, rfl, H⟩ := hR
  rw [e6] at S H
  dsimp only at S H
  refine rn 3 S H t0 fun a w S H => ?_
  refine r_alloc S H rfl Tryz.zeroValue53 rfl rfl rfl rfl fun a w b45 S H => ?_
  replace H : Sat _ (blk b45 (.cells #[.slice none 0 0, .slice none 0 0] 53) :: diskR db30 d6 :: row 22 1 (.slice A41 ([].length) c42) ([].length) (u64s []) :: row 4 1 (.slice A43 ([].length) c44) ([].length) (bools []) :: blk b40 (.cells #[.slice A36 (vz.length) c37, .slice A38 (lz.length) c39] 53) :: row 22 1 (.slice A36 (vz.length) c37) (vz.length) (u64s vz) :: row 4 1 (.slice A38 (lz.length) c39) (lz.length) (bools lz) :: blk b35 (.cells #[.slice A31 (vQa.length) c32, .slice A33 (lQa.length) c34] 53) :: row 22 1 (.slice A31 (vQa.length) c32) (vQa.length) (u64s vQa) :: row 4 1 (.slice A33 (lQa.length) c34) (lQa.length) (bools lQa) :: blk b28 (.cells #[.slice A24 (vQb.length) c25, .slice A26 (lQb.length) c27] 53) :: row 22 1 (.slice A24 (vQb.length) c25) (vQb.length) (u64s vQb) :: row 4 1 (.slice A26 (lQb.length) c27) (lQb.length) (bools lQb) :: blk b15 (.cells #[.slice A11 (vQa.length) c12, .slice A13 (lQa.length) c14] 53) :: row 22 1 (.slice A11 (vQa.length) c12) (vQa.length) (u64s vQa) :: row 4 1 (.slice A13 (lQa.length) c14) (lQa.length) (bools lQa) :: blk b2 (.cells #[.slice A3 x1.length c3, .slice A4 y1.length c4] 53) :: blk b1 (.cells #[.slice A1 x0.length c1, .slice A2 y0.length c2] 53) :: fr) := H
  refine rs 2 S H t0 fun a w S H => ?_
  refine r_seq ?_
  refine sb ?_
  refine rn 2 S H t0 fun a w S H => ?_
  have S := S.retell (v' := .bool false) 83 rfl rfl
  refine rn 3 S H t0 fun a w S H => ?_
  have S := S.retell (v' := .bool false) 86 rfl rfl
  refine rn 4 S H t0 fun a w S H => ?_
  have S := S.retell (v' := .bool false) 90 rfl rfl
  refine rn 4 S H t0 fun a w S H => ?_
  refine r_call (args := #[.agg #[.slice A31 (vQa.length) c32, .slice A33 (lQa.length) c34], .agg #[.slice A11 (vQa.length) c12, .slice A13 (lQa.length) c14]]) S rfl rfl Tryz.call26 (same_ct (H := H) _ _ vQa lQa _ _ _ (SlOk.ofRow (i := 8) H rfl) _ _ _ (SlOk.ofRow (i := 9) H rfl) _ _ _ (SlOk.ofRow (i := 14) H rfl) _ _ _ (SlOk.ofRow (i := 15) H rfl)) rfl rfl rfl fun v a w hR S => ?_
  obtain ⟨rfl, H⟩ := hR
  refine r_y S H (y_not S rfl rfl) rfl rfl rfl fun a S => ?_
  have S := S.retell (v' := .bool false) 96 rfl rfl
  refine rs 1 S H t0 fun a w S H => ?_
  refine r_condF S rfl ?_
  refine wp_skip ?_
  refine x_then ?_
  refine r_seq ?_
  rcases hez with ⟨hE, hZ, hY⟩ | ⟨hE, hZ, hY⟩
  · skip
    subst hE; subst hZ; subst hY
    refine sr 2 S H t0 fun a w S H => ?_
    have S := S.retell (v' := .bool true) 99 rfl rfl
    refine r_condT S rfl ?_
    refine sb ?_
    refine rn 4 S H t0 fun a w S H => ?_
    refine r_call (args := #[.agg #[.slice A36 (vz.length) c37, .slice A38 (lz.length) c39], .agg #[.slice A24 (vz.length) c25, .slice A26 (lz.length) c27]]) S rfl rfl Tryz.call26 (same_ct (H := H) _ _ vz lz _ _ _ (SlOk.ofRow (i := 5) H rfl) _ _ _ (SlOk.ofRow (i := 6) H rfl) _ _ _ (SlOk.ofRow (i := 11) H rfl) _ _ _ (SlOk.ofRow (i := 12) H rfl)) rfl rfl rfl fun v a w hR S => ?_
    obtain ⟨rfl, H⟩ := hR
    refine rs 2 S H t0 fun a w S H => ?_
    refine wp_ret ?_
    refine x_thenRet ?_
    refine r_ret1 S H Tryz.results8 (ro_tmp S rfl) ?_
    exact ⟨rfl, H.drop.drop.drop.drop.drop.drop.drop.drop.drop.drop.drop.drop.drop.drop.drop.drop.drop.drop⟩
  · skip
    subst hE; subst hZ; subst hY
    refine sr 2 S H t0 fun a w S H => ?_
    have S := S.retell (v' := .bool false) 99 rfl rfl
    refine r_condF S rfl ?_
    refine wp_skip ?_
    refine x_then ?_
    refine sb ?_
    refine rn 4 S H t0 fun a w S H => ?_
    have S := S.retell (v' := .bool true) 109 rfl rfl
    refine rn 4 S H t0 fun a w S H => ?_
    refine r_call (args := #[.agg #[.slice A36 (vz.length) c37, .slice A38 (lz.length) c39], .agg #[.slice A11 (vz.length) c12, .slice A13 (lz.length) c14]]) S rfl rfl Tryz.call26 (same_ct (H := H) _ _ vz lz _ _ _ (SlOk.ofRow (i := 5) H rfl) _ _ _ (SlOk.ofRow (i := 6) H rfl) _ _ _ (SlOk.ofRow (i := 14) H rfl) _ _ _ (SlOk.ofRow (i := 15) H rfl)) rfl rfl rfl fun v a w hR S => ?_
    obtain ⟨rfl, H⟩ := hR
    refine rs 2 S H t0 fun a w S H => ?_
    refine wp_ret ?_
    refine r_ret1 S H Tryz.results8 (ro_tmp S rfl) ?_
    exact ⟨rfl, H.drop.drop.drop.drop.drop.drop.drop.drop.drop.drop.drop.drop.drop.drop.drop.drop.drop.drop⟩

end Go.Proofs.YtfndfpgmgnacgaaGreatDoor
