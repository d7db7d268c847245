/- Walks of functions of the program, over slots and resources, and what they rest on. No condition. -/
import Derived.Test.YtfndfpgmgnacgaaGreatDoorKCommitSweepsa
import Derived.Test.YtfndfpgmgnacgaaGreatDoorRv
import Derived.Test.YtfndfpgmgnacgaaGreatDoorRg
import Derived.RangeFuncBox
import Derived.Shelf.Abstract
import Derived.WalkKit
import Derived.OwnWalkIn
import Derived.TacticsInMore
import Derived.LoopNIn
import Derived.LoopIn
import Derived.Laws.StructEq
import Derived.Shelf.Strconv.Itoa3
import Derived.Shelf.Small.Wraps
import Derived.Shelf.Strconv.AtoiErr
import Derived.Shelf.Strconv.ErrVarAll
import Derived.Lib.AtoiErrMem
namespace Go.Proofs.YtfndfpgmgnacgaaGreatDoor
open Go.RowKit Go.Cg
set_option linter.unusedVariables false
set_option linter.unusedSimpArgs false
set_option maxRecDepth 8000
set_option synthInstance.maxHeartbeats 1000000
set_option synthInstance.maxSize 1000000
theorem el132 : Elem Tryz.prog 132 41 1 24 (.slice none 0 0) := ⟨Tryz.underlying132, by kernel_rfl, rfl, by decide⟩
open Go.Cg.Dk (Fl Fs Nm By)
theorem grow_ct (w : World) (fr : List Res) (n : Nat) (hn : n ≤ 17592186044416) (H : Sat w (fr)) :
    Rt Tryz.prog 101 #[.slice none 0 0, .int .i64 ((n : Nat) : Int)] w fun v w' => ∃ A c, v = .slice A 0 c ∧ Sat w' (row 5 1 (.slice A 0 c) 0 (u8s []) :: fr) := by
  refine en2 Tryz.func101 rfl Tryz.ntmps101 rfl fun a S => ?_
  refine sr 1 S H t0 fun a w S H => ?_
  refine r_seq ?_
  refine sr 2 S H t0 fun a w S H => ?_
  refine r_test S rfl (fun h6 => ?_) (fun h6 => ?_)
  · skip
    exfalso; omega
  · skip
    refine wp_skip ?_
    refine x_then ?_
    refine r_seq ?_
    refine sr 8 S H (by omega) fun a w S H => ?_
    refine sr 2 S H t0 fun a w S H => ?_
    refine r_test S rfl (fun h16 => ?_) (fun h16 => ?_)
    · skip
      have H := H.nilRow 5 1
      refine r_region ?_
      refine rn 3 S H t0 fun a w S H => ?_
      refine r_y S H (y_sliceH (k := 0) S rfl rfl rfl Tryz.underlying41 Tryz.sizeOf5 rfl (by omega)) rfl rfl rfl fun a S => ?_
      have S := S.retell (v' := .slice none 0 0) 20 rfl (by rw [shift0])
      refine rn 1 S H t0 fun a w S H => ?_
      refine r_extend (m := n) (xs' := u8s (([]) ++ List.replicate n 0)) (km := (([]) ++ List.replicate n 0).length) (L' := fun A1 c2 => row 5 1 (.slice A1 ((([]) ++ List.replicate n 0).length) c2) ((([]) ++ List.replicate n 0).length) (u8s (([]) ++ List.replicate n 0)) :: fr) 0 S H rfl rfl rfl rfl el41 Tryz.underlying3 rfl rfl (by first | omega | (simp <;> omega)) (by simp only [maxLen]; first | omega | (simp <;> omega)) (by first | omega | (simp <;> omega)) (by simp) (by simp [u8s]) (fun _ _ => rfl) rfl rfl rfl fun a w A1 c2 S H => ?_
      refine rn 2 S H t0 fun a w S H => ?_
      refine r_y S H (y_sliceH (k := 0) S rfl rfl rfl Tryz.underlying41 Tryz.sizeOf5 rfl (by omega)) rfl rfl rfl fun a S => ?_
      have S := S.retell (v' := .slice A1 0 c2) 25 rfl (by rw [shift0])
      refine rn 1 S H t0 fun a w S H => ?_
      refine r_nil ?_
      refine x_then ?_
      refine sr 2 S H t0 fun a w S H => ?_
      refine wp_ret ?_
      refine r_ret1 S H Tryz.results101 (ro_tmp S rfl) ?_
      exact ⟨_, _, rfl, Sat.cut (H)⟩
    · skip
      refine wp_skip ?_
      refine x_then ?_
      refine sr 2 S H t0 fun a w S H => ?_
      refine wp_ret ?_
      refine r_ret1 S H Tryz.results101 (ro_tmp S rfl) ?_
      have hn0 : n = 0 := by omega
      exact ⟨none, 0, rfl, H.nilRow _ _⟩

theorem concat_ct (w : World) (fr : List Res) (A : Option Addr) (c : Nat) (l : List Sl) (ds : List By) (ok : SlOk fr 1 A l.length c (sls l)) (hds : SlsOk fr l ds) (hfn : ds.flatten.length ≤ 17592186044416) (hln : l.length ≤ 17592186044416) (H : Sat w (fr)) :
    Rt Tryz.prog 80 #[.slice A l.length c] w fun v w' => ∃ A' c', v = .slice A' ds.flatten.length c' ∧ Sat w' (row 5 1 (.slice A' ds.flatten.length c') ds.flatten.length (u8s ds.flatten) :: fr) := by
  refine en1 Tryz.func80 rfl Tryz.ntmps80 rfl fun a S => ?_
  refine sr 1 S H t0 fun a w S H => ?_
  refine sr 1 S H t0 fun a w S H => ?_
  refine r_seq ?_
  refine sr 3 S H t0 fun a w S H => ?_
  refine r_block ?_
  refine r_loop (ι := Nat) (fun i a w => Slots a 36 [(0, .slice A l.length c), (2, .slice none 0 0), (3, .int .i64 (((ds.take i).flatten.length : Nat) : Int)), (9, .slice A l.length c), (10, .int .i64 ((l.length : Nat) : Int)), (11, .int .i64 ((i : Nat) : Int)), (36, undef)] ∧ Sat w (fr) ∧ (i ≤ l.length)) (fun i => l.length - i) 0 ⟨S.sub ⟨rfl, rfl, (by simp; rfl), rfl, rfl, rfl, rfl, trivial⟩, H, Nat.zero_le _⟩ (fun i a w hI => ?_)
  obtain ⟨S, H, hI⟩ := hI
  have hil := hI
  have hfl := flat_le ds i
  refine sr 1 S H t0 fun a w S H => ?_
  refine r_seq ?_
  refine r_test S rfl (fun h12 => ?_) (fun h12 => ?_)
  · skip
    refine wp_skip ?_
    refine x_then ?_
    refine r_seq ?_
    refine r_block ?_
    refine sb ?_
    obtain ⟨b1, o2, rfl⟩ := ok.addr H (by first | omega | (simp <;> omega))
    refine r_y S H (y_index S rfl rfl rfl Tryz.underlying132 Tryz.sizeOf41 (by omega) (by omega)) rfl rfl rfl fun a S => ?_
    refine r_y S H (y_loadAt S rfl rfl Tryz.isAgg41 (fun w H => ok.cell w H (sls_at (i := i) (by first | omega | (simp <;> omega))))) rfl rfl rfl fun a S => ?_
    obtain ⟨A3, c4, heA3, okA3⟩ := hds.at (i := i) (by omega)
    have S := S.retell (v' := .slice A3 ((ds.getD i []).length) c4) 14 rfl (by rw [heA3])
    refine rs 1 S H t0 fun a w S H => ?_
    have hi : i < ds.length := by have := hds.len; omega
    have ef : (ds.take (i + 1)).flatten.length = (ds.take i).flatten.length + (ds.getD i []).length := by rw [flat_take hi, List.length_append]
    have hfl3 := flat_le ds (i + 1)
    refine sr 5 S H (by omega) fun a w S H => ?_
    refine sr 2 S H t0 fun a w S H => ?_
    refine r_test S rfl (fun h20 => ?_) (fun h20 => ?_)
    · skip
      exfalso; omega
    · skip
      refine wp_skip ?_
      refine x_blockEnd ?_
      refine x_then ?_
      refine er 2 S H (by omega) fun a w S H => ?_
      refine x_then ?_
      have hi : i < ds.length := by have := hds.len; omega
      have ef : (ds.take (i + 1)).flatten.length = (ds.take i).flatten.length + (ds.getD i []).length := by rw [flat_take hi, List.length_append]
      exact ⟨(i + 1), ⟨S.sub ⟨rfl, rfl, ((show lk _ _ = some _ from rfl).trans (congrArg (fun x => some (Value.int .i64 x)) (by omega))), rfl, rfl, rfl, rfl, trivial⟩, H, (by omega : i + 1 ≤ l.length)⟩, by show l.length - (i + 1) < l.length - i; omega⟩
  · skip
    refine wp_exit ?_
    refine x_thenExit ?_
    refine x_thenExit ?_
    refine x_blockHere ?_
    refine x_then ?_
    refine sb ?_
    refine rn 1 S H t0 fun a w S H => ?_
    refine r_call (args := #[.slice none 0 0, .int .i64 (((ds.take i).flatten.length : Nat) : Int)]) S rfl rfl Tryz.call101 (grow_ct (H := H) _ _ ((ds.take i).flatten.length) (by omega)) rfl rfl rfl fun v a w hR S => ?_
    obtain ⟨A9, c10, rfl, H⟩ := hR
    refine rs 1 S H t0 fun a w S H => ?_
    refine r_seq ?_
    refine sr 3 S H t0 fun a w S H => ?_
    refine r_block ?_
    refine r_loop (ι := Nat × Option Addr × Nat) (fun ⟨i, A2, c2⟩ a w => Slots a 36 [(0, .slice A l.length c), (2, .slice none 0 0), (6, .slice A2 ((ds.take i).flatten.length) c2), (9, .slice A l.length c), (10, .int .i64 ((l.length : Nat) : Int)), (24, .slice A9 0 c10), (25, .slice A l.length c), (26, .int .i64 ((l.length : Nat) : Int)), (27, .int .i64 ((i : Nat) : Int)), (36, undef)] ∧ Sat w (row 5 1 (.slice A2 ((ds.take i).flatten.length) c2) ((ds.take i).flatten.length) (u8s ((ds.take i).flatten)) :: fr) ∧ (i ≤ l.length)) (fun ⟨i, A2, c2⟩ => l.length - i) (0, A9, c10) ⟨S.sub ⟨rfl, rfl, (by simp; rfl), rfl, rfl, rfl, rfl, rfl, rfl, rfl, trivial⟩, (by simpa using H), Nat.zero_le _⟩ (fun ⟨i, A2, c2⟩ a w hI => ?_)
    obtain ⟨S, H, hI⟩ := hI
    have hil := hI
    have hfl := flat_le ds i
    have hfl2 := flat_le ds (i + 1)
    refine sr 1 S H t0 fun a w S H => ?_
    refine r_seq ?_
    refine r_test S rfl (fun h28 => ?_) (fun h28 => ?_)
    · skip
      refine wp_skip ?_
      refine x_then ?_
      refine r_seq ?_
      refine r_block ?_
      refine sb ?_
      obtain ⟨b11, o12, rfl⟩ := (ok.more _).addr H (by first | omega | (simp <;> omega))
      refine r_y S H (y_index S rfl rfl rfl Tryz.underlying132 Tryz.sizeOf41 (by omega) (by omega)) rfl rfl rfl fun a S => ?_
      refine r_y S H (y_loadAt S rfl rfl Tryz.isAgg41 (fun w H => (ok.more _).cell w H (sls_at (i := i) (by first | omega | (simp <;> omega))))) rfl rfl rfl fun a S => ?_
      obtain ⟨A13, c14, heA13, okA13⟩ := hds.at (i := i) (by omega)
      have S := S.retell (v' := .slice A13 ((ds.getD i []).length) c14) 30 rfl (by rw [heA13])
      refine rs 1 S H t0 fun a w S H => ?_
      have hi : i < ds.length := by have := hds.len; omega
      have ef : (ds.take (i + 1)).flatten.length = (ds.take i).flatten.length + (ds.getD i []).length := by rw [flat_take hi, List.length_append]
      have hfl3 := flat_le ds (i + 1)
      refine r_region ?_
      refine rn 2 S H t0 fun a w S H => ?_
      refine r_appendS (L' := fun A15 c16 => row 5 1 (.slice A15 ((ds.take i).flatten.length + (ds.getD i []).length) c16) ((ds.take i).flatten.length + (ds.getD i []).length) (u8s (((ds.take i).flatten) ++ (ds.getD i []))) :: fr) (xs' := u8s (((ds.take i).flatten) ++ (ds.getD i []))) 0 S H rfl rfl rfl rfl el41 (okA13.more _) (one_u8s _) (by simp only [maxLen]; first | omega | (simp <;> omega)) (by first | omega | (simp <;> omega)) (u8s_app ((ds.take i).flatten) (ds.getD i [])) (by first | omega | (simp <;> omega)) (fun _ _ => rfl) rfl rfl rfl fun a w A15 c16 hA15 S H => ?_
      refine rn 1 S H t0 fun a w S H => ?_
      refine r_nil ?_
      refine x_blockEnd ?_
      refine x_then ?_
      refine er 2 S H (by omega) fun a w S H => ?_
      refine x_then ?_
      have hi : i < ds.length := by have := hds.len; omega
      have ez := (flat_take hi).symm
      have en : (ds.take i).flatten.length + (ds.getD i []).length = (ds.take (i + 1)).flatten.length := by rw [← ez]; simp
      have H := H
      rw [ez] at H
      rw [en] at H S
      exact ⟨(i + 1, A15, c16), ⟨S.sub ⟨rfl, rfl, rfl, rfl, rfl, rfl, rfl, rfl, rfl, rfl, trivial⟩, H, (by omega : i + 1 ≤ l.length)⟩, by show l.length - (i + 1) < l.length - i; omega⟩
    · skip
      refine wp_exit ?_
      refine x_thenExit ?_
      refine x_thenExit ?_
      refine x_blockHere ?_
      refine x_then ?_
      refine sr 2 S H t0 fun a w S H => ?_
      refine wp_ret ?_
      refine r_ret1 S H Tryz.results80 (ro_tmp S rfl) ?_
      have hil2 : i = ds.length := by have := hds.len; omega
      have e : ds.flatten = (ds.take i).flatten := by rw [hil2, List.take_length]
      rw [e]
      exact ⟨_, _, rfl, H⟩

theorem encode_ct (w : World) (fr : List Res) (A : Option Addr) (c : Nat) (b : By) (ok : SlOk fr 1 A b.length c (u8s b)) (hb : b.length ≤ 17592186044416) (H : Sat w (fr)) :
    Rt Tryz.prog 53 #[.slice A b.length c] w fun v w' => ∃ A' c', v = .tuple #[.slice A' (Oc.enc b).1.length c', .int .i64 (((Oc.enc b).2 : Nat) : Int)] ∧ Sat w' (row 5 1 (.slice A' (Oc.enc b).1.length c') (Oc.enc b).1.length (u8s (Oc.enc b).1) :: fr) := by
  refine en1 Tryz.func53 rfl Tryz.ntmps53 rfl fun a S => ?_
  refine sr 2 S H t0 fun a w S H => ?_
  refine r_seq ?_
  refine sr 3 S H t0 fun a w S H => ?_
  refine r_test S rfl (fun h7 => ?_) (fun h7 => ?_)
  · skip
    refine sr 2 S H t0 fun a w S H => ?_
    refine wp_ret ?_
    refine x_thenRet ?_
    refine r_ret2 S H Tryz.results53 (ro_tmp S rfl) (ro_tmp S rfl) ?_
    have e : Oc.enc b = ([], 1) := by unfold Oc.enc; rw [if_pos (by omega)]
    rw [e]
    exact ⟨none, 0, rfl, H.nilRow _ _⟩
  · skip
    refine wp_skip ?_
    refine x_then ?_
    refine sb ?_
    refine rn 3 S H (by omega) fun a w S H => ?_
    refine r_call (args := #[.slice none 0 0, .int .i64 2, .int .u64 ((b.length : Nat) : Int)]) S rfl rfl Tryz.call52 (put_ct (H := H) _ _ _ _ _ ([]) (SlOk.nil8 _) 2 b.length (by omega) (by simp)) rfl rfl rfl fun v a w hR S => ?_
    obtain ⟨A5, c6, rfl, H⟩ := hR
    refine rn 1 S H t0 fun a w S H => ?_
    refine r_lit (vs := #[(0, .slice A5 ((Oc.put ([]) 2 b.length).length) c6), (1, .slice A b.length c)]) (cs := sls [(A5, (Oc.put ([]) 2 b.length).length, c6), (A, b.length, c)]) S H rfl rfl el132 (by kernel_rfl) (by decide) (by rfl) rfl rfl rfl fun a w b7 S H => ?_
    refine r_call (args := #[.slice (some ⟨b7, 0, none⟩) 2 2]) S rfl rfl Tryz.call80 (concat_ct (H := H) _ _ _ _ ([(A5, (Oc.put ([]) 2 b.length).length, c6), (A, b.length, c)]) [Oc.put [] 2 b.length, b] (SlOk.ofRow (i := 0) H rfl) (.cons (SlOk.ofRow (i := 1) H rfl) (.cons (ok.via fun _ H => H.drop.drop) (.nil _))) (by simp [Oc.put, Oc.le_len]; omega) (by simp)) rfl rfl rfl fun v a w hR S => ?_
    obtain ⟨A8, c9, rfl, H⟩ := hR
    refine rs 1 S H t0 fun a w S H => ?_
    have e2 : ([Oc.put [] 2 b.length, b]).flatten = (Oc.le 2 b.length ++ b) := by simp [Oc.put]; rfl
    rw [e2] at H S
    have hle2 := Oc.le_len 2 b.length
    have hcr := Oc.crc_lt (Oc.le 2 b.length ++ b)
    have hl2 : (Oc.le 2 b.length ++ b).length = 2 + b.length := by simp [hle2]
    refine sb ?_
    refine rn 2 S H t0 fun a w S H => ?_
    refine r_call (args := #[.slice A8 ((Oc.le 2 b.length ++ b).length) c9]) S rfl rfl Tryz.call86 (crc_ct (H := H) _ _ _ _ _ _ (SlOk.ofRow (i := 0) H rfl)) rfl rfl rfl fun v a w hR S => ?_
    obtain ⟨rfl, H⟩ := hR
    refine rn 1 S H (by omega) fun a w S H => ?_
    refine r_call (args := #[.slice A8 ((Oc.le 2 b.length ++ b).length) c9, .int .i64 4, .int .u64 ((Oc.crc (Oc.le 2 b.length ++ b) : Nat) : Int)]) S rfl rfl Tryz.call52 (put_ct (H := H) _ _ _ _ _ (Oc.le 2 b.length ++ b) (SlOk.ofRow (i := 0) H rfl) 4 (Oc.crc (Oc.le 2 b.length ++ b)) (by omega) (by omega)) rfl rfl rfl fun v a w hR S => ?_
    obtain ⟨A14, c15, rfl, H⟩ := hR
    refine rs 2 S H t0 fun a w S H => ?_
    refine wp_ret ?_
    refine r_ret2 S H Tryz.results53 (ro_tmp S rfl) (ro_tmp S rfl) ?_
    have e : Oc.enc b = (Oc.put (Oc.le 2 b.length ++ b) 4 (Oc.crc (Oc.le 2 b.length ++ b)), 0) := by rw [Oc.enc_ok (by omega)]; rfl
    have H := pk [0] 4 H
    rw [e]
    exact ⟨_, _, rfl, H⟩

end Go.Proofs.YtfndfpgmgnacgaaGreatDoor
namespace Go.Proofs.YtfndfpgmgnacgaaGreatDoor
open Go.RowKit Go.Cg
set_option linter.unusedVariables false
set_option linter.unusedSimpArgs false
set_option maxRecDepth 8000
set_option synthInstance.maxHeartbeats 1000000
set_option synthInstance.maxSize 1000000
open Go.Cg.Dk (By)
open Go.Shelf
attribute [local go_sem] Oper.semAt_some
/-- what stands behind, first -/
def backs (b : By) : List (Nat × UInt8) := (List.range b.length).reverse.map fun j => (j, b[j]?.getD 0)
theorem len_backs (b : By) : (backs b).length = b.length := by simp [backs]
theorem backs_at {b : By} {q : Nat} (h : q < b.length) : (backs b)[b.length - 1 - q]? = some (q, b[q]?.getD 0) := by
  simp only [backs, List.getElem?_map]
  rw [List.getElem?_reverse (by simp; omega)]
  simp only [List.length_range]
  rw [show b.length - 1 - (b.length - 1 - q) = q from by omega, List.getElem?_range h]; rfl
set_option maxRecDepth 100000 in
set_option maxHeartbeats 2000000 in
theorem back_iter1 (kb blk off c : Nat) (b : By) (Pw : World → Prop) (hPw : ∀ W, Pw W → W.cell? ⟨kb, 0, none⟩ = some (.slice (some ⟨blk, off, none⟩) b.length c) ∧ ∀ j, j < b.length → W.cell? ⟨blk, off + j, none⟩ = some (.int .u8 ((b[j]?.getD 0).toNat : Int))) (hlen : b.length ≤ 17592186044416) :
    Iter Tryz.prog 125 #[.pointer (some ⟨kb, 0, none⟩)] (fun x : Nat × UInt8 => #[.int .i64 (x.1 : Int), .int .u8 (x.2.toNat : Int)]) (backs b) Pw := by
  intro l J W hJP hJD hY h0
  refine callsIn_of_wp Tryz.func125 rfl trivial ?_ rfl
  simp only [Tryz.ntmps125, List.size_toArray, List.length_cons, List.length_nil, Nat.reduceAdd, Nat.reduceSub, Array.replicate_succ, Array.replicate_zero, List.push_toArray, List.append_toArray, List.nil_append, List.cons_append]
  have hc0 := (hPw W (hJP _ _ h0)).1
  gi_wp2
  gi_loopw [3] (fun i wr => ∃ q : Nat, q ≤ b.length ∧ i = .int .i64 ((q : Int) - 1) ∧ J (b.length - q) wr) (fun i _ => (intOf i + 1).toNat)
  case atStart => exact ⟨b.length, Nat.le_refl _, by simp, by simpa using h0⟩
  case round =>
    obtain ⟨q, hq, rfl, hJs⟩ := hrel
    have hP := hPw wr (hJP _ _ hJs)
    have hcb := hP.1
    cases q with
    | zero =>
      gi_wp2
      go_end0
      exact ⟨⟨_, rfl⟩, by rw [len_backs]; simpa using hJs⟩
    | succ q =>
      have hcx := hP.2 q (by omega)
      obtain ⟨fn, tmps, assign, body, hy, hR⟩ := hY (b.length - (q + 1)) (q, b[q]?.getD 0) wr (by rw [show b.length - (q + 1) = b.length - 1 - q from by omega]; exact backs_at (by omega)) hJs
      dsimp only at hy
      have e1 : ((q + 1 : Nat) : Int) - 1 = (q : Int) := by omega
      rw [e1]
      gi_wp2
      refine hR.mono ?_
      rintro e W3 ⟨rfl, hJ3⟩
      gi_wp2
      go_roundw
      case rel => exact ⟨q, by omega, rfl, by rw [show b.length - q = b.length - (q + 1) + 1 from by omega]; exact hJ3⟩
      case measure => simp [intOf]
set_option maxRecDepth 100000 in
set_option maxHeartbeats 2000000 in
theorem back_iter0 (kb : Nat) (A : Option Addr) (c : Nat) (Pw : World → Prop) (hPw : ∀ W, Pw W → W.cell? ⟨kb, 0, none⟩ = some (.slice A 0 c)) :
    Iter Tryz.prog 125 #[.pointer (some ⟨kb, 0, none⟩)] (fun x : Nat × UInt8 => #[.int .i64 (x.1 : Int), .int .u8 (x.2.toNat : Int)]) (backs []) Pw := by
  intro l J W hJP hJD hY h0
  refine callsIn_of_wp Tryz.func125 rfl trivial ?_ rfl
  simp only [Tryz.ntmps125, List.size_toArray, List.length_cons, List.length_nil, Nat.reduceAdd, Nat.reduceSub, Array.replicate_succ, Array.replicate_zero, List.push_toArray, List.append_toArray, List.nil_append, List.cons_append]
  have hc0 := hPw W (hJP _ _ h0)
  gi_wp2
  gi_loopw [3] (fun i wr => i = .int .i64 (-1) ∧ J 0 wr) (fun _ _ => 0)
  case atStart => exact ⟨rfl, h0⟩
  case round =>
    obtain ⟨rfl, hJs⟩ := hrel
    gi_wp2
    go_end0
    exact ⟨⟨_, rfl⟩, hJs⟩
theorem back_iter (kb : Nat) (A : Option Addr) (c : Nat) (b : By) (L0 : List Res) (ok : SlOk L0 1 A b.length c (u8s b)) (hlen : b.length ≤ 17592186044416) (w0 : World) (H0 : Sat w0 L0) :
    Iter Tryz.prog 125 #[.pointer (some ⟨kb, 0, none⟩)] (fun x : Nat × UInt8 => #[.int .i64 (x.1 : Int), .int .u8 (x.2.toNat : Int)]) (backs b) (fun W => W.cell? ⟨kb, 0, none⟩ = some (.slice A b.length c) ∧ Sat W L0) := by
  by_cases hb : b = []
  · subst hb
    exact back_iter0 kb A c _ fun W h => h.1
  · obtain ⟨blk, off, e⟩ := ok.addr (sz := 0) H0 (List.length_pos_iff.2 hb)
    subst e
    refine back_iter1 kb blk off c b _ (fun W h => ⟨h.1, fun j hj => ?_⟩) hlen
    have := ok.cell W h.2 (j := j) (v := .int .u8 ((b.getD j 0).toNat : Int)) (by have := u8s_at hj; rwa [Nat.mul_one] at this)
    simpa [List.getD_eq_getElem?_getD] using this
end Go.Proofs.YtfndfpgmgnacgaaGreatDoor
namespace Go.Proofs.YtfndfpgmgnacgaaGreatDoor
open Go.RowKit Go.Cg
set_option linter.unusedVariables false
set_option linter.unusedSimpArgs false
set_option maxRecDepth 8000
set_option synthInstance.maxHeartbeats 1000000
set_option synthInstance.maxSize 1000000
open Go.Cg.Dk (By)
theorem backward_ct (w : World) (fr : List Res) (A : Option Addr) (n c : Nat) (H : Sat w (fr)) :
    Rt Tryz.prog 100 #[.slice A n c] w fun v w' => ∃ kb, v = .func (.func 125) #[] #[.pointer (some ⟨kb, 0, none⟩)] ∧ Sat w' (blk kb (.cells #[.slice A n c] 41) :: fr) := by
  refine en1 Tryz.func100 rfl Tryz.ntmps100 rfl fun a S => ?_
  refine sb ?_
  refine r_box (c := #[.slice A n c]) S H rfl rfl rfl rfl rfl rfl fun a w b1 S H => ?_
  refine rs 1 S H t0 fun a w S H => ?_
  refine sb ?_
  refine r_y S H (y_makeFunc (vs := #[.pointer (some ⟨b1, 0, none⟩)]) S rfl rfl) rfl rfl rfl fun a S => ?_
  refine rs 1 S H t0 fun a w S H => ?_
  refine wp_ret ?_
  refine r_ret1 S H Tryz.results100 (ro_tmp S rfl) ?_
  exact ⟨_, rfl, H⟩

theorem get_ct (w : World) (fr : List Res) (A : Option Addr) (n c : Nat) (b : By) (ok : SlOk fr 1 A n c (u8s b)) (p size : Int) (hi : -4611686018427387904 ≤ p ∧ p ≤ 4611686018427387904) (hsz : -4611686018427387904 ≤ size ∧ size ≤ 4611686018427387904) (hb : b.length ≤ 17592186044416) (H : Sat w (fr)) :
    Rt Tryz.prog 73 #[.slice A n c, .int .i64 p, .int .i64 size] w fun v w' => v = .tuple #[.int .u64 (((Oc.get b p size).1 : Nat) : Int), .bool (Oc.get b p size).2] ∧ Sat w' fr := by
  refine rt_enterM (n := 44) Tryz.func73 rfl Tryz.ntmps73 rfl fun a S => ?_
  replace S : Slots a 44 [(0, .slice A n c), (1, .int .i64 p), (2, .int .i64 size), (44, undef)] := S
  have hcap := ok.le
  obtain rfl := ok.n8
  refine sr 2 S H t0 fun a w S H => ?_
  refine r_seq ?_
  refine sb ?_
  refine rn 3 S H t0 fun a w S H => ?_
  refine scO 1 S H (fun _ => t0) fun a w S H => ?_
  refine rn 1 S H t0 fun a w S H => ?_
  refine scO 1 S H (fun _ => t0) fun a w S H => ?_
  refine rn 1 S H t0 fun a w S H => ?_
  refine scO 5 S H (fun h => by simp only [Bool.or_eq_false_iff, Bool.and_eq_true, decide_eq_true_eq, decide_eq_false_iff_not] at h; omega) fun a w S H => ?_
  refine sn ?_
  refine r_cond S rfl (fun h28 => ?_) (fun h28 => ?_)
  · skip
    simp only [Bool.or_eq_true, decide_eq_true_eq] at h28
    refine sr 2 S H t0 fun a w S H => ?_
    refine wp_ret ?_
    refine x_thenRet ?_
    refine b_ret2 S H Tryz.results73 (ro_tmp S rfl) (ro_tmp S rfl) ?_
    have e : Oc.get b p size = (0, false) := by unfold Oc.get; rw [if_neg (by omega)]
    rw [e]
    exact ⟨rfl, H⟩
  · skip
    simp only [Bool.or_eq_false_iff, decide_eq_false_iff_not] at h28
    refine wp_skip ?_
    refine x_then ?_
    refine sb ?_
    refine r_alloc S H rfl Tryz.zeroValue22 rfl rfl rfl rfl fun a w b1 S H => ?_
    replace H : Sat _ (blk b1 (.cells #[.int .u64 0] 22) :: fr) := H
    refine rs 1 S H t0 fun a w S H => ?_
    refine r_seq ?_
    refine sb ?_
    refine rn 5 S H (by omega) fun a w S H => ?_
    refine r_y S H (y_sliceLH (k := p.toNat) (k' := (p + size).toNat) S rfl rfl rfl rfl Tryz.underlying41 Tryz.sizeOf5 (by omega) (by omega) (by omega) (by omega)) rfl rfl rfl fun a S => ?_
    obtain ⟨As, hAs⟩ : ∃ As, As = shift A (p.toNat * 1) (decide (c = p.toNat)) := ⟨_, rfl⟩
    obtain ⟨s, hs⟩ : ∃ s : By, s = (b.drop p.toNat).take size.toNat := ⟨_, rfl⟩
    have hn34 : (p + size).toNat - p.toNat = size.toNat := by omega
    have hsl : s.length = size.toNat := by rw [hs]; simp; omega
    have oks := ok.part8 p.toNat (p + size).toNat (by omega) (by omega)
    rw [hn34, ← hs, ← hsl, ← hAs] at oks
    have S := S.retell (v' := .slice As s.length (c - p.toNat)) 34 rfl (by rw [hAs, hsl, hn34])
    refine r_call (args := #[.slice As s.length (c - p.toNat)]) S rfl rfl Tryz.call100 (backward_ct (H := H) _ _ _ _ _) rfl rfl rfl fun v a w hR S => ?_
    obtain ⟨kb3, rfl, H⟩ := hR
    refine sn ?_
    refine r_block ?_
    replace S := S.sub (E' := [(0, .slice A b.length c), (1, .int .i64 p), (2, .int .i64 size), (6, .int .u64 0), (7, .bool false), (8, .pointer (some ⟨b1, 0, none⟩)), (11, .int .i64 size), (12, .bool (decide (size < 1))), (13, .bool (decide (size < 1))), (16, .bool ((decide (size < 1)) || (decide (8 < size)))), (17, .bool ((decide (size < 1)) || (decide (8 < size)))), (20, .bool (((decide (size < 1)) || (decide (8 < size))) || (decide (p < 0)))), (21, .bool (((decide (size < 1)) || (decide (8 < size))) || (decide (p < 0)))), (28, .bool ((((decide (size < 1)) || (decide (8 < size))) || (decide (p < 0))) || (decide (((b.length : Nat) : Int) - size < p)))), (29, .slice A b.length c), (30, .int .i64 p), (31, .int .i64 p), (32, .int .i64 size), (33, .int .i64 (p + size)), (34, .slice As s.length (c - p.toNat)), (35, .func (.func 125) #[] #[.pointer (some ⟨kb3, 0, none⟩)]), (44, undef)]) ⟨rfl, rfl, rfl, rfl, rfl, rfl, rfl, rfl, rfl, rfl, rfl, rfl, rfl, rfl, rfl, rfl, rfl, rfl, rfl, rfl, rfl, rfl, trivial⟩
    refine wp_range (ι := Unit) (n := 44) (fun i (g : Unit) => blk b1 (.cells #[.int .u64 ((Oc.unle (s.drop (s.length - i)) : Nat) : Int)] 22) :: blk kb3 (.cells #[.slice As s.length (c - p.toNat)] 41) :: fr) (fun i (g : Unit) => i ≤ s.length) [(0, .slice A b.length c), (1, .int .i64 p), (2, .int .i64 size), (6, .int .u64 0), (7, .bool false), (8, .pointer (some ⟨b1, 0, none⟩)), (11, .int .i64 size), (12, .bool (decide (size < 1))), (13, .bool (decide (size < 1))), (16, .bool ((decide (size < 1)) || (decide (8 < size)))), (17, .bool ((decide (size < 1)) || (decide (8 < size)))), (20, .bool (((decide (size < 1)) || (decide (8 < size))) || (decide (p < 0)))), (21, .bool (((decide (size < 1)) || (decide (8 < size))) || (decide (p < 0)))), (28, .bool ((((decide (size < 1)) || (decide (8 < size))) || (decide (p < 0))) || (decide (((b.length : Nat) : Int) - size < p)))), (29, .slice A b.length c), (30, .int .i64 p), (31, .int .i64 p), (32, .int .i64 size), (33, .int .i64 (p + size)), (34, .slice As s.length (c - p.toNat)), (35, .func (.func 125) #[] #[.pointer (some ⟨kb3, 0, none⟩)])] (fun x => [(37, .int .u8 ((x.2.toNat : Nat) : Int)), (36, .int .i64 (x.1 : Int))] ++ [(0, .slice A b.length c), (1, .int .i64 p), (2, .int .i64 size), (6, .int .u64 0), (7, .bool false), (8, .pointer (some ⟨b1, 0, none⟩)), (11, .int .i64 size), (12, .bool (decide (size < 1))), (13, .bool (decide (size < 1))), (16, .bool ((decide (size < 1)) || (decide (8 < size)))), (17, .bool ((decide (size < 1)) || (decide (8 < size)))), (20, .bool (((decide (size < 1)) || (decide (8 < size))) || (decide (p < 0)))), (21, .bool (((decide (size < 1)) || (decide (8 < size))) || (decide (p < 0)))), (28, .bool ((((decide (size < 1)) || (decide (8 < size))) || (decide (p < 0))) || (decide (((b.length : Nat) : Int) - size < p)))), (29, .slice A b.length c), (30, .int .i64 p), (31, .int .i64 p), (32, .int .i64 size), (33, .int .i64 (p + size)), (34, .slice As s.length (c - p.toNat)), (35, .func (.func 125) #[] #[.pointer (some ⟨kb3, 0, none⟩)]), (44, undef)]) S () (by simpa [Oc.unle] using pk [1, 0] 2 H) (Nat.zero_le _) rfl (enters_of Tryz.func125 (by kernel_rfl) rfl) (back_iter kb3 As (c - p.toNat) s fr oks (by omega) _ H.drop.drop) (fun _ => rfl) ?_ (fun _ => rfl) (fun _ => rfl) (fun x => [(0, .slice A b.length c), (1, .int .i64 p), (2, .int .i64 size), (6, .int .u64 0), (7, .bool false), (8, .pointer (some ⟨b1, 0, none⟩)), (10, .int .u8 ((x.2.toNat : Nat) : Int)), (11, .int .i64 size), (12, .bool (decide (size < 1))), (13, .bool (decide (size < 1))), (16, .bool ((decide (size < 1)) || (decide (8 < size)))), (17, .bool ((decide (size < 1)) || (decide (8 < size)))), (20, .bool (((decide (size < 1)) || (decide (8 < size))) || (decide (p < 0)))), (21, .bool (((decide (size < 1)) || (decide (8 < size))) || (decide (p < 0)))), (28, .bool ((((decide (size < 1)) || (decide (8 < size))) || (decide (p < 0))) || (decide (((b.length : Nat) : Int) - size < p)))), (29, .slice A b.length c), (30, .int .i64 p), (31, .int .i64 p), (32, .int .i64 size), (33, .int .i64 (p + size)), (34, .slice As s.length (c - p.toNat)), (35, .func (.func 125) #[] #[.pointer (some ⟨kb3, 0, none⟩)]), (44, undef)]) ?_ ?_ rfl ⟨rfl, rfl, rfl, rfl, rfl, rfl, rfl, rfl, rfl, rfl, rfl, rfl, rfl, rfl, rfl, rfl, rfl, rfl, rfl, rfl, rfl, trivial⟩ rfl ?_
    · rintro i (g : Unit) W hF H
      exact ⟨by have := (H.cellOf (i := 1) rfl).1 (j := 0); simpa using this, H.drop.drop⟩
    · rintro l D i (g : Unit) x a w r hx hF S H
      replace S := S.sub (E' := [(0, .slice A b.length c), (1, .int .i64 p), (2, .int .i64 size), (6, .int .u64 0), (7, .bool false), (8, .pointer (some ⟨b1, 0, none⟩)), (11, .int .i64 size), (12, .bool (decide (size < 1))), (13, .bool (decide (size < 1))), (16, .bool ((decide (size < 1)) || (decide (8 < size)))), (17, .bool ((decide (size < 1)) || (decide (8 < size)))), (20, .bool (((decide (size < 1)) || (decide (8 < size))) || (decide (p < 0)))), (21, .bool (((decide (size < 1)) || (decide (8 < size))) || (decide (p < 0)))), (28, .bool ((((decide (size < 1)) || (decide (8 < size))) || (decide (p < 0))) || (decide (((b.length : Nat) : Int) - size < p)))), (29, .slice A b.length c), (30, .int .i64 p), (31, .int .i64 p), (32, .int .i64 size), (33, .int .i64 (p + size)), (34, .slice As s.length (c - p.toNat)), (35, .func (.func 125) #[] #[.pointer (some ⟨kb3, 0, none⟩)]), (36, .int .i64 (x.1 : Int)), (37, .int .u8 ((x.2.toNat : Nat) : Int)), (44, undef)]) ⟨rfl, rfl, rfl, rfl, rfl, rfl, rfl, rfl, rfl, rfl, rfl, rfl, rfl, rfl, rfl, rfl, rfl, rfl, rfl, rfl, rfl, rfl, rfl, rfl, trivial⟩
      refine in_region ?_
      refine rn 1 S H t0 fun a w S H => ?_
      refine r_nil ?_
      refine x_then ?_
      exact ⟨S.sub ⟨rfl, rfl, rfl, rfl, rfl, rfl, rfl, rfl, rfl, rfl, rfl, rfl, rfl, rfl, rfl, rfl, rfl, rfl, rfl, rfl, rfl, rfl, rfl, trivial⟩, H⟩
    · rintro l D i (g : Unit) x a w r hx hF S H
      have hil : i < s.length := by have := (List.getElem?_eq_some_iff.1 hx).1; rw [len_backs] at this; exact this
      obtain ⟨q, hq⟩ : ∃ q, q = s.length - 1 - i := ⟨_, rfl⟩
      have hxq : x = (q, s[q]?.getD 0) := by
        have h1 := backs_at (b := s) (q := q) (by omega)
        rw [show s.length - 1 - q = i from by omega, hx] at h1
        exact Option.some.inj h1
      subst hxq
      have hu := Oc.unle_step (b := s) (q := q) (by omega)
      have e1 : s.length - i = q + 1 := by omega
      have hlt := Oc.unle_lt (s.drop (q + 1))
      have hle : 256 ^ (s.drop (q + 1)).length ≤ 256 ^ 7 := Nat.pow_le_pow_right (by omega) (by simp; omega)
      have h8 := (s[q]?.getD 0).toNat_lt
      rw [e1] at H
      have hlt2 : Oc.unle (s.drop (q + 1)) * 256 < 18446744073709551616 := by omega
      replace S := S.sub (E' := [(8, .pointer (some ⟨b1, 0, none⟩)), (10, .int .u8 (((s[q]?.getD 0).toNat : Nat) : Int)), (44, undef)]) ⟨rfl, rfl, rfl, trivial⟩
      replace H : Sat _ (blk D (.deferred (some [])) :: blk l (.loop r) :: blk b1 (.cells #[.int .u64 ((Oc.unle (s.drop (q + 1)) : Nat) : Int)] 22) :: blk kb3 (.cells #[.slice As s.length (c - p.toNat)] 41) :: fr) := H
      refine in_block ?_
      refine in_region ?_
      refine rn 1 S H t0 fun a w S H => ?_
      refine r_y S H (y_bitop S rfl rfl rfl (fun w => shl8 (Oc.unle (s.drop (q + 1))) hlt2 w)) rfl rfl rfl fun a S => ?_
      refine rn 2 S H (by omega) fun a w S H => ?_
      refine r_y S H (y_bitop S rfl rfl rfl (fun w => orByte _ _ hlt2 h8 w)) rfl rfl rfl fun a S => ?_
      refine rn 1 S H t0 fun a w S H => ?_
      refine r_nil ?_
      refine x_blockEnd ?_
      refine x_then ?_
      have e2 : s.length - (i + 1) = q := by omega
      rw [← hu] at H
      exact ⟨(), (by rw [e2]; exact H), (by omega : i + 1 ≤ s.length)⟩
    · rintro D a w (g : Unit) S H hF
      replace S : Slots a 44 [(0, .slice A b.length c), (1, .int .i64 p), (2, .int .i64 size), (6, .int .u64 0), (7, .bool false), (8, .pointer (some ⟨b1, 0, none⟩)), (11, .int .i64 size), (12, .bool (decide (size < 1))), (13, .bool (decide (size < 1))), (16, .bool ((decide (size < 1)) || (decide (8 < size)))), (17, .bool ((decide (size < 1)) || (decide (8 < size)))), (20, .bool (((decide (size < 1)) || (decide (8 < size))) || (decide (p < 0)))), (21, .bool (((decide (size < 1)) || (decide (8 < size))) || (decide (p < 0)))), (28, .bool ((((decide (size < 1)) || (decide (8 < size))) || (decide (p < 0))) || (decide (((b.length : Nat) : Int) - size < p)))), (29, .slice A b.length c), (30, .int .i64 p), (31, .int .i64 p), (32, .int .i64 size), (33, .int .i64 (p + size)), (34, .slice As s.length (c - p.toNat)), (35, .func (.func 125) #[] #[.pointer (some ⟨kb3, 0, none⟩)]), (D + 45, undef)] := S
      rw [len_backs] at H
      refine x_blockEnd ?_
      refine x_then ?_
      refine sr 3 S H t0 fun a w S H => ?_
      refine wp_ret ?_
      refine m_ret2 45 S H Tryz.results73 (ro_tmp S rfl) (ro_tmp S rfl) fun w H => ?_
      have e : Oc.get b p size = (Oc.unle s, true) := by unfold Oc.get; rw [if_pos (by omega), hs]
      rw [e]
      have e0 : s.drop (s.length - s.length) = s := by simp
      exact ⟨by rw [e0], H.drop.drop.drop⟩

end Go.Proofs.YtfndfpgmgnacgaaGreatDoor
namespace Go.Proofs.YtfndfpgmgnacgaaGreatDoor
open Go.RowKit Go.Cg
set_option linter.unusedVariables false
set_option linter.unusedSimpArgs false
set_option maxRecDepth 8000
set_option synthInstance.maxHeartbeats 1000000
set_option synthInstance.maxSize 1000000
open Go.Cg.Dk (By)
theorem decode_ct (w : World) (fr : List Res) (A : Option Addr) (n c : Nat) (b : By) (ok : SlOk fr 1 A n c (u8s b)) (hb : b.length ≤ 17592186044416) (H : Sat w (fr)) :
    Rt Tryz.prog 72 #[.slice A n c] w fun v w' => ∃ A' c', v = .tuple #[.slice A' (Oc.dec b).1.length c', .int .i64 (((Oc.dec b).2.1 : Nat) : Int), .int .i64 (((Oc.dec b).2.2 : Nat) : Int)] ∧ Sat w' (row 5 1 (.slice A' (Oc.dec b).1.length c') (Oc.dec b).1.length (u8s (Oc.dec b).1) :: fr) := by
  refine en1 Tryz.func72 rfl Tryz.ntmps72 rfl fun a S => ?_
  have hcap := ok.le
  obtain rfl := ok.n8
  refine sr 3 S H t0 fun a w S H => ?_
  refine sb ?_
  refine rn 1 S H t0 fun a w S H => ?_
  refine r_call (args := #[.slice A b.length c, .int .i64 0, .int .i64 2]) S rfl rfl Tryz.call73 (get_ct (H := H) _ _ _ _ _ b ok 0 2 (by omega) (by omega) (by omega)) rfl rfl rfl fun v a w hR S => ?_
  obtain ⟨rfl, H⟩ := hR
  refine rs 5 S H t0 fun a w S H => ?_
  have hlt := Oc.get_lt b 0 2
  obtain ⟨m, okb, hg⟩ : ∃ m okb, Oc.get b 0 2 = (m, okb) := ⟨_, _, rfl⟩
  rw [hg] at S
  replace S := S.sub (E' := [(0, .slice A b.length c), (2, .slice none 0 0), (3, .int .i64 0), (4, .int .i64 0), (5, .int .u64 ((m : Nat) : Int)), (6, .bool (okb)), (10, .tuple #[.int .u64 ((m : Nat) : Int), .bool (okb)]), (11, .slice A b.length c), (12, .tuple #[.int .u64 ((m : Nat) : Int), .bool (okb)]), (13, .int .u64 ((m : Nat) : Int)), (14, .bool (okb)), (50, undef)]) ⟨rfl, rfl, rfl, rfl, rfl, rfl, rfl, rfl, rfl, rfl, rfl, rfl, trivial⟩
  have hm : m < 65536 := by have : (Oc.get b 0 2).1 < 256 ^ 2 := hlt; rw [hg] at this; exact this
  refine sb ?_
  refine rn 2 S H (by omega) fun a w S H => ?_
  refine r_y S H (y_add S rfl rfl rfl (wi64 (by omega) (by omega))) rfl rfl rfl fun a S => ?_
  have S := S.retell (v' := .int .i64 (((2 + m) : Nat) : Int)) 17 rfl (int_eq (by omega))
  refine rs 1 S H t0 fun a w S H => ?_
  refine r_seq ?_
  refine sb ?_
  refine rn 3 S H t0 fun a w S H => ?_
  refine scO 1 S H (fun _ => t0) fun a w S H => ?_
  refine rn 1 S H t0 fun a w S H => ?_
  refine scO 4 S H (fun h => by simp only [Bool.or_eq_false_iff, Bool.and_eq_true, decide_eq_true_eq, decide_eq_false_iff_not] at h; omega) fun a w S H => ?_
  refine sn ?_
  refine r_cond S rfl (fun h30 => ?_) (fun h30 => ?_)
  · skip
    refine sr 3 S H t0 fun a w S H => ?_
    refine wp_ret ?_
    refine x_thenRet ?_
    refine r_ret3 S H Tryz.results72 (ro_tmp S rfl) (ro_tmp S rfl) (ro_tmp S rfl) ?_
    have e : Oc.dec b = ([], 0, 2) := by
      unfold Oc.dec; simp only
      rw [if_pos]
      rcases Nat.lt_or_ge b.length 2 with h | h
      · exact .inl h
      · have h2 := Oc.get_ok (b := b) (i := 0) (k := 2) (by omega) (by omega); rw [show ((0 : Nat) : Int) = 0 from rfl, show ((2 : Nat) : Int) = 2 from rfl, hg] at h2
        have h3 : okb = true := congrArg Prod.snd h2
        have h4 : m = Oc.unle (b.take 2) := by simpa using congrArg Prod.fst h2
        rw [← h4]; rw [h3] at h30; simp at h30; omega
    rw [e]
    exact ⟨none, 0, rfl, H.nilRow _ _⟩
  · skip
    simp only [Bool.or_eq_false_iff, decide_eq_false_iff_not] at h30
    refine wp_skip ?_
    refine x_then ?_
    refine r_seq ?_
    have hok : okb = true := by simpa using h30.1.1
    subst hok
    have hl2 : 2 ≤ b.length := by
      rcases Nat.lt_or_ge b.length 2 with h | h
      · have := Oc.get_no (b := b) (i := 0) (k := 2) (by omega); rw [show ((0 : Nat) : Int) = 0 from rfl, show ((2 : Nat) : Int) = 2 from rfl, hg] at this; cases this
      · exact h
    have hmv : m = Oc.unle (b.take 2) := by have := Oc.get_ok (b := b) (i := 0) (k := 2) (by omega) (by omega); rw [show ((0 : Nat) : Int) = 0 from rfl, show ((2 : Nat) : Int) = 2 from rfl, hg] at this; simpa using congrArg Prod.fst this
    refine sb ?_
    refine rn 2 S H t0 fun a w S H => ?_
    refine r_call (args := #[.slice A b.length c, .int .i64 (((2 + m) : Nat) : Int), .int .i64 4]) S rfl rfl Tryz.call73 (get_ct (H := H) _ _ _ _ _ b ok (((2 + m) : Nat) : Int) 4 (by omega) (by omega) (by omega)) rfl rfl rfl fun v a w hR S => ?_
    obtain ⟨rfl, H⟩ := hR
    refine rs 5 S H t0 fun a w S H => ?_
    have hg2 := Oc.get_ok (b := b) (i := 2 + m) (k := 4) (by omega) (by omega)
    rw [show ((4 : Nat) : Int) = 4 from rfl] at hg2
    have hlt4 := Oc.unle_lt ((b.drop (2 + m)).take 4)
    have hle4 : 256 ^ ((b.drop (2 + m)).take 4).length ≤ 256 ^ 4 := Nat.pow_le_pow_right (by omega) (by simp; omega)
    obtain ⟨y, hy⟩ : ∃ y, y = Oc.unle ((b.drop (2 + m)).take 4) := ⟨_, rfl⟩
    rw [← hy] at hg2 hlt4
    rw [hg2] at S
    replace S := S.sub (E' := [(0, .slice A b.length c), (2, .slice none 0 0), (3, .int .i64 0), (4, .int .i64 0), (5, .int .u64 ((m : Nat) : Int)), (6, .bool (true)), (7, .int .i64 (((2 + m) : Nat) : Int)), (8, .int .u64 ((y : Nat) : Int)), (10, .tuple #[.int .u64 ((m : Nat) : Int), .bool (true)]), (11, .slice A b.length c), (12, .tuple #[.int .u64 ((m : Nat) : Int), .bool (true)]), (13, .int .u64 ((m : Nat) : Int)), (14, .bool (true)), (15, .int .u64 ((m : Nat) : Int)), (16, .int .i64 ((m : Nat) : Int)), (17, .int .i64 (((2 + m) : Nat) : Int)), (18, .bool (true)), (19, .bool (!true)), (20, .bool (!true)), (23, .bool ((!true) || (decide (1000 < ((m : Nat) : Int))))), (24, .bool ((!true) || (decide (1000 < ((m : Nat) : Int))))), (30, .bool (((!true) || (decide (1000 < ((m : Nat) : Int)))) || (decide (((b.length : Nat) : Int) < (((2 + m) : Nat) : Int) + 4)))), (32, .slice A b.length c), (33, .int .i64 (((2 + m) : Nat) : Int)), (35, .int .u64 ((y : Nat) : Int)), (36, .bool true), (50, undef)]) ⟨rfl, rfl, rfl, rfl, rfl, rfl, rfl, rfl, rfl, rfl, rfl, rfl, rfl, rfl, rfl, rfl, rfl, rfl, rfl, rfl, rfl, rfl, rfl, rfl, rfl, rfl, rfl, trivial⟩
    refine sb ?_
    refine rn 4 S H (by omega) fun a w S H => ?_
    refine r_y S H (y_sliceH (k := 2 + m) S rfl rfl rfl Tryz.underlying41 Tryz.sizeOf5 rfl (by omega)) rfl rfl rfl fun a S => ?_
    have ok41 := ok.head8 (2 + m) (by omega)
    have S := S.retell (v' := .slice A (2 + m) c) 41 rfl (by rw [shift0])
    refine r_call (args := #[.slice A (2 + m) c]) S rfl rfl Tryz.call86 (crc_ct (H := H) _ _ _ _ _ _ ok41) rfl rfl rfl fun v a w hR S => ?_
    obtain ⟨rfl, H⟩ := hR
    refine rs 1 S H t0 fun a w S H => ?_
    refine r_test S rfl (fun h43 => ?_) (fun h43 => ?_)
    · skip
      refine sr 3 S H t0 fun a w S H => ?_
      refine wp_ret ?_
      refine x_thenRet ?_
      refine r_ret3 S H Tryz.results72 (ro_tmp S rfl) (ro_tmp S rfl) (ro_tmp S rfl) ?_
      have e : Oc.dec b = ([], 0, 3) := by
        unfold Oc.dec; simp only
        rw [← hmv, if_neg (by omega), ← hy, if_neg (by omega)]
      rw [e]
      exact ⟨none, 0, rfl, H.nilRow _ _⟩
    · skip
      refine wp_skip ?_
      refine x_then ?_
      refine sb ?_
      refine rn 2 S H t0 fun a w S H => ?_
      refine r_y S H (y_sliceLH (k := 2) (k' := 2 + m) S rfl rfl rfl rfl Tryz.underlying41 Tryz.sizeOf5 (by omega) (by omega) (by omega) (by omega)) rfl rfl rfl fun a S => ?_
      refine r_call (args := #[.slice (shift A (2 * 1) (decide (c = 2))) ((2 + m) - 2) (c - 2)]) S rfl rfl Tryz.call84 (clone8_ct (H := H) _ _ _ _ _ ((b.drop 2).take ((2 + m) - 2)) (ok.part8 2 (2 + m) (by first | omega | (simp <;> omega)) (by first | omega | (simp <;> omega))) (by simp; omega)) rfl rfl rfl fun v a w hR S => ?_
      obtain ⟨A1, c2, rfl, H⟩ := hR
      refine rn 1 S H t0 fun a w S H => ?_
      refine r_y S H (y_add S rfl rfl rfl (wi64 (by omega) (by omega))) rfl rfl rfl fun a S => ?_
      have S := S.retell (v' := .int .i64 (((2 + m + 4) : Nat) : Int)) 49 rfl (int_eq (by omega))
      refine rs 3 S H t0 fun a w S H => ?_
      refine wp_ret ?_
      refine r_ret3 S H Tryz.results72 (ro_tmp S rfl) (ro_tmp S rfl) (ro_tmp S rfl) ?_
      have e : Oc.dec b = ((b.drop 2).take m, 2 + m + 4, 0) := by
        unfold Oc.dec; simp only
        rw [← hmv, if_neg (by omega), ← hy, if_pos (by omega)]
      have e2 : 2 + m - 2 = m := by omega
      rw [e2] at H ⊢
      rw [e]
      exact ⟨_, _, rfl, H⟩

end Go.Proofs.YtfndfpgmgnacgaaGreatDoor
namespace Go.Proofs.YtfndfpgmgnacgaaGreatDoor
open Go.RowKit Go.Cg
set_option linter.unusedVariables false
set_option linter.unusedSimpArgs false
set_option maxRecDepth 8000
set_option synthInstance.maxHeartbeats 1000000
set_option synthInstance.maxSize 1000000
open Go.Cg.Dk (By)
theorem getD_mem {ds : List By} {i : Nat} (h : i < ds.length) : ds.getD i [] ∈ ds := by
  rw [List.getD_eq_getElem?_getD, List.getElem?_eq_getElem h]; exact List.getElem_mem h
theorem join_ct (w : World) (fr : List Res) (A : Option Addr) (c : Nat) (l : List Sl) (ds : List By) (ok : SlOk fr 1 A l.length c (sls l)) (hds : SlsOk fr l ds) (hbs : ∀ d ∈ ds, d.length ≤ 17592186044416) (hln : l.length ≤ 17179869184) (H : Sat w (fr)) :
    Rt Tryz.prog 78 #[.slice A l.length c] w fun v w' => ∃ A' c', v = .tuple #[.slice A' (Oc.join ds).1.length c', .int .i64 (((Oc.join ds).2 : Nat) : Int)] ∧ Sat w' (row 5 1 (.slice A' (Oc.join ds).1.length c') (Oc.join ds).1.length (u8s (Oc.join ds).1) :: fr) := by
  refine en1 Tryz.func78 rfl Tryz.ntmps78 rfl fun a S => ?_
  refine sr 2 S H t0 fun a w S H => ?_
  refine sr 1 S H t0 fun a w S H => ?_
  refine r_seq ?_
  have H := H.nilRow 5 1
  refine sr 3 S H t0 fun a w S H => ?_
  refine r_block ?_
  refine r_loop (ι := Nat × Option Addr × Nat) (fun ⟨i, A2, c2⟩ a w => Slots a 28 [(0, .slice A l.length c), (4, .slice A2 ((Oc.joined (ds.take i)).length) c2), (9, .slice A l.length c), (10, .int .i64 ((l.length : Nat) : Int)), (11, .int .i64 ((i : Nat) : Int)), (28, undef)] ∧ Sat w (row 5 1 (.slice A2 ((Oc.joined (ds.take i)).length) c2) ((Oc.joined (ds.take i)).length) (u8s (Oc.joined (ds.take i))) :: fr) ∧ (i ≤ l.length ∧ ∀ t ∈ ds.take i, t.length ≤ 1000)) (fun ⟨i, A2, c2⟩ => l.length - i) (0, none, 0) ⟨S.sub ⟨rfl, (by simp [Oc.joined]; rfl), rfl, rfl, rfl, rfl, trivial⟩, (by simpa [Oc.joined] using H), ⟨Nat.zero_le _, fun t ht => by simp at ht⟩⟩ (fun ⟨i, A2, c2⟩ a w hI => ?_)
  obtain ⟨S, H, hI⟩ := hI
  obtain ⟨hil, hall⟩ := hI
  have hjl := Oc.joined_len (ds.take i) hall
  have htl : (ds.take i).length ≤ l.length := by simp; have := hds.len; omega
  refine sr 1 S H t0 fun a w S H => ?_
  refine r_seq ?_
  refine r_test S rfl (fun h12 => ?_) (fun h12 => ?_)
  · skip
    refine wp_skip ?_
    refine x_then ?_
    refine r_seq ?_
    refine r_block ?_
    refine sb ?_
    obtain ⟨b1, o2, rfl⟩ := (ok.more _).addr H (by first | omega | (simp <;> omega))
    refine r_y S H (y_index S rfl rfl rfl Tryz.underlying132 Tryz.sizeOf41 (by omega) (by omega)) rfl rfl rfl fun a S => ?_
    refine r_y S H (y_loadAt S rfl rfl Tryz.isAgg41 (fun w H => (ok.more _).cell w H (sls_at (i := i) (by first | omega | (simp <;> omega))))) rfl rfl rfl fun a S => ?_
    obtain ⟨A3, c4, heA3, okA3⟩ := hds.at (i := i) (by omega)
    have hbd := hbs (ds.getD i []) (getD_mem (by have := hds.len; omega))
    have S := S.retell (v' := .slice A3 ((ds.getD i []).length) c4) 14 rfl (by rw [heA3])
    refine rs 1 S H t0 fun a w S H => ?_
    refine sb ?_
    refine rn 1 S H t0 fun a w S H => ?_
    refine r_call (args := #[.slice A3 ((ds.getD i []).length) c4]) S rfl rfl Tryz.call53 (encode_ct (H := H) _ _ _ _ (ds.getD i []) (okA3.more _) (by omega)) rfl rfl rfl fun v a w hR S => ?_
    obtain ⟨A9, c10, rfl, H⟩ := hR
    refine rs 5 S H t0 fun a w S H => ?_
    refine r_seq ?_
    have hee := Oc.enc_2 (ds.getD i [])
    have hle := Oc.enc_l (ds.getD i [])
    refine sr 2 S H t0 fun a w S H => ?_
    refine r_test S rfl (fun h21 => ?_) (fun h21 => ?_)
    · skip
      refine sr 3 S H t0 fun a w S H => ?_
      refine wp_ret ?_
      refine x_thenRet ?_
      refine x_blockRet ?_
      refine x_thenRet ?_
      refine x_thenRet ?_
      refine x_blockRet ?_
      refine x_thenRet ?_
      refine r_ret2 S H Tryz.results78 (ro_tmp S rfl) (ro_tmp S rfl) ?_
      have hgt : 1000 < (ds.getD i []).length := by rcases Nat.lt_or_ge 1000 (ds.getD i []).length with h | h; (exact h); (rw [if_neg (by omega)] at hee; omega)
      rw [if_pos hgt] at hee
      have e : Oc.join ds = ([], 1) := by unfold Oc.join; rw [if_pos]; rw [List.any_eq_true]; exact ⟨ds.getD i [], getD_mem (i := i) (by have := hds.len; omega), by simpa using hgt⟩
      rw [e, hee]
      exact ⟨none, 0, rfl, H.drop.drop.nilRow _ _⟩
    · skip
      have h1000 : (ds.getD i []).length ≤ 1000 := by rcases Nat.lt_or_ge 1000 (ds.getD i []).length with h | h; (rw [if_pos h] at hee; omega); (exact h)
      refine wp_skip ?_
      refine x_then ?_
      refine r_region ?_
      refine rn 2 S H t0 fun a w S H => ?_
      refine r_appendS (L' := fun A11 c12 => row 5 1 (.slice A9 ((Oc.enc (ds.getD i [])).1.length) c10) ((Oc.enc (ds.getD i [])).1.length) (u8s ((Oc.enc (ds.getD i [])).1)) :: row 5 1 (.slice A11 ((Oc.joined (ds.take i)).length + (Oc.enc (ds.getD i [])).1.length) c12) ((Oc.joined (ds.take i)).length + (Oc.enc (ds.getD i [])).1.length) (u8s ((Oc.joined (ds.take i)) ++ ((Oc.enc (ds.getD i [])).1))) :: fr) (xs' := u8s ((Oc.joined (ds.take i)) ++ ((Oc.enc (ds.getD i [])).1))) 1 S H rfl rfl rfl rfl el41 (SlOk.ofRow (i := 0) H rfl) (one_u8s _) (by simp only [maxLen]; first | omega | (simp <;> omega)) (by first | omega | (simp <;> omega)) (u8s_app (Oc.joined (ds.take i)) ((Oc.enc (ds.getD i [])).1)) (by first | omega | (simp <;> omega)) (fun _ _ => rfl) rfl rfl rfl fun a w A11 c12 hA11 S H => ?_
      refine rn 1 S H t0 fun a w S H => ?_
      refine r_nil ?_
      refine x_blockEnd ?_
      refine x_then ?_
      refine er 2 S H (by omega) fun a w S H => ?_
      refine x_then ?_
      have ez := (Oc.joined_take (ds := ds) (i := i) (by have := hds.len; omega)).symm
      have en : (Oc.joined (ds.take i)).length + (Oc.enc (ds.getD i [])).1.length = (Oc.joined (ds.take (i + 1))).length := by rw [← ez]; simp
      have H := pk [1] 2 H
      rw [ez] at H
      rw [en] at H S
      exact ⟨(i + 1, A11, c12), ⟨S.sub ⟨rfl, rfl, rfl, rfl, rfl, rfl, trivial⟩, H, ⟨by omega, fun t ht => by rw [show ds.take (i + 1) = ds.take i ++ [ds.getD i []] from by rw [List.getD_eq_getElem?_getD, List.getElem?_eq_getElem (by have := hds.len; omega)]; simp] at ht; rcases List.mem_append.1 ht with h | h; (exact hall t h); (rw [List.mem_singleton.1 h]; exact h1000)⟩⟩, by show l.length - (i + 1) < l.length - i; omega⟩
  · skip
    refine wp_exit ?_
    refine x_thenExit ?_
    refine x_thenExit ?_
    refine x_blockHere ?_
    refine x_then ?_
    refine sr 3 S H t0 fun a w S H => ?_
    refine wp_ret ?_
    refine r_ret2 S H Tryz.results78 (ro_tmp S rfl) (ro_tmp S rfl) ?_
    have hid : ds.take i = ds := by rw [List.take_of_length_le (by have := hds.len; omega)]
    rw [hid] at H hall ⊢
    have e : Oc.join ds = (Oc.joined ds, 0) := by unfold Oc.join; rw [if_neg]; rw [List.any_eq_true]; rintro ⟨t, ht, h⟩; have := hall t ht; simp at h; omega
    rw [e]
    exact ⟨_, _, rfl, H⟩

theorem all_more {b : By} {p : Nat} {ds : List By} (h : Oc.all b = if (Oc.all (b.drop p)).2 ≠ 0 then ([], (Oc.all (b.drop p)).2) else (ds ++ (Oc.all (b.drop p)).1, 0)) (hp : p < b.length) (h0 : (Oc.dec (b.drop p)).2.2 = 0) :
    Oc.all b = if (Oc.all (b.drop (p + (Oc.dec (b.drop p)).2.1))).2 ≠ 0 then ([], (Oc.all (b.drop (p + (Oc.dec (b.drop p)).2.1))).2) else ((ds ++ [(Oc.dec (b.drop p)).1]) ++ (Oc.all (b.drop (p + (Oc.dec (b.drop p)).2.1))).1, 0) := by
  have hne : b.drop p ≠ [] := by intro e; have := congrArg List.length e; simp at this; omega
  have hs := Oc.all_step hne
  rw [if_neg (by omega), List.drop_drop] at hs
  rw [h, hs]
  split <;> rename_i hh
  · rfl
  · simp
theorem all_stop {b : By} {p : Nat} {ds : List By} (h : Oc.all b = if (Oc.all (b.drop p)).2 ≠ 0 then ([], (Oc.all (b.drop p)).2) else (ds ++ (Oc.all (b.drop p)).1, 0)) (hp : p < b.length) (h0 : (Oc.dec (b.drop p)).2.2 ≠ 0) : Oc.all b = ([], (Oc.dec (b.drop p)).2.2) := by
  have hne : b.drop p ≠ [] := by intro e; have := congrArg List.length e; simp at this; omega
  have hs := Oc.all_step hne
  rw [if_pos h0] at hs
  rw [h, hs, if_pos h0]
theorem all_end {b : By} {p : Nat} {ds : List By} (h : Oc.all b = if (Oc.all (b.drop p)).2 ≠ 0 then ([], (Oc.all (b.drop p)).2) else (ds ++ (Oc.all (b.drop p)).1, 0)) (hp : b.length ≤ p) : Oc.all b = (ds, 0) := by
  rw [h, List.drop_eq_nil_of_le hp, Oc.all_nil]; simp
theorem allF_err : ∀ (f : Nat) (b : By), (Oc.allF f b).2 ≠ 0 → (Oc.allF f b).1 = []
  | 0, b, h => rfl
  | f + 1, b, h => by
    unfold Oc.allF at h ⊢
    split
    · rfl
    · rename_i hb
      rw [if_neg hb] at h
      simp only at h ⊢
      split
      · rfl
      · rename_i hd
        rw [if_neg hd] at h
        split
        · rfl
        · rename_i hr; rw [if_neg hr] at h; exact absurd rfl h
theorem all_zero (b : By) : Oc.all b = if (Oc.all (b.drop 0)).2 ≠ 0 then ([], (Oc.all (b.drop 0)).2) else ([] ++ (Oc.all (b.drop 0)).1, 0) := by
  simp only [List.drop_zero, List.nil_append]
  split
  · rename_i h; exact Prod.ext (allF_err _ _ h) rfl
  · rename_i h; simp at h; exact Prod.ext rfl h
theorem all_ct (w : World) (fr : List Res) (A : Option Addr) (n c : Nat) (b : By) (ok : SlOk fr 1 A n c (u8s b)) (hb : b.length ≤ 4398046511104) (H : Sat w (fr)) :
    Rt Tryz.prog 79 #[.slice A n c] w fun v w' => ∃ (l : List Sl) (A' : Option Addr) (c' pos : Nat), v = .tuple #[.slice A' l.length c', .int .i64 ((pos : Nat) : Int), .int .i64 (((Oc.all b).2 : Nat) : Int)] ∧ Sat w' (row 41 1 (.slice A' l.length c') l.length (sls l) :: blksR l (Oc.all b).1 :: fr) := by
  refine en1 Tryz.func79 rfl Tryz.ntmps79 rfl fun a S => ?_
  obtain rfl := ok.n8
  refine sr 3 S H t0 fun a w S H => ?_
  refine r_seq ?_
  refine r_block ?_
  have H := H.noBlks
  have H := H.nilRow 41 1
  refine r_loop (ι := Nat × List Sl × List By × Option Addr × Nat) (fun ⟨p, l, ds, Al, cl⟩ a w => Slots a 32 [(0, .slice A b.length c), (2, .slice Al l.length cl), (3, .int .i64 ((p : Nat) : Int)), (32, undef)] ∧ Sat w (row 41 1 (.slice Al l.length cl) l.length (sls l) :: blksR l ds :: fr) ∧ (p ≤ b.length ∧ l.length ≤ p ∧ Oc.all b = if (Oc.all (b.drop p)).2 ≠ 0 then ([], (Oc.all (b.drop p)).2) else (ds ++ (Oc.all (b.drop p)).1, 0))) (fun ⟨p, l, ds, Al, cl⟩ => b.length - p) (0, [], [], none, 0) ⟨S.sub ⟨rfl, rfl, rfl, rfl, trivial⟩, H, ⟨Nat.zero_le _, Nat.le_refl _, all_zero b⟩⟩ (fun ⟨p, l, ds, Al, cl⟩ a w hI => ?_)
  obtain ⟨S, H, hI⟩ := hI
  obtain ⟨hpb, hlp, hall⟩ := hI
  refine r_seq ?_
  refine sr 4 S H t0 fun a w S H => ?_
  refine r_test S rfl (fun h11 => ?_) (fun h11 => ?_)
  · skip
    refine wp_skip ?_
    refine x_then ?_
    refine r_block ?_
    refine sb ?_
    refine rn 2 S H t0 fun a w S H => ?_
    refine r_y S H (y_sliceL (k := p) S rfl rfl rfl Tryz.underlying41 Tryz.sizeOf5 rfl (by omega)) rfl rfl rfl fun a S => ?_
    have hpl : p < b.length := by omega
    have ok15 := ok.tail8 p (by omega)
    refine r_call (args := #[.slice (shift A (p * 1) (decide (c = p))) (b.length - p) (c - p)]) S rfl rfl Tryz.call72 (decode_ct (H := H) _ _ _ _ _ (b.drop p) ((ok15.more _).more _) (by simp; omega)) rfl rfl rfl fun v a w hR S => ?_
    obtain ⟨A1, c2, rfl, H⟩ := hR
    refine rs 7 S H t0 fun a w S H => ?_
    refine r_seq ?_
    refine sr 2 S H t0 fun a w S H => ?_
    refine r_test S rfl (fun h21 => ?_) (fun h21 => ?_)
    · skip
      refine sr 5 S H t0 fun a w S H => ?_
      refine wp_ret ?_
      refine x_thenRet ?_
      refine x_blockRet ?_
      refine x_thenRet ?_
      refine x_blockRet ?_
      refine x_thenRet ?_
      refine r_ret3 S H Tryz.results79 (ro_tmp S rfl) (ro_tmp S rfl) (ro_tmp S rfl) ?_
      have e := all_stop hall hpl (by omega)
      rw [e]
      refine ⟨[], none, 0, p, rfl, ?_⟩
      have H := H.drop.drop.drop
      exact H.noBlks.nilRow _ _
    · skip
      have h0 : (Oc.dec (b.drop p)).2.2 = 0 := by omega
      refine wp_skip ?_
      refine x_then ?_
      refine sb ?_
      refine rn 2 S H t0 fun a w S H => ?_
      refine r_lit (vs := #[(0, .slice A1 ((Oc.dec (b.drop p)).1.length) c2)]) (cs := sls [(A1, (Oc.dec (b.drop p)).1.length, c2)]) S H rfl rfl el132 (by kernel_rfl) (by decide) (by rfl) rfl rfl rfl fun a w b3 S H => ?_
      refine r_appendS (L' := fun A4 c5 => row 41 1 (.slice (some ⟨b3, 0, none⟩) 1 1) 1 (sls [(A1, (Oc.dec (b.drop p)).1.length, c2)]) :: row 5 1 (.slice A1 ((Oc.dec (b.drop p)).1.length) c2) ((Oc.dec (b.drop p)).1.length) (u8s ((Oc.dec (b.drop p)).1)) :: row 41 1 (.slice A4 (l.length + 1) c5) (l.length + 1) (sls (l ++ ([(A1, (Oc.dec (b.drop p)).1.length, c2)]))) :: blksR l ds :: fr) (xs' := sls (l ++ ([(A1, (Oc.dec (b.drop p)).1.length, c2)]))) 2 S H rfl rfl rfl rfl el132 (SlOk.ofRow (i := 0) H rfl) (one_sls _) (by simp only [maxLen]; first | omega | (simp <;> omega)) (by first | omega | (simp <;> omega)) (sls_app l ([(A1, (Oc.dec (b.drop p)).1.length, c2)])) (by first | omega | (simp <;> omega)) (fun _ _ => rfl) rfl rfl rfl fun a w A4 c5 hA4 S H => ?_
      refine rs 1 S H t0 fun a w S H => ?_
      have hdn0 := Oc.dec_n h0
      have hdl : (b.drop p).length = b.length - p := List.length_drop
      refine er 4 S H (by omega) fun a w S H => ?_
      refine x_blockEnd ?_
      refine x_then ?_
      have H := Sat.blkIn (pk [1, 3, 2] 4 H)
      have H := pk [1, 0] 2 H
      have en : l.length + 1 = (l ++ ([(A1, (Oc.dec (b.drop p)).1.length, c2)])).length := by simp
      rw [en] at H S
      have hdn := Oc.dec_n h0
      exact ⟨(p + (Oc.dec (b.drop p)).2.1, l ++ ([(A1, (Oc.dec (b.drop p)).1.length, c2)]), ds ++ [(Oc.dec (b.drop p)).1], A4, c5), ⟨S.sub ⟨rfl, rfl, rfl, rfl, trivial⟩, H, ⟨by simp at hdn; omega, by simp; omega, all_more hall hpl h0⟩⟩, by show b.length - (p + (Oc.dec (b.drop p)).2.1) < b.length - p; simp at hdn; omega⟩
  · skip
    refine wp_exit ?_
    refine x_thenExit ?_
    refine x_thenExit ?_
    refine x_blockHere ?_
    refine x_then ?_
    refine sr 4 S H t0 fun a w S H => ?_
    refine wp_ret ?_
    refine r_ret3 S H Tryz.results79 (ro_tmp S rfl) (ro_tmp S rfl) (ro_tmp S rfl) ?_
    have e := all_end hall (by omega)
    rw [e]
    exact ⟨l, Al, cl, 0, rfl, H⟩

end Go.Proofs.YtfndfpgmgnacgaaGreatDoor
namespace Go.Proofs.YtfndfpgmgnacgaaGreatDoor
open Go.RowKit Go.Cg
set_option linter.unusedVariables false
set_option linter.unusedSimpArgs false
set_option maxRecDepth 8000
set_option synthInstance.maxHeartbeats 1000000
set_option synthInstance.maxSize 1000000
theorem el28 : Elem Tryz.prog 28 3 1 8 (.int .i64 0) := ⟨Tryz.underlying28, by kernel_rfl, rfl, by decide⟩
open Go.Cg.Dk (By)
theorem dec_and {p q : Prop} [Decidable p] [Decidable q] : (decide p && decide q) = decide (p ∧ q) := by simp
theorem pright_ct (w : World) (fr : List Res) (n s : Int) (H : Sat w (fr)) :
    Rt Tryz.prog 75 #[.int .i64 n, .int .i64 s] w fun v w' => v = .bool (Oc.part n s) ∧ Sat w' fr := by
  refine en2 Tryz.func75 rfl Tryz.ntmps75 rfl fun a S => ?_
  refine sr 1 S H t0 fun a w S H => ?_
  refine sb ?_
  refine rn 3 S H t0 fun a w S H => ?_
  refine scA 1 S H (fun _ => t0) fun a w S H => ?_
  refine rn 1 S H t0 fun a w S H => ?_
  refine scA 1 S H (fun _ => t0) fun a w S H => ?_
  refine rn 1 S H t0 fun a w S H => ?_
  refine scA 1 S H (fun _ => t0) fun a w S H => ?_
  refine rs 1 S H t0 fun a w S H => ?_
  refine wp_ret ?_
  refine r_ret1 S H Tryz.results75 (ro_tmp S rfl) ?_
  exact ⟨congrArg Value.bool (by unfold Oc.part; rw [Bool.eq_iff_iff]; simp; omega), H⟩

instance {fr : List Res} (n s : Int) : Cal Tryz.prog fr 75 [.int .i64 n, .int .i64 s] (.bool (Oc.part n s)) fr ((0 : Int) ≤ 0) := ⟨Tryz.call75, fun hc w H => pright_ct w fr n s H⟩
theorem pbound_ct (w : World) (fr : List Res) (n s i : Int) (h0 : 0 ≤ n ∧ n ≤ 1048576 ∧ 1 ≤ s ∧ s ≤ 4096 ∧ 0 ≤ i ∧ i ≤ 4096) (H : Sat w (fr)) :
    Rt Tryz.prog 76 #[.int .i64 n, .int .i64 s, .int .i64 i] w fun v w' => v = .int .i64 (i * n / s) ∧ Sat w' fr := by
  refine en3 Tryz.func76 rfl Tryz.ntmps76 rfl fun a S => ?_
  obtain ⟨h1, h2, h3, h4, h5, h6⟩ := h0
  have hin0 : 0 ≤ i * n := Int.mul_nonneg h5 h1
  have hin : i * n ≤ 4096 * 1048576 := Int.mul_le_mul h6 h2 h1 (by omega)
  have hq0 : 0 ≤ i * n / s := Int.ediv_nonneg hin0 (by omega)
  have hq : i * n / s ≤ i * n := Int.ediv_le_self _ hin0
  refine sr 1 S H t0 fun a w S H => ?_
  refine sb ?_
  refine rn 4 S H (by omega) fun a w S H => ?_
  refine r_y S H (y_quoN S rfl rfl rfl (by omega) (by omega) (wdivi64 (by omega) (by omega) (by omega))) rfl rfl rfl fun a S => ?_
  refine rs 1 S H t0 fun a w S H => ?_
  refine wp_ret ?_
  refine r_ret1 S H Tryz.results76 (ro_tmp S rfl) ?_
  exact ⟨rfl, H⟩

theorem bounds_ct (w : World) (fr : List Res) (n s : Int) (H : Sat w (fr)) :
    Rt Tryz.prog 42 #[.int .i64 n, .int .i64 s] w fun v w' => ∃ A k c, v = .tuple #[.slice A k c, .int .i64 (if Oc.part n s then 0 else 1)] ∧ Sat w' fr := by
  refine en2 Tryz.func42 rfl Tryz.ntmps42 rfl fun a S => ?_
  refine sr 2 S H t0 fun a w S H => ?_
  refine r_seq ?_
  refine sr 4 S H (by omega) fun a w S H => ?_
  refine r_cond S rfl (fun h11 => ?_) (fun h11 => ?_)
  · skip
    refine sr 2 S H t0 fun a w S H => ?_
    refine wp_ret ?_
    refine x_thenRet ?_
    refine r_ret2 S H Tryz.results42 (ro_tmp S rfl) (ro_tmp S rfl) ?_
    have hp : Oc.part n s = false := by simpa using h11
    refine ⟨none, 0, 0, ?_, H⟩
    rw [hp]; rfl
  · skip
    have hpt : Oc.part n s = true := by simpa using h11
    have hpp := hpt
    simp only [Oc.part, decide_eq_true_eq] at hpp
    obtain ⟨p1, p2, p3, p4⟩ := hpp
    obtain ⟨K, hK⟩ : ∃ K : Nat, K = (s + 1).toNat := ⟨_, rfl⟩
    refine wp_skip ?_
    refine x_then ?_
    refine sb ?_
    refine rn 1 S H t0 fun a w S H => ?_
    refine r_y S H (y_add S rfl rfl rfl (wi64 (by omega) (by omega))) rfl rfl rfl fun a S => ?_
    have S := S.retell (v' := .int .i64 ((K : Nat) : Int)) 13 rfl (int_eq (by omega))
    refine r_make (len := K) S H rfl rfl rfl el28 (by simp only [maxLen]; omega) (by omega) rfl rfl rfl fun a w b1 S H => ?_
    rw [made_ints] at H
    refine rs 1 S H t0 fun a w S H => ?_
    refine r_seq ?_
    refine sr 3 S H t0 fun a w S H => ?_
    refine r_block ?_
    refine r_loop (ι := Nat × List Int × Nat × Nat) (fun ⟨i, xs, Ab, cb⟩ a w => Slots a 29 [(0, .int .i64 n), (1, .int .i64 s), (4, .slice none 0 0), (5, .int .i64 0), (6, .slice (some ⟨Ab, 0, none⟩) xs.length cb), (8, .int .i64 n), (9, .int .i64 s), (10, .bool (Oc.part n s)), (11, .bool (!(Oc.part n s))), (12, .int .i64 s), (13, .int .i64 ((K : Nat) : Int)), (14, .slice (some ⟨b1, 0, none⟩) K K), (15, .slice (some ⟨b1, 0, none⟩) K K), (16, .int .i64 ((K : Nat) : Int)), (17, .int .i64 ((i : Nat) : Int)), (29, undef)] ∧ Sat w (row 3 1 (.slice (some ⟨Ab, 0, none⟩) xs.length cb) xs.length (ints xs) :: fr) ∧ (xs.length = K ∧ i ≤ K)) (fun ⟨i, xs, Ab, cb⟩ => K - i) (0, List.replicate K 0, b1, K) ⟨S.sub ⟨rfl, rfl, rfl, rfl, (by rw [List.length_replicate]; rfl), rfl, rfl, rfl, rfl, rfl, rfl, rfl, rfl, rfl, rfl, rfl, trivial⟩, (by simpa using H), ⟨by simp, Nat.zero_le _⟩⟩ (fun ⟨i, xs, Ab, cb⟩ a w hI => ?_)
    obtain ⟨S, H, hI⟩ := hI
    obtain ⟨hxl, hil⟩ := hI
    refine sr 1 S H t0 fun a w S H => ?_
    refine r_seq ?_
    refine r_test S rfl (fun h18 => ?_) (fun h18 => ?_)
    · skip
      refine wp_skip ?_
      refine x_then ?_
      refine r_seq ?_
      refine r_block ?_
      refine sr 2 S H t0 fun a w S H => ?_
      refine r_region ?_
      refine rn 5 S H t0 fun a w S H => ?_
      refine r_call (args := #[.int .i64 n, .int .i64 s, .int .i64 ((i : Nat) : Int)]) S rfl rfl Tryz.call76 (pbound_ct (H := H) _ _ n s ((i : Nat) : Int) ⟨by omega, by omega, by omega, by omega, by omega, by omega⟩) rfl rfl rfl fun v a w hR S => ?_
      obtain ⟨rfl, H⟩ := hR
      refine r_y S H (y_index S rfl rfl rfl Tryz.underlying28 Tryz.sizeOf3 (by omega) (by omega)) rfl rfl rfl fun a S => ?_
      refine r_setRowV (L' := row 3 1 (.slice (some ⟨Ab, 0, none⟩) xs.length cb) xs.length (ints (xs.set i (((i : Nat) : Int) * n / s))) :: fr) 0 S H rfl rfl rfl rfl Tryz.sizeOf3 rfl rfl (by first | omega | (simp <;> omega)) (xs' := ints (xs.set i (((i : Nat) : Int) * n / s))) (ints_put (by omega) rfl) rfl rfl rfl fun w H => ?_
      refine r_nil ?_
      refine x_blockEnd ?_
      refine x_then ?_
      refine er 2 S H (by omega) fun a w S H => ?_
      refine x_then ?_
      have el : xs.length = (xs.set i (((i : Nat) : Int) * n / s)).length := by simp
      exact ⟨(i + 1, xs.set i (((i : Nat) : Int) * n / s), Ab, cb), ⟨S.sub ⟨rfl, rfl, rfl, rfl, (by rw [← el]; rfl), rfl, rfl, rfl, rfl, rfl, rfl, rfl, rfl, rfl, rfl, rfl, trivial⟩, (by rw [← el]; exact H), ⟨by simp; exact hxl, by omega⟩⟩, by show K - (i + 1) < K - i; omega⟩
    · skip
      refine wp_exit ?_
      refine x_thenExit ?_
      refine x_thenExit ?_
      refine x_blockHere ?_
      refine x_then ?_
      refine sr 3 S H t0 fun a w S H => ?_
      refine wp_ret ?_
      refine r_ret2 S H Tryz.results42 (ro_tmp S rfl) (ro_tmp S rfl) ?_
      exact ⟨_, _, _, by rw [hpt]; rfl, H.drop⟩

end Go.Proofs.YtfndfpgmgnacgaaGreatDoor
namespace Go.Proofs.YtfndfpgmgnacgaaGreatDoor
open Go.RowKit Go.Cg
set_option linter.unusedVariables false
set_option linter.unusedSimpArgs false
set_option maxRecDepth 8000
set_option synthInstance.maxHeartbeats 1000000
set_option synthInstance.maxSize 1000000
theorem fa25_0 : FieldAt Tryz.prog 25 0 0 := by intro w b o; simp [Instr.fieldAt, Instr.sureAddr, fieldPlace, Addr.add]
theorem fa25_1 : FieldAt Tryz.prog 25 1 1 := by intro w b o; simp [Instr.fieldAt, Instr.sureAddr, fieldPlace, Addr.add]
open Go.Cg.Dk (By)
open Go.Cg.Oc (Mf)
theorem eq_fields (k : Int) (s : Nat) (d : Nat) (w : World) : (Op.eqFields (d + 1) #[.int .i64 k, .int .u32 (s : Int)] #[.int .i64 0, .int .u32 0] (Tryz.prog.fieldsOf 25).toList).run Tryz.prog w = .ok (decide (k = 0 ∧ s = 0)) w := by
  unfold Program.fieldsOf; rw [Tryz.underlying25]
  simp [go_sem, part, Tryz.underlying3, Tryz.underlying23, Tryz.sizeOf3, Tryz.sizeOf23, Tryz.isAgg3, Tryz.isAgg23]
  by_cases h1 : k = 0 <;> by_cases h2 : s = 0 <;> simp [*]
theorem eq_prog (k : Int) (s : Nat) (w : World) : (binOp .eql 25 (.agg #[.int .i64 k, .int .u32 (s : Int)]) (.agg #[.int .i64 0, .int .u32 0])).run Tryz.prog w = .ok (.bool (decide (k = 0 ∧ s = 0))) w := by
  rw [run_eql_struct, run_equalIn_struct _ 9999 25 _ _ (by unfold Program.fieldsOf; rw [Tryz.underlying25]) (by kernel_rfl), eq_fields]; rfl
theorem tright_ct (w : World) (fr : List Res) (k : Int) (s : Nat) (n : Int) (hs : s < 4294967296) (H : Sat w (fr)) :
    Rt Tryz.prog 43 #[.agg #[.int .i64 k, .int .u32 ((s : Nat) : Int)], .int .i64 n] w fun v w' => v = .bool (Tr.right k s n) ∧ Sat w' fr := by
  refine en2 Tryz.func43 rfl Tryz.ntmps43 rfl fun a S => ?_
  refine sb ?_
  refine r_box (c := #[.int .i64 k, .int .u32 ((s : Nat) : Int)]) S H rfl rfl rfl rfl rfl rfl fun a w b1 S H => ?_
  refine rs 1 S H t0 fun a w S H => ?_
  refine sb ?_
  refine rn 4 S H t0 fun a w S H => ?_
  refine scO 2 S H (fun _ => t0) fun a w S H => ?_
  refine rs 1 S H t0 fun a w S H => ?_
  refine r_seq ?_
  refine wp_via (J := fun a w => Slots a 41 [(0, .agg #[.int .i64 k, .int .u32 ((s : Nat) : Int)]), (1, .int .i64 n), (2, .pointer (some ⟨b1, 0, none⟩)), (4, .bool (((((decide (1 ≤ k)) && (decide (k ≤ 5))) && (decide (0 ≤ n))) && (decide (n ≤ 1048576))) && ((!((decide (k = 1)) || (decide (k = 3)))) || (decide (((s : Nat) : Int) < n))))), (5, .bool ((decide (k = 1)) || (decide (k = 3)))), (6, .pointer (some ⟨b1, 0, none⟩)), (7, .int .i64 k), (8, .bool (decide (k = 1))), (9, .bool (decide (k = 1))), (13, .bool ((decide (k = 1)) || (decide (k = 3)))), (41, undef)] ∧ Sat w (blk b1 (.cells #[.int .i64 k, .int .u32 ((s : Nat) : Int)] 25) :: fr)) ?_ (fun a w hm => ?_)
  · skip
    refine r_region ?_
    refine r_y S H (y_fieldAddr S rfl rfl fa25_0) rfl rfl rfl fun a S => ?_
    refine r_y S H (y_load 0 S rfl rfl Tryz.isAgg3 rfl rfl) rfl rfl rfl fun a S => ?_
    refine r_y S H (y_ge S rfl rfl rfl) rfl rfl rfl fun a S => ?_
    refine r_y S H (y_move S rfl rfl) rfl rfl rfl fun a S => ?_
    refine splitP S (d := 17) rfl (fun g17 S => ?_) (fun g17 S => ?_)
    · skip
      refine r_y S H (y_fieldAddr S rfl rfl fa25_0) rfl rfl rfl fun a S => ?_
      refine r_y S H (y_load 0 S rfl rfl Tryz.isAgg3 rfl rfl) rfl rfl rfl fun a S => ?_
      refine r_y S H (y_le S rfl rfl rfl) rfl rfl rfl fun a S => ?_
      refine r_y S H (y_pickT S rfl rfl rfl) rfl rfl rfl fun a S => ?_
      refine r_y S H (y_move S rfl rfl) rfl rfl rfl fun a S => ?_
      refine splitP S (d := 22) rfl (fun g22 S => ?_) (fun g22 S => ?_)
      · skip
        refine r_y S H (y_move S rfl rfl) rfl rfl rfl fun a S => ?_
        refine r_y S H (y_ge S rfl rfl rfl) rfl rfl rfl fun a S => ?_
        refine r_y S H (y_pickT S rfl rfl rfl) rfl rfl rfl fun a S => ?_
        refine r_y S H (y_move S rfl rfl) rfl rfl rfl fun a S => ?_
        refine splitP S (d := 26) rfl (fun g26 S => ?_) (fun g26 S => ?_)
        · skip
          refine r_y S H (y_move S rfl rfl) rfl rfl rfl fun a S => ?_
          refine r_y S H (y_le S rfl rfl rfl) rfl rfl rfl fun a S => ?_
          refine r_y S H (y_pickT S rfl rfl rfl) rfl rfl rfl fun a S => ?_
          refine r_y S H (y_move S rfl rfl) rfl rfl rfl fun a S => ?_
          refine splitP S (d := 30) rfl (fun g30 S => ?_) (fun g30 S => ?_)
          · skip
            refine r_y S H (y_move S rfl rfl) rfl rfl rfl fun a S => ?_
            refine r_y S H (y_not S rfl rfl) rfl rfl rfl fun a S => ?_
            refine r_y S H (y_move S rfl rfl) rfl rfl rfl fun a S => ?_
            refine splitB S (d := 33) rfl (fun g33 S => ?_) (fun g33 S => ?_)
            · skip
              refine r_skip S rfl rfl rfl fun a S => ?_
              refine r_skip S rfl rfl rfl fun a S => ?_
              refine r_skip S rfl rfl rfl fun a S => ?_
              refine r_skip S rfl rfl rfl fun a S => ?_
              refine r_skip S rfl rfl rfl fun a S => ?_
              refine r_y S H (y_pickT S rfl rfl rfl) rfl rfl rfl fun a S => ?_
              refine r_y S H (y_pickT S rfl rfl rfl) rfl rfl rfl fun a S => ?_
              refine r_y S H (y_assign S rfl rfl) rfl rfl rfl fun a S => ?_
              refine r_nil ?_
              refine x_then ?_
              exact ⟨S.sub ⟨rfl, rfl, rfl, (show lk _ _ = some (.bool true) from rfl).trans (by first | (simp only [g17, g22, g26, g30, g33, decide_true, decide_false, Bool.true_and, Bool.false_and, Bool.true_or, Bool.false_or]; done) | (simp [-List.getD_eq_getElem?_getD, g17, g22, g26, g30, g33]; done) | (simp [-List.getD_eq_getElem?_getD, g17, g22, g26, g30, g33]; omega)), rfl, rfl, rfl, rfl, rfl, rfl, rfl, trivial⟩, H⟩
            · skip
              refine r_y S H (y_fieldAddr S rfl rfl fa25_1) rfl rfl rfl fun a S => ?_
              refine r_y S H (y_load 0 S rfl rfl Tryz.isAgg23 rfl rfl) rfl rfl rfl fun a S => ?_
              refine r_y S H (y_conv S rfl rfl Tryz.underlying23 Tryz.underlying3 (wi64 (by omega) (by omega))) rfl rfl rfl fun a S => ?_
              refine r_y S H (y_move S rfl rfl) rfl rfl rfl fun a S => ?_
              refine r_y S H (y_lt S rfl rfl rfl) rfl rfl rfl fun a S => ?_
              refine r_y S H (y_pickF S rfl rfl rfl) rfl rfl rfl fun a S => ?_
              refine r_y S H (y_pickT S rfl rfl rfl) rfl rfl rfl fun a S => ?_
              refine r_y S H (y_assign S rfl rfl) rfl rfl rfl fun a S => ?_
              refine r_nil ?_
              refine x_then ?_
              exact ⟨S.sub ⟨rfl, rfl, rfl, (show lk _ _ = some (.bool (decide (((s : Nat) : Int) < n))) from rfl).trans (by first | (simp only [g17, g22, g26, g30, g33, decide_true, decide_false, Bool.true_and, Bool.false_and, Bool.true_or, Bool.false_or]; done) | (simp [-List.getD_eq_getElem?_getD, g17, g22, g26, g30, g33]; done) | (simp [-List.getD_eq_getElem?_getD, g17, g22, g26, g30, g33]; omega)), rfl, rfl, rfl, rfl, rfl, rfl, rfl, trivial⟩, H⟩
          · skip
            refine r_skip S rfl rfl rfl fun a S => ?_
            refine r_skip S rfl rfl rfl fun a S => ?_
            refine r_skip S rfl rfl rfl fun a S => ?_
            refine r_skip S rfl rfl rfl fun a S => ?_
            refine r_skip S rfl rfl rfl fun a S => ?_
            refine r_skip S rfl rfl rfl fun a S => ?_
            refine r_skip S rfl rfl rfl fun a S => ?_
            refine r_skip S rfl rfl rfl fun a S => ?_
            refine r_skip S rfl rfl rfl fun a S => ?_
            refine r_y S H (y_pickF S rfl rfl rfl) rfl rfl rfl fun a S => ?_
            refine r_y S H (y_assign S rfl rfl) rfl rfl rfl fun a S => ?_
            refine r_nil ?_
            refine x_then ?_
            exact ⟨S.sub ⟨rfl, rfl, rfl, (show lk _ _ = some (.bool false) from rfl).trans (by first | (simp only [g17, g22, g26, g30, decide_true, decide_false, Bool.true_and, Bool.false_and, Bool.true_or, Bool.false_or]; done) | (simp [-List.getD_eq_getElem?_getD, g17, g22, g26, g30]; done) | (simp [-List.getD_eq_getElem?_getD, g17, g22, g26, g30]; omega)), rfl, rfl, rfl, rfl, rfl, rfl, rfl, trivial⟩, H⟩
        · skip
          refine r_skip S rfl rfl rfl fun a S => ?_
          refine r_skip S rfl rfl rfl fun a S => ?_
          refine r_y S H (y_pickF S rfl rfl rfl) rfl rfl rfl fun a S => ?_
          refine r_y S H (y_move S rfl rfl) rfl rfl rfl fun a S => ?_
          refine r_skip S rfl rfl rfl fun a S => ?_
          refine r_skip S rfl rfl rfl fun a S => ?_
          refine r_skip S rfl rfl rfl fun a S => ?_
          refine r_skip S rfl rfl rfl fun a S => ?_
          refine r_skip S rfl rfl rfl fun a S => ?_
          refine r_skip S rfl rfl rfl fun a S => ?_
          refine r_skip S rfl rfl rfl fun a S => ?_
          refine r_skip S rfl rfl rfl fun a S => ?_
          refine r_skip S rfl rfl rfl fun a S => ?_
          refine r_y S H (y_pickF S rfl rfl rfl) rfl rfl rfl fun a S => ?_
          refine r_y S H (y_assign S rfl rfl) rfl rfl rfl fun a S => ?_
          refine r_nil ?_
          refine x_then ?_
          exact ⟨S.sub ⟨rfl, rfl, rfl, (show lk _ _ = some (.bool false) from rfl).trans (by first | (simp only [g17, g22, g26, decide_true, decide_false, Bool.true_and, Bool.false_and, Bool.true_or, Bool.false_or]; done) | (simp [-List.getD_eq_getElem?_getD, g17, g22, g26]; done) | (simp [-List.getD_eq_getElem?_getD, g17, g22, g26]; omega)), rfl, rfl, rfl, rfl, rfl, rfl, rfl, trivial⟩, H⟩
      · skip
        refine r_skip S rfl rfl rfl fun a S => ?_
        refine r_skip S rfl rfl rfl fun a S => ?_
        refine r_y S H (y_pickF S rfl rfl rfl) rfl rfl rfl fun a S => ?_
        refine r_y S H (y_move S rfl rfl) rfl rfl rfl fun a S => ?_
        refine r_skip S rfl rfl rfl fun a S => ?_
        refine r_skip S rfl rfl rfl fun a S => ?_
        refine r_y S H (y_pickF S rfl rfl rfl) rfl rfl rfl fun a S => ?_
        refine r_y S H (y_move S rfl rfl) rfl rfl rfl fun a S => ?_
        refine r_skip S rfl rfl rfl fun a S => ?_
        refine r_skip S rfl rfl rfl fun a S => ?_
        refine r_skip S rfl rfl rfl fun a S => ?_
        refine r_skip S rfl rfl rfl fun a S => ?_
        refine r_skip S rfl rfl rfl fun a S => ?_
        refine r_skip S rfl rfl rfl fun a S => ?_
        refine r_skip S rfl rfl rfl fun a S => ?_
        refine r_skip S rfl rfl rfl fun a S => ?_
        refine r_skip S rfl rfl rfl fun a S => ?_
        refine r_y S H (y_pickF S rfl rfl rfl) rfl rfl rfl fun a S => ?_
        refine r_y S H (y_assign S rfl rfl) rfl rfl rfl fun a S => ?_
        refine r_nil ?_
        refine x_then ?_
        exact ⟨S.sub ⟨rfl, rfl, rfl, (show lk _ _ = some (.bool false) from rfl).trans (by first | (simp only [g17, g22, decide_true, decide_false, Bool.true_and, Bool.false_and, Bool.true_or, Bool.false_or]; done) | (simp [-List.getD_eq_getElem?_getD, g17, g22]; done) | (simp [-List.getD_eq_getElem?_getD, g17, g22]; omega)), rfl, rfl, rfl, rfl, rfl, rfl, rfl, trivial⟩, H⟩
    · skip
      refine r_skip S rfl rfl rfl fun a S => ?_
      refine r_skip S rfl rfl rfl fun a S => ?_
      refine r_skip S rfl rfl rfl fun a S => ?_
      refine r_y S H (y_pickF S rfl rfl rfl) rfl rfl rfl fun a S => ?_
      refine r_y S H (y_move S rfl rfl) rfl rfl rfl fun a S => ?_
      refine r_skip S rfl rfl rfl fun a S => ?_
      refine r_skip S rfl rfl rfl fun a S => ?_
      refine r_y S H (y_pickF S rfl rfl rfl) rfl rfl rfl fun a S => ?_
      refine r_y S H (y_move S rfl rfl) rfl rfl rfl fun a S => ?_
      refine r_skip S rfl rfl rfl fun a S => ?_
      refine r_skip S rfl rfl rfl fun a S => ?_
      refine r_y S H (y_pickF S rfl rfl rfl) rfl rfl rfl fun a S => ?_
      refine r_y S H (y_move S rfl rfl) rfl rfl rfl fun a S => ?_
      refine r_skip S rfl rfl rfl fun a S => ?_
      refine r_skip S rfl rfl rfl fun a S => ?_
      refine r_skip S rfl rfl rfl fun a S => ?_
      refine r_skip S rfl rfl rfl fun a S => ?_
      refine r_skip S rfl rfl rfl fun a S => ?_
      refine r_skip S rfl rfl rfl fun a S => ?_
      refine r_skip S rfl rfl rfl fun a S => ?_
      refine r_skip S rfl rfl rfl fun a S => ?_
      refine r_skip S rfl rfl rfl fun a S => ?_
      refine r_y S H (y_pickF S rfl rfl rfl) rfl rfl rfl fun a S => ?_
      refine r_y S H (y_assign S rfl rfl) rfl rfl rfl fun a S => ?_
      refine r_nil ?_
      refine x_then ?_
      exact ⟨S.sub ⟨rfl, rfl, rfl, (show lk _ _ = some (.bool false) from rfl).trans (by first | (simp only [g17, decide_true, decide_false, Bool.true_and, Bool.false_and, Bool.true_or, Bool.false_or]; done) | (simp [-List.getD_eq_getElem?_getD, g17]; done) | (simp [-List.getD_eq_getElem?_getD, g17]; omega)), rfl, rfl, rfl, rfl, rfl, rfl, rfl, trivial⟩, H⟩
  obtain ⟨S, H⟩ := hm
  refine x_then ?_
  refine wp_ret ?_
  refine r_ret1 S H Tryz.results43 (ro_tmp S rfl) ?_
  refine ⟨congrArg Value.bool ?_, H.drop⟩
  simp only [Tr.right]; (try simp only [decide_eq_true_eq, Bool.or_eq_true, Bool.or_eq_false_iff, decide_eq_false_iff_not, Bool.and_eq_true, Bool.not_eq_true'] at *)
  first | (simp [*]; omega) | (simp; omega) | (rw [Bool.eq_iff_iff]; simp; omega)

instance {fr : List Res} (k : Int) (s : Nat) (n : Int) : Cal Tryz.prog fr 43 [.agg #[.int .i64 k, .int .u32 ((s : Nat) : Int)], .int .i64 n] (.bool (Tr.right k s n)) fr (((s : Nat) : Int) ≤ 4294967295) := ⟨Tryz.call43, fun hc w H => tright_ct w fr k s n (by omega) H⟩
theorem mright_ct (w : World) (fr : List Res) (m : Mf) (hst : m.start < 4294967296) (H : Sat w (fr)) :
    Rt Tryz.prog 19 #[.agg #[.int .u64 ((m.seq : Nat) : Int), .int .i64 m.n, .int .i64 m.shards, .int .i64 m.step, .int .i64 m.kind, .int .u32 ((m.start : Nat) : Int)]] w fun v w' => v = .bool (Oc.mright m) ∧ Sat w' fr := by
  refine en1 Tryz.func19 rfl Tryz.ntmps19 rfl fun a S => ?_
  refine sb ?_
  refine r_box (c := #[.int .u64 ((m.seq : Nat) : Int), .int .i64 m.n, .int .i64 m.shards, .int .i64 m.step, .int .i64 m.kind, .int .u32 ((m.start : Nat) : Int)]) S H rfl rfl rfl rfl rfl rfl fun a w b1 S H => ?_
  refine rs 1 S H t0 fun a w S H => ?_
  refine sb ?_
  refine rn 4 S H t0 fun a w S H => ?_
  refine r_call (args := #[.int .i64 m.n, .int .i64 m.shards]) S rfl rfl Tryz.call42 (bounds_ct (H := H) _ _ m.n m.shards) rfl rfl rfl fun v a w hR S => ?_
  obtain ⟨A8, n9, c10, rfl, H⟩ := hR
  refine rs 5 S H t0 fun a w S H => ?_
  refine r_seq ?_
  refine r_block ?_
  rcases hpb : Oc.part m.n m.shards with _ | _
  · skip
    have S := S.retell (v' := .int .i64 1) 12 rfl (by rw [hpb]; rfl)
    have S := S.retell (v' := .int .i64 1) 4 rfl (by rw [hpb]; rfl)
    refine sb ?_
    refine rn 2 S H t0 fun a w S H => ?_
    have S := S.retell (v' := .bool true) 15 rfl rfl
    refine rs 11 S H t0 fun a w S H => ?_
    refine r_condT S rfl ?_
    refine sr 1 S H t0 fun a w S H => ?_
    refine wp_ret ?_
    refine x_blockRet ?_
    refine x_thenRet ?_
    refine r_ret1 S H Tryz.results19 (ro_tmp S rfl) ?_
    refine ⟨congrArg Value.bool ?_, H.drop⟩
    unfold Oc.mright
    rw [hpb]
    (try simp only [Bool.or_eq_true, Bool.or_eq_false_iff, decide_eq_true_eq, decide_eq_false_iff_not] at *)
    first | rfl | (simp [*]; done) | (simp; omega) | (simp [*]; omega) | (simp [*]; intros; omega)
  · skip
    have S := S.retell (v' := .int .i64 0) 12 rfl (by rw [hpb]; rfl)
    have S := S.retell (v' := .int .i64 0) 4 rfl (by rw [hpb]; rfl)
    refine sb ?_
    refine rn 2 S H t0 fun a w S H => ?_
    have S := S.retell (v' := .bool false) 15 rfl rfl
    refine rn 6 S H t0 fun a w S H => ?_
    refine scO 2 S H (fun _ => t0) fun a w S H => ?_
    refine rs 1 S H t0 fun a w S H => ?_
    refine r_cond S rfl (fun h13 => ?_) (fun h13 => ?_)
    · skip
      refine sr 1 S H t0 fun a w S H => ?_
      refine wp_ret ?_
      refine x_blockRet ?_
      refine x_thenRet ?_
      refine r_ret1 S H Tryz.results19 (ro_tmp S rfl) ?_
      refine ⟨congrArg Value.bool ?_, H.drop⟩
      unfold Oc.mright
      rw [hpb]
      (try simp only [Bool.or_eq_true, Bool.or_eq_false_iff, decide_eq_true_eq, decide_eq_false_iff_not] at *)
      first | rfl | (simp [*]; done) | (simp; omega) | (simp [*]; omega) | (simp [*]; intros; omega)
    · skip
      refine sr 4 S H t0 fun a w S H => ?_
      refine r_test S rfl (fun h26 => ?_) (fun h26 => ?_)
      · skip
        refine sb ?_
        refine rn 2 S H t0 fun a w S H => ?_
        refine r_y S H (y_build (vs := #[]) (v := .agg #[.int .i64 0, .int .u32 0]) S rfl rfl (fun w => by kernel_rfl)) rfl rfl rfl fun a S => ?_
        refine r_y S H (yl_bin S rfl rfl rfl (fun w => run_eqGuard_agg w _ _ _ _ _ _ (by kernel_rfl)) fun w _ => eq_prog m.kind m.start w) rfl rfl rfl fun a S => ?_
        refine rs 1 S H t0 fun a w S H => ?_
        refine wp_ret ?_
        refine x_blockRet ?_
        refine x_thenRet ?_
        refine r_ret1 S H Tryz.results19 (ro_tmp S rfl) ?_
        refine ⟨congrArg Value.bool ?_, H.drop⟩
        unfold Oc.mright
        rw [hpb]
        (try simp only [Bool.or_eq_true, Bool.or_eq_false_iff, decide_eq_true_eq, decide_eq_false_iff_not] at *)
        first | rfl | (simp [*]; done) | (simp; omega) | (simp [*]; omega) | (simp [*]; intros; omega)
      · skip
        refine wp_skip ?_
        refine x_blockEnd ?_
        refine x_then ?_
        refine sb ?_
        refine rn 4 S H t0 fun a w S H => ?_
        refine scA 4 S H (fun h => by simp only [Bool.or_eq_false_iff, Bool.and_eq_true, decide_eq_true_eq, decide_eq_false_iff_not] at h; omega) fun a w S H => ?_
        refine rs 1 S H t0 fun a w S H => ?_
        refine wp_ret ?_
        refine r_ret1 S H Tryz.results19 (ro_tmp S rfl) ?_
        refine ⟨congrArg Value.bool ?_, H.drop⟩
        unfold Oc.mright
        rw [hpb]
        (try simp only [Bool.or_eq_true, Bool.or_eq_false_iff, decide_eq_true_eq, decide_eq_false_iff_not] at *)
        first | rfl | (simp [*]; done) | (simp; omega) | (simp [*]; omega) | (simp [*]; intros; omega)

instance {fr : List Res} (m : Mf) : Cal Tryz.prog fr 19 [(.agg #[.int .u64 ((m.seq : Nat) : Int), .int .i64 m.n, .int .i64 m.shards, .int .i64 m.step, .int .i64 m.kind, .int .u32 ((m.start : Nat) : Int)])] (.bool (Oc.mright m)) fr (((m.start : Nat) : Int) ≤ 4294967295) := ⟨Tryz.call19, fun hc w H => mright_ct w fr m (by omega) H⟩
end Go.Proofs.YtfndfpgmgnacgaaGreatDoor
namespace Go.Proofs.YtfndfpgmgnacgaaGreatDoor
open Go.RowKit Go.Cg
set_option linter.unusedVariables false
set_option linter.unusedSimpArgs false
set_option maxRecDepth 8000
set_option synthInstance.maxHeartbeats 1000000
set_option synthInstance.maxSize 1000000
open Go.Cg.Dk (By)
open Go.Cg.Oc (Mf)
def mws (m : Mf) : List Nat := [m.seq, m.n.toNat, m.shards.toNat, (m.step + 1).toNat, m.kind.toNat, m.start]
def mcat (m : Mf) (i : Nat) : By := ((mws m).take i).flatMap (Oc.le 8)
theorem mws_eq {m : Mf} (h : Oc.mright m = true) : (#[.int .u64 ((m.seq : Nat) : Int), .int .u64 m.n, .int .u64 m.shards, .int .u64 (m.step + 1), .int .u64 m.kind, .int .u64 ((m.start : Nat) : Int)] : Array Value) = ((mws m).map fun x : Nat => Value.int .u64 (x : Int)).toArray := by
  have hf := Oc.mright_facts h
  simp [mws]; omega
theorem mws_at (m : Mf) {i : Nat} (h : i < 6) : (((mws m).map fun x : Nat => Value.int .u64 (x : Int)).toArray)[((i : Nat) : Int).toNat]? = some (.int .u64 (((mws m).getD i 0 : Nat) : Int)) := by
  have hl : i < (mws m).length := h
  simp [List.getD_eq_getElem?_getD, List.getElem?_eq_getElem hl]
theorem mws_lt {m : Mf} (h : Oc.mright m = true) (hs : m.seq < 18446744073709551616) (hst : m.start < 4294967296) {i : Nat} (hi : i < 6) : (mws m).getD i 0 < 18446744073709551616 := by
  have hf := Oc.mright_facts h
  match i, hi with
  | 0, _ => exact hs
  | 1, _ => show m.n.toNat < _; omega
  | 2, _ => show m.shards.toNat < _; omega
  | 3, _ => show (m.step + 1).toNat < _; omega
  | 4, _ => show m.kind.toNat < _; omega
  | 5, _ => show m.start < _; omega
theorem mcat_put (m : Mf) {i : Nat} (h : i < 6) : Oc.put (mcat m i) 8 ((mws m).getD i 0) = mcat m (i + 1) := by
  have hl : i < (mws m).length := h
  have e : (mws m).take (i + 1) = (mws m).take i ++ [(mws m).getD i 0] := by rw [List.getD_eq_getElem?_getD, List.getElem?_eq_getElem hl]; simp
  unfold mcat; rw [e, List.flatMap_append]; simp [Oc.put]; rfl
theorem mcat_len (m : Mf) {i : Nat} (h : i ≤ 6) : (mcat m i).length = 8 * i := by
  match i, h with
  | 0, _ => simp [mcat]
  | 1, _ => simp [mcat, mws, Oc.le_len]
  | 2, _ => simp [mcat, mws, Oc.le_len]
  | 3, _ => simp [mcat, mws, Oc.le_len]
  | 4, _ => simp [mcat, mws, Oc.le_len]
  | 5, _ => simp [mcat, mws, Oc.le_len]
  | 6, _ => simp [mcat, mws, Oc.le_len]
theorem mcat_all (m : Mf) : mcat m 6 = Oc.mtext m := by simp [mcat, mws, Oc.mtext]
theorem mencode_ct (w : World) (fr : List Res) (m : Mf) (hs : m.seq < 18446744073709551616) (hst : m.start < 4294967296) (H : Sat w (fr)) :
    Rt Tryz.prog 28 #[.agg #[.int .u64 ((m.seq : Nat) : Int), .int .i64 m.n, .int .i64 m.shards, .int .i64 m.step, .int .i64 m.kind, .int .u32 ((m.start : Nat) : Int)]] w fun v w' => ∃ A' c', v = .tuple #[.slice A' (Oc.menc m).1.length c', .int .i64 (((Oc.menc m).2 : Nat) : Int)] ∧ Sat w' (row 5 1 (.slice A' (Oc.menc m).1.length c') (Oc.menc m).1.length (u8s (Oc.menc m).1) :: fr) := by
  refine en1 Tryz.func28 rfl Tryz.ntmps28 rfl fun a S => ?_
  refine sb ?_
  refine r_box (c := #[.int .u64 ((m.seq : Nat) : Int), .int .i64 m.n, .int .i64 m.shards, .int .i64 m.step, .int .i64 m.kind, .int .u32 ((m.start : Nat) : Int)]) S H rfl rfl rfl rfl rfl rfl fun a w b1 S H => ?_
  refine rs 2 S H t0 fun a w S H => ?_
  refine r_seq ?_
  refine sr 3 S H (by omega) fun a w S H => ?_
  refine r_cond S rfl (fun h9 => ?_) (fun h9 => ?_)
  · skip
    refine sr 2 S H t0 fun a w S H => ?_
    refine wp_ret ?_
    refine x_thenRet ?_
    refine r_ret2 S H Tryz.results28 (ro_tmp S rfl) (ro_tmp S rfl) ?_
    have hr : Oc.mright m = false := by simpa using h9
    have e := Oc.menc_no hr
    rw [e]
    exact ⟨none, 0, rfl, H.drop.nilRow _ _⟩
  · skip
    have hr : Oc.mright m = true := by simpa using h9
    refine wp_skip ?_
    refine x_then ?_
    refine sr 1 S H t0 fun a w S H => ?_
    refine r_seq ?_
    have hf := Oc.mright_facts hr
    have H := H.nilRow 5 1
    refine sb ?_
    refine rn 20 S H (by omega) fun a w S H => ?_
    refine r_y S H (y_build (vs := #[(0, .int .u64 ((m.seq : Nat) : Int)), (1, .int .u64 m.n), (2, .int .u64 m.shards), (3, .int .u64 (m.step + 1)), (4, .int .u64 m.kind), (5, .int .u64 ((m.start : Nat) : Int))]) (v := .agg #[.int .u64 ((m.seq : Nat) : Int), .int .u64 m.n, .int .u64 m.shards, .int .u64 (m.step + 1), .int .u64 m.kind, .int .u64 ((m.start : Nat) : Int)]) S rfl rfl (fun w => by kernel_rfl)) rfl rfl rfl fun a S => ?_
    have S := S.retell (v' := .agg ((mws m).map fun x : Nat => Value.int .u64 (x : Int)).toArray) 30 rfl (congrArg Value.agg (mws_eq hr))
    refine rs 1 S H t0 fun a w S H => ?_
    refine r_block ?_
    refine r_loop (ι := Nat × Option Addr × Nat) (fun ⟨i, A2, c2⟩ a w => Slots a 42 [(0, .agg #[.int .u64 ((m.seq : Nat) : Int), .int .i64 m.n, .int .i64 m.shards, .int .i64 m.step, .int .i64 m.kind, .int .u32 ((m.start : Nat) : Int)]), (1, .pointer (some ⟨b1, 0, none⟩)), (2, .slice none 0 0), (3, .int .i64 0), (4, .slice A2 ((mcat m i).length) c2), (7, .agg #[.int .u64 ((m.seq : Nat) : Int), .int .i64 m.n, .int .i64 m.shards, .int .i64 m.step, .int .i64 m.kind, .int .u32 ((m.start : Nat) : Int)]), (8, .bool (Oc.mright m)), (9, .bool (!(Oc.mright m))), (10, .pointer (some ⟨b1, 0, none⟩)), (11, .int .u64 ((m.seq : Nat) : Int)), (12, .pointer (some ⟨b1, 1, none⟩)), (13, .int .i64 m.n), (14, .int .u64 m.n), (15, .pointer (some ⟨b1, 2, none⟩)), (16, .int .i64 m.shards), (17, .int .u64 m.shards), (18, .pointer (some ⟨b1, 3, none⟩)), (19, .int .i64 m.step), (20, .int .i64 (m.step + 1)), (21, .int .u64 (m.step + 1)), (22, .pointer (some ⟨b1, 4, none⟩)), (23, .pointer (some ⟨b1, 4, none⟩)), (24, .int .i64 m.kind), (25, .int .u64 m.kind), (26, .pointer (some ⟨b1, 4, none⟩)), (27, .pointer (some ⟨b1, 5, none⟩)), (28, .int .u32 ((m.start : Nat) : Int)), (29, .int .u64 ((m.start : Nat) : Int)), (30, .agg ((mws m).map fun x : Nat => Value.int .u64 (x : Int)).toArray), (31, .int .i64 ((i : Nat) : Int)), (42, undef)] ∧ Sat w (row 5 1 (.slice A2 ((mcat m i).length) c2) ((mcat m i).length) (u8s (mcat m i)) :: fr) ∧ (i ≤ 6)) (fun ⟨i, A2, c2⟩ => 6 - i) (0, none, 0) ⟨S.sub ⟨rfl, rfl, rfl, rfl, (by simp [mcat]; rfl), rfl, rfl, rfl, rfl, rfl, rfl, rfl, rfl, rfl, rfl, rfl, rfl, rfl, rfl, rfl, rfl, rfl, rfl, rfl, rfl, rfl, rfl, rfl, rfl, rfl, rfl, trivial⟩, (by simpa [mcat] using pk [0] 2 H), Nat.zero_le _⟩ (fun ⟨i, A2, c2⟩ a w hI => ?_)
    obtain ⟨S, H, hI⟩ := hI
    have hi6 := hI
    have hml := mcat_len m hi6
    refine sr 1 S H t0 fun a w S H => ?_
    refine r_seq ?_
    refine r_test S rfl (fun h32 => ?_) (fun h32 => ?_)
    · skip
      refine wp_skip ?_
      refine x_then ?_
      refine r_seq ?_
      refine r_block ?_
      refine sb ?_
      refine r_y S H (y_idxAgg S rfl rfl rfl Tryz.underlying110 Tryz.sizeOf22 Tryz.isAgg22 (by omega) (by omega) (mws_at m (by omega))) rfl rfl rfl fun a S => ?_
      refine rs 1 S H t0 fun a w S H => ?_
      refine r_region ?_
      refine rn 2 S H t0 fun a w S H => ?_
      refine r_call (args := #[.slice A2 ((mcat m i).length) c2, .int .i64 8, .int .u64 ((((mws m).getD i 0) : Nat) : Int)]) S rfl rfl Tryz.call52 (put_ct (H := H) _ _ _ _ _ (mcat m i) (SlOk.ofRow (i := 0) H rfl) 8 ((mws m).getD i 0) (mws_lt hr hs hst (by omega)) (by omega)) rfl rfl rfl fun v a w hR S => ?_
      obtain ⟨A2, c3, rfl, H⟩ := hR
      refine rn 1 S H t0 fun a w S H => ?_
      refine r_nil ?_
      refine x_blockEnd ?_
      refine x_then ?_
      refine er 2 S H (by omega) fun a w S H => ?_
      refine x_then ?_
      have ez := mcat_put m (i := i) (by omega)
      have H := pk [0] 2 H
      rw [ez] at H S
      exact ⟨(i + 1, A2, c3), ⟨S.sub ⟨rfl, rfl, rfl, rfl, rfl, rfl, rfl, rfl, rfl, rfl, rfl, rfl, rfl, rfl, rfl, rfl, rfl, rfl, rfl, rfl, rfl, rfl, rfl, rfl, rfl, rfl, rfl, rfl, rfl, rfl, rfl, trivial⟩, H, (by omega : i + 1 ≤ 6)⟩, by show 6 - (i + 1) < 6 - i; omega⟩
    · skip
      refine wp_exit ?_
      refine x_thenExit ?_
      refine x_thenExit ?_
      refine x_blockHere ?_
      refine x_then ?_
      refine sb ?_
      refine rn 1 S H t0 fun a w S H => ?_
      refine r_call (args := #[.slice A2 ((mcat m i).length) c2]) S rfl rfl Tryz.call53 (encode_ct (H := H) _ _ _ _ (mcat m i) (SlOk.ofRow (i := 0) H rfl) (by omega)) rfl rfl rfl fun v a w hR S => ?_
      obtain ⟨A8, c9, rfl, H⟩ := hR
      refine rs 4 S H t0 fun a w S H => ?_
      refine wp_ret ?_
      refine r_ret2 S H Tryz.results28 (ro_tmp S rfl) (ro_tmp S rfl) ?_
      have e : Oc.menc m = Oc.enc (mcat m i) := by rw [show i = 6 from by omega, mcat_all]; unfold Oc.menc; rw [if_pos hr]
      rw [e]
      exact ⟨_, _, rfl, pk [0] 2 H⟩

end Go.Proofs.YtfndfpgmgnacgaaGreatDoor
namespace Go.Proofs.YtfndfpgmgnacgaaGreatDoor
open Go.RowKit Go.Cg
set_option linter.unusedVariables false
set_option linter.unusedSimpArgs false
set_option maxRecDepth 8000
set_option synthInstance.maxHeartbeats 1000000
set_option synthInstance.maxSize 1000000
open Go.Cg.Dk (By)
open Go.Cg.Oc (Mf)
def wpart (d : By) (i : Nat) : List Value := (List.range 6).map fun j => .int .u64 (if j < i then ((Oc.word d j : Nat) : Int) else 0)
theorem wpart_put (d : By) {i : Nat} (h : i < 6) : putAt (wpart d i).toArray i [.int .u64 ((Oc.word d i : Nat) : Int)] = (wpart d (i + 1)).toArray := by
  match i, h with
  | 0, _ => rfl
  | 1, _ => rfl
  | 2, _ => rfl
  | 3, _ => rfl
  | 4, _ => rfl
  | 5, _ => rfl
theorem wpart_fit (d : By) {i : Nat} (h : i < 6) : Nat.ble (i + 1) (wpart d i).toArray.size = true := by
  match i, h with
  | 0, _ => rfl
  | 1, _ => rfl
  | 2, _ => rfl
  | 3, _ => rfl
  | 4, _ => rfl
  | 5, _ => rfl
theorem word_lt (d : By) (i : Nat) : Oc.word d i < 18446744073709551616 := Oc.get_lt d _ 8
theorem dec_len (b : By) (hb : b.length ≤ 17592186044416) : (Oc.dec b).1.length ≤ 17592186044416 := by
  unfold Oc.dec; simp only
  split
  · simp
  · split
    · simp; omega
    · simp
theorem mdecode_ct (w : World) (fr : List Res) (A : Option Addr) (n c : Nat) (b : By) (ok : SlOk fr 1 A n c (u8s b)) (hb : b.length ≤ 17592186044416) (H : Sat w (fr)) :
    Rt Tryz.prog 41 #[.slice A n c] w fun v w' => v = .tuple #[.agg #[.int .u64 (((Oc.mdec b).1.seq : Nat) : Int), .int .i64 ((Oc.mdec b).1.n), .int .i64 ((Oc.mdec b).1.shards), .int .i64 ((Oc.mdec b).1.step), .int .i64 ((Oc.mdec b).1.kind), .int .u32 (((Oc.mdec b).1.start : Nat) : Int)], .int .i64 (((Oc.mdec b).2 : Nat) : Int)] ∧ Sat w' fr := by
  refine en1 Tryz.func41 rfl Tryz.ntmps41 rfl fun a S => ?_
  obtain rfl := ok.n8
  refine sb ?_
  refine r_alloc S H rfl Tryz.zeroValue27 rfl rfl rfl rfl fun a w b1 S H => ?_
  replace H : Sat _ (blk b1 (.cells #[.int .u64 0, .int .i64 0, .int .i64 0, .int .i64 0, .int .i64 0, .int .u32 0] 27) :: fr) := H
  refine rs 1 S H t0 fun a w S H => ?_
  refine sb ?_
  refine rn 1 S H t0 fun a w S H => ?_
  refine r_call (args := #[.slice A b.length c]) S rfl rfl Tryz.call72 (decode_ct (H := H) _ _ _ _ _ b (ok.more _) (by omega)) rfl rfl rfl fun v a w hR S => ?_
  obtain ⟨A6, c7, rfl, H⟩ := hR
  refine rs 7 S H t0 fun a w S H => ?_
  refine r_seq ?_
  refine sr 2 S H t0 fun a w S H => ?_
  refine r_test S rfl (fun h19 => ?_) (fun h19 => ?_)
  · skip
    refine sb ?_
    refine r_y S H (y_build (vs := #[]) (v := .agg #[.int .u64 0, .int .i64 0, .int .i64 0, .int .i64 0, .int .i64 0, .int .u32 0]) S rfl rfl (fun w => by kernel_rfl)) rfl rfl rfl fun a S => ?_
    refine rs 3 S H t0 fun a w S H => ?_
    refine wp_ret ?_
    refine x_thenRet ?_
    refine r_ret2 S H Tryz.results41 (ro_agg [_, _, _, _, _, _] (i := 1) S rfl (fun w => ⟨Tryz.isAgg27 w, Tryz.sizeOf27 w⟩) rfl rfl ⟨rfl, rfl, rfl, rfl, rfl, rfl, trivial⟩) (ro_tmp S rfl) ?_
    have e : Oc.mdec b = (Oc.mf0, (Oc.dec b).2.2) := by unfold Oc.mdec; rw [if_pos (by omega)]
    rw [e]
    exact ⟨rfl, H.drop.drop⟩
  · skip
    refine wp_skip ?_
    refine x_then ?_
    refine sb ?_
    refine r_alloc S H rfl Tryz.zeroValue110 rfl rfl rfl rfl fun a w b8 S H => ?_
    replace H : Sat _ (blk b8 (.cells #[.int .u64 0, .int .u64 0, .int .u64 0, .int .u64 0, .int .u64 0, .int .u64 0] 110) :: row 5 1 (.slice A6 ((Oc.dec b).1.length) c7) ((Oc.dec b).1.length) (u8s ((Oc.dec b).1)) :: blk b1 (.cells #[.int .u64 0, .int .i64 0, .int .i64 0, .int .i64 0, .int .i64 0, .int .u32 0] 27) :: fr) := H
    refine sn ?_
    refine r_seq ?_
    refine sr 1 S H t0 fun a w S H => ?_
    refine r_block ?_
    refine r_loop (ι := Nat) (fun i a w => Slots a 70 [(0, .slice A b.length c), (2, .pointer (some ⟨b1, 0, none⟩)), (3, .int .i64 0), (4, .slice A6 ((Oc.dec b).1.length) c7), (6, .int .i64 (((Oc.dec b).2.2 : Nat) : Int)), (7, .pointer (some ⟨b8, 0, none⟩)), (12, .tuple #[.slice A6 ((Oc.dec b).1.length) c7, .int .i64 (((Oc.dec b).2.1 : Nat) : Int), .int .i64 (((Oc.dec b).2.2 : Nat) : Int)]), (13, .slice A b.length c), (14, .tuple #[.slice A6 ((Oc.dec b).1.length) c7, .int .i64 (((Oc.dec b).2.1 : Nat) : Int), .int .i64 (((Oc.dec b).2.2 : Nat) : Int)]), (15, .slice A6 ((Oc.dec b).1.length) c7), (16, .int .i64 (((Oc.dec b).2.1 : Nat) : Int)), (17, .int .i64 (((Oc.dec b).2.2 : Nat) : Int)), (18, .int .i64 (((Oc.dec b).2.2 : Nat) : Int)), (19, .bool (decide ((((Oc.dec b).2.2 : Nat) : Int) ≠ 0))), (22, .int .i64 ((i : Nat) : Int)), (70, undef)] ∧ Sat w (blk b8 (.cells (wpart (Oc.dec b).1 i).toArray 110) :: blk b1 (.cells #[.int .u64 0, .int .i64 0, .int .i64 0, .int .i64 0, .int .i64 0, .int .u32 0] 27) :: row 5 1 (.slice A6 ((Oc.dec b).1.length) c7) ((Oc.dec b).1.length) (u8s ((Oc.dec b).1)) :: fr) ∧ (i ≤ 6)) (fun i => 6 - i) 0 ⟨S.sub ⟨rfl, rfl, rfl, rfl, rfl, rfl, rfl, rfl, rfl, rfl, rfl, rfl, rfl, rfl, rfl, rfl, trivial⟩, pk [0, 2, 1] 3 H, Nat.zero_le _⟩ (fun i a w hI => ?_)
    obtain ⟨S, H, hI⟩ := hI
    have hi6 := hI
    have hdl : (Oc.dec b).1.length ≤ 17592186044416 := dec_len b hb
    refine sr 1 S H t0 fun a w S H => ?_
    refine r_seq ?_
    refine r_test S rfl (fun h23 => ?_) (fun h23 => ?_)
    · skip
      refine wp_skip ?_
      refine x_then ?_
      refine r_seq ?_
      refine r_block ?_
      refine sr 2 S H t0 fun a w S H => ?_
      refine r_region ?_
      refine rn 3 S H t0 fun a w S H => ?_
      refine r_y S H (y_mul S rfl rfl rfl (wi64 (by omega) (by omega))) rfl rfl rfl fun a S => ?_
      have S := S.retell (v' := .int .i64 (((i * 8) : Nat) : Int)) 29 rfl (int_eq (by omega))
      refine r_call (args := #[.slice A6 ((Oc.dec b).1.length) c7, .int .i64 (((i * 8) : Nat) : Int), .int .i64 8]) S rfl rfl Tryz.call73 (get_ct (H := H) _ _ _ _ _ ((Oc.dec b).1) (SlOk.ofRow (i := 2) H rfl) (((i * 8) : Nat) : Int) 8 (by omega) (by omega) (by omega)) rfl rfl rfl fun v a w hR S => ?_
      obtain ⟨rfl, H⟩ := hR
      refine rn 3 S H t0 fun a w S H => ?_
      refine r_y S H (y_idxArr S rfl rfl rfl Tryz.underlying110 Tryz.sizeOf22 (by omega) (by omega)) rfl rfl rfl fun a S => ?_
      have S := S.retell (v' := .pointer (some ⟨b8, i, none⟩)) 33 rfl (by simp)
      refine r_store (c' := (wpart (Oc.dec b).1 (i + 1)).toArray) (L' := blk b8 (.cells (wpart (Oc.dec b).1 (i + 1)).toArray 110) :: blk b1 (.cells #[.int .u64 0, .int .i64 0, .int .i64 0, .int .i64 0, .int .i64 0, .int .u32 0] 27) :: row 5 1 (.slice A6 ((Oc.dec b).1.length) c7) ((Oc.dec b).1.length) (u8s ((Oc.dec b).1)) :: fr) 0 S H rfl rfl rfl rfl Tryz.sizeOf22 rfl rfl (fun u hu => by rw [List.mem_singleton.1 hu]; rfl) (wpart_fit _ (by omega)) (wpart_put _ (by omega)) rfl rfl rfl fun w H => ?_
      refine r_nil ?_
      refine x_blockEnd ?_
      refine x_then ?_
      refine er 2 S H (by omega) fun a w S H => ?_
      refine x_then ?_
      exact ⟨(i + 1), ⟨S.sub ⟨rfl, rfl, rfl, rfl, rfl, rfl, rfl, rfl, rfl, rfl, rfl, rfl, rfl, rfl, rfl, rfl, trivial⟩, H, (by omega : i + 1 ≤ 6)⟩, by show 6 - (i + 1) < 6 - i; omega⟩
    · skip
      refine wp_exit ?_
      refine x_thenExit ?_
      refine x_thenExit ?_
      refine x_blockHere ?_
      refine x_then ?_
      have hie : i = 6 := by omega
      subst hie
      replace H : Sat _ (blk b8 (.cells #[.int .u64 ((Oc.word (Oc.dec b).1 0 : Nat) : Int), .int .u64 ((Oc.word (Oc.dec b).1 1 : Nat) : Int), .int .u64 ((Oc.word (Oc.dec b).1 2 : Nat) : Int), .int .u64 ((Oc.word (Oc.dec b).1 3 : Nat) : Int), .int .u64 ((Oc.word (Oc.dec b).1 4 : Nat) : Int), .int .u64 ((Oc.word (Oc.dec b).1 5 : Nat) : Int)] 110) :: blk b1 (.cells #[.int .u64 0, .int .i64 0, .int .i64 0, .int .i64 0, .int .i64 0, .int .u32 0] 27) :: row 5 1 (.slice A6 ((Oc.dec b).1.length) c7) ((Oc.dec b).1.length) (u8s ((Oc.dec b).1)) :: fr) := H
      obtain ⟨d, hd⟩ : ∃ d, d = (Oc.dec b).1 := ⟨_, rfl⟩
      rw [← hd] at H S hdl
      refine sb ?_
      refine r_y S H (y_idxArr S rfl rfl rfl Tryz.underlying110 Tryz.sizeOf22 (by omega) (by omega)) rfl rfl rfl fun a S => ?_
      have S := S.retell (v' := .pointer (some ⟨b8, 0, none⟩)) 35 rfl rfl
      refine rn 1 S H t0 fun a w S H => ?_
      refine r_y S H (y_idxArr S rfl rfl rfl Tryz.underlying110 Tryz.sizeOf22 (by omega) (by omega)) rfl rfl rfl fun a S => ?_
      have S := S.retell (v' := .pointer (some ⟨b8, 1, none⟩)) 37 rfl rfl
      refine rn 1 S H t0 fun a w S H => ?_
      refine r_y S H (y_convW S rfl rfl Tryz.underlying22 Tryz.underlying3) rfl rfl rfl fun a S => ?_
      refine r_y S H (y_idxArr S rfl rfl rfl Tryz.underlying110 Tryz.sizeOf22 (by omega) (by omega)) rfl rfl rfl fun a S => ?_
      have S := S.retell (v' := .pointer (some ⟨b8, 2, none⟩)) 40 rfl rfl
      refine rn 1 S H t0 fun a w S H => ?_
      refine r_y S H (y_convW S rfl rfl Tryz.underlying22 Tryz.underlying3) rfl rfl rfl fun a S => ?_
      refine r_y S H (y_idxArr S rfl rfl rfl Tryz.underlying110 Tryz.sizeOf22 (by omega) (by omega)) rfl rfl rfl fun a S => ?_
      have S := S.retell (v' := .pointer (some ⟨b8, 3, none⟩)) 43 rfl rfl
      refine rn 1 S H t0 fun a w S H => ?_
      refine r_y S H (y_convW S rfl rfl Tryz.underlying22 Tryz.underlying3) rfl rfl rfl fun a S => ?_
      refine r_y S H (y_subW S rfl rfl rfl) rfl rfl rfl fun a S => ?_
      refine r_y S H (y_idxArr S rfl rfl rfl Tryz.underlying110 Tryz.sizeOf22 (by omega) (by omega)) rfl rfl rfl fun a S => ?_
      have S := S.retell (v' := .pointer (some ⟨b8, 4, none⟩)) 47 rfl rfl
      refine rn 1 S H t0 fun a w S H => ?_
      refine r_y S H (y_convW S rfl rfl Tryz.underlying22 Tryz.underlying3) rfl rfl rfl fun a S => ?_
      refine r_y S H (y_idxArr S rfl rfl rfl Tryz.underlying110 Tryz.sizeOf22 (by omega) (by omega)) rfl rfl rfl fun a S => ?_
      have S := S.retell (v' := .pointer (some ⟨b8, 5, none⟩)) 50 rfl rfl
      refine rn 1 S H t0 fun a w S H => ?_
      refine r_y S H (y_convW S rfl rfl Tryz.underlying22 Tryz.underlying23) rfl rfl rfl fun a S => ?_
      have S := S.retell (v' := .int .u32 (((Oc.word d 5 % 4294967296) : Nat) : Int)) 52 rfl (congrArg (Value.int .u32) (by rw [IntKind.wrap_u32']; omega))
      refine r_y S H (y_build (vs := #[(0, .int .i64 (IntKind.i64.wrap ((Oc.word d 4 : Nat) : Int))), (1, .int .u32 (((Oc.word d 5 % 4294967296) : Nat) : Int))]) (v := .agg #[.int .i64 (IntKind.i64.wrap ((Oc.word d 4 : Nat) : Int)), .int .u32 (((Oc.word d 5 % 4294967296) : Nat) : Int)]) S rfl rfl (fun w => by kernel_rfl)) rfl rfl rfl fun a S => ?_
      refine r_y S H (y_build (vs := #[(0, .int .u64 ((Oc.word d 0 : Nat) : Int)), (1, .int .i64 (IntKind.i64.wrap ((Oc.word d 1 : Nat) : Int))), (2, .int .i64 (IntKind.i64.wrap ((Oc.word d 2 : Nat) : Int))), (3, .int .i64 (IntKind.i64.wrap (IntKind.i64.wrap ((Oc.word d 3 : Nat) : Int) - 1))), (4, .agg #[.int .i64 (IntKind.i64.wrap ((Oc.word d 4 : Nat) : Int)), .int .u32 (((Oc.word d 5 % 4294967296) : Nat) : Int)])]) (v := .agg #[.int .u64 ((Oc.word d 0 : Nat) : Int), .int .i64 (IntKind.i64.wrap ((Oc.word d 1 : Nat) : Int)), .int .i64 (IntKind.i64.wrap ((Oc.word d 2 : Nat) : Int)), .int .i64 (IntKind.i64.wrap (IntKind.i64.wrap ((Oc.word d 3 : Nat) : Int) - 1)), .int .i64 (IntKind.i64.wrap ((Oc.word d 4 : Nat) : Int)), .int .u32 (((Oc.word d 5 % 4294967296) : Nat) : Int)]) S rfl rfl (fun w => by kernel_rfl)) rfl rfl rfl fun a S => ?_
      refine r_alloc S H rfl Tryz.zeroValue27 rfl rfl rfl rfl fun a w b9 S H => ?_
      replace H : Sat _ (blk b9 (.cells #[.int .u64 0, .int .i64 0, .int .i64 0, .int .i64 0, .int .i64 0, .int .u32 0] 27) :: blk b8 (.cells #[.int .u64 ((Oc.word d 0 : Nat) : Int), .int .u64 ((Oc.word d 1 : Nat) : Int), .int .u64 ((Oc.word d 2 : Nat) : Int), .int .u64 ((Oc.word d 3 : Nat) : Int), .int .u64 ((Oc.word d 4 : Nat) : Int), .int .u64 ((Oc.word d 5 : Nat) : Int)] 110) :: blk b1 (.cells #[.int .u64 0, .int .i64 0, .int .i64 0, .int .i64 0, .int .i64 0, .int .u32 0] 27) :: row 5 1 (.slice A6 (d.length) c7) (d.length) (u8s (d)) :: fr) := H
      refine rs 1 S H t0 fun a w S H => ?_
      refine r_seq ?_
      obtain ⟨M, hM⟩ : ∃ M, M = Oc.mof d := ⟨_, rfl⟩
      have hMs : M.seq < 18446744073709551616 := by rw [hM]; exact word_lt d 0
      have hMt : M.start < 4294967296 := by rw [hM]; show Oc.word d 5 % 4294967296 < _; omega
      replace H : Sat w (blk b9 (.cells #[.int .u64 ((M.seq : Nat) : Int), .int .i64 M.n, .int .i64 M.shards, .int .i64 M.step, .int .i64 M.kind, .int .u32 ((M.start : Nat) : Int)] 27) :: blk b8 (.cells #[.int .u64 ((Oc.word d 0 : Nat) : Int), .int .u64 ((Oc.word d 1 : Nat) : Int), .int .u64 ((Oc.word d 2 : Nat) : Int), .int .u64 ((Oc.word d 3 : Nat) : Int), .int .u64 ((Oc.word d 4 : Nat) : Int), .int .u64 ((Oc.word d 5 : Nat) : Int)] 110) :: blk b1 (.cells #[.int .u64 0, .int .i64 0, .int .i64 0, .int .i64 0, .int .i64 0, .int .u32 0] 27) :: row 5 1 (.slice A6 (d.length) c7) (d.length) (u8s (d)) :: fr) := by rw [hM]; exact H
      refine sb ?_
      refine rn 1 S H t0 fun a w S H => ?_
      refine r_call (args := #[.agg #[.int .u64 ((M.seq : Nat) : Int), .int .i64 M.n, .int .i64 M.shards, .int .i64 M.step, .int .i64 M.kind, .int .u32 ((M.start : Nat) : Int)]]) S rfl rfl Tryz.call28 (mencode_ct (H := H) _ _ M (hMs) (hMt)) rfl rfl rfl fun v a w hR S => ?_
      obtain ⟨A10, c11, rfl, H⟩ := hR
      refine rs 5 S H t0 fun a w S H => ?_
      rcases hme : Oc.mright M with _ | _
      · skip
        have hme2 : (Oc.menc M).2 = 1 := by rw [Oc.menc_no hme]
        have S := S.retell (v' := .int .i64 1) 59 rfl (by rw [hme2]; rfl)
        have S := S.retell (v' := .int .i64 1) 11 rfl (by rw [hme2]; rfl)
        refine sb ?_
        refine rn 2 S H t0 fun a w S H => ?_
        have S := S.retell (v' := .bool true) 61 rfl rfl
        refine rs 6 S H t0 fun a w S H => ?_
        refine r_condT S rfl ?_
        refine sb ?_
        refine r_y S H (y_build (vs := #[]) (v := .agg #[.int .u64 0, .int .i64 0, .int .i64 0, .int .i64 0, .int .i64 0, .int .u32 0]) S rfl rfl (fun w => by kernel_rfl)) rfl rfl rfl fun a S => ?_
        refine rs 2 S H t0 fun a w S H => ?_
        refine wp_ret ?_
        refine x_thenRet ?_
        refine r_ret2 S H Tryz.results41 (ro_agg [_, _, _, _, _, _] (i := 3) S rfl (fun w => ⟨Tryz.isAgg27 w, Tryz.sizeOf27 w⟩) rfl rfl ⟨rfl, rfl, rfl, rfl, rfl, rfl, trivial⟩) (ro_tmp S rfl) ?_
        have e : Oc.mdec b = (Oc.mf0, 2) := by unfold Oc.mdec; rw [if_neg (by omega), ← hd, ← hM]; rw [if_pos (by rw [hme2]; exact .inl (by decide))]
        rw [e]
        exact ⟨rfl, H.drop.drop.drop.drop.drop⟩
      · skip
        have hme2 : (Oc.menc M).2 = 0 := Oc.menc_ok hme
        have S := S.retell (v' := .int .i64 0) 59 rfl (by rw [hme2]; rfl)
        have S := S.retell (v' := .int .i64 0) 11 rfl (by rw [hme2]; rfl)
        refine sb ?_
        refine rn 2 S H t0 fun a w S H => ?_
        have S := S.retell (v' := .bool false) 61 rfl rfl
        refine rn 3 S H t0 fun a w S H => ?_
        refine r_call (args := #[.slice A10 ((Oc.menc M).1.length) c11, .slice A b.length c]) S rfl rfl Tryz.call74 (equal_ct (H := H) _ _ _ _ _ _ (SlOk.ofRow (i := 0) H rfl) _ _ _ _ (((((ok.more _).more _).more _).more _).more _)) rfl rfl rfl fun v a w hR S => ?_
        obtain ⟨rfl, H⟩ := hR
        refine rs 2 S H t0 fun a w S H => ?_
        refine r_cond S rfl (fun h67 => ?_) (fun h67 => ?_)
        · skip
          refine sb ?_
          refine r_y S H (y_build (vs := #[]) (v := .agg #[.int .u64 0, .int .i64 0, .int .i64 0, .int .i64 0, .int .i64 0, .int .u32 0]) S rfl rfl (fun w => by kernel_rfl)) rfl rfl rfl fun a S => ?_
          refine rs 2 S H t0 fun a w S H => ?_
          refine wp_ret ?_
          refine x_thenRet ?_
          refine r_ret2 S H Tryz.results41 (ro_agg [_, _, _, _, _, _] (i := 3) S rfl (fun w => ⟨Tryz.isAgg27 w, Tryz.sizeOf27 w⟩) rfl rfl ⟨rfl, rfl, rfl, rfl, rfl, rfl, trivial⟩) (ro_tmp S rfl) ?_
          have e : Oc.mdec b = (Oc.mf0, 2) := by unfold Oc.mdec; rw [if_neg (by omega), ← hd, ← hM]; rw [if_pos (.inr (by simpa using h67))]
          rw [e]
          exact ⟨rfl, H.drop.drop.drop.drop.drop⟩
        · skip
          refine wp_skip ?_
          refine x_then ?_
          refine sr 3 S H t0 fun a w S H => ?_
          refine wp_ret ?_
          refine r_ret2 S H Tryz.results41 (ro_agg [_, _, _, _, _, _] (i := 3) S rfl (fun w => ⟨Tryz.isAgg27 w, Tryz.sizeOf27 w⟩) rfl rfl ⟨rfl, rfl, rfl, rfl, rfl, rfl, trivial⟩) (ro_tmp S rfl) ?_
          have e : Oc.mdec b = (M, 0) := by unfold Oc.mdec; rw [if_neg (by omega), ← hd, ← hM]; rw [if_neg (by rw [hme2]; simpa using h67)]
          rw [e]
          exact ⟨rfl, H.drop.drop.drop.drop.drop⟩

end Go.Proofs.YtfndfpgmgnacgaaGreatDoor
namespace Go.Proofs.YtfndfpgmgnacgaaGreatDoor
open Go.RowKit Go.Cg
set_option linter.unusedVariables false
set_option linter.unusedSimpArgs false
set_option maxRecDepth 8000
set_option synthInstance.maxHeartbeats 1000000
set_option synthInstance.maxSize 1000000
theorem fa27_0 : FieldAt Tryz.prog 27 0 0 := by intro w b o; simp [Instr.fieldAt, Instr.sureAddr, fieldPlace, Addr.add]
open Go.Cg.Dk (By)
open Go.Cg.Oc (Mf)
def chs (ds : List By) : Nat → Mf × Nat × Bool
  | 0 => (Oc.mf0, 0, false)
  | i + 1 => if (Oc.mdec (ds.getD i [])).2 = 0 ∧ ((chs ds i).2.2 = false ∨ (chs ds i).1.seq < (Oc.mdec (ds.getD i [])).1.seq) then ((Oc.mdec (ds.getD i [])).1, i, true) else chs ds i
theorem chs_2 (a b : By) : chs [a, b] 2 = Oc.choose a b := by
  show (if (Oc.mdec b).2 = 0 ∧ _ then _ else _) = _
  have e : chs [a, b] 1 = if (Oc.mdec a).2 = 0 then ((Oc.mdec a).1, 0, true) else (Oc.mf0, 0, false) := by
    show (if (Oc.mdec a).2 = 0 ∧ _ then _ else _) = _
    simp [chs]
  rw [e]; rfl
theorem sls_get {l : List Sl} {i : Nat} (h : i < l.length) : ((sls l).toArray)[((i : Nat) : Int).toNat]? = some (.slice (l.getD i sl0).1 (l.getD i sl0).2.1 (l.getD i sl0).2.2) := by
  have := sls_at h
  simpa using this
theorem mchoose_ct (w : World) (fr : List Res) (A : Option Addr) (n c : Nat) (xa : By) (ok : SlOk fr 1 A n c (u8s xa)) (A2 : Option Addr) (n2 c2 : Nat) (xb : By) (ok2 : SlOk fr 1 A2 n2 c2 (u8s xb)) (ha : xa.length ≤ 17592186044416) (hb : xb.length ≤ 17592186044416) (H : Sat w (fr)) :
    Rt Tryz.prog 18 #[.slice A n c, .slice A2 n2 c2] w fun v w' => v = .tuple #[.agg #[.int .u64 (((Oc.choose xa xb).1.seq : Nat) : Int), .int .i64 ((Oc.choose xa xb).1.n), .int .i64 ((Oc.choose xa xb).1.shards), .int .i64 ((Oc.choose xa xb).1.step), .int .i64 ((Oc.choose xa xb).1.kind), .int .u32 (((Oc.choose xa xb).1.start : Nat) : Int)], .int .i64 (((Oc.choose xa xb).2.1 : Nat) : Int), .bool (Oc.choose xa xb).2.2] ∧ Sat w' fr := by
  refine en2 Tryz.func18 rfl Tryz.ntmps18 rfl fun a S => ?_
  obtain rfl := ok.n8
  obtain rfl := ok2.n8
  have hds : SlsOk fr [(A, xa.length, c), (A2, xb.length, c2)] [xa, xb] := .cons ok (.cons ok2 (.nil _))
  refine sb ?_
  refine r_alloc S H rfl Tryz.zeroValue27 rfl rfl rfl rfl fun a w b1 S H => ?_
  replace H : Sat _ (blk b1 (.cells #[.int .u64 0, .int .i64 0, .int .i64 0, .int .i64 0, .int .i64 0, .int .u32 0] 27) :: fr) := H
  refine rs 2 S H t0 fun a w S H => ?_
  refine r_seq ?_
  refine sb ?_
  refine rn 2 S H t0 fun a w S H => ?_
  refine r_y S H (y_build (vs := #[(0, .slice A xa.length c), (1, .slice A2 xb.length c2)]) (v := .agg #[.slice A xa.length c, .slice A2 xb.length c2]) S rfl rfl (fun w => by kernel_rfl)) rfl rfl rfl fun a S => ?_
  have S := S.retell (v' := .agg (sls [(A, xa.length, c), (A2, xb.length, c2)]).toArray) 13 rfl rfl
  refine rs 1 S H t0 fun a w S H => ?_
  refine r_block ?_
  refine r_loop (ι := Nat) (fun i a w => Slots a 42 [(0, .slice A xa.length c), (1, .slice A2 xb.length c2), (4, .pointer (some ⟨b1, 0, none⟩)), (5, .int .i64 (((chs [xa, xb] i).2.1 : Nat) : Int)), (6, .bool ((chs [xa, xb] i).2.2)), (11, .slice A xa.length c), (12, .slice A2 xb.length c2), (13, .agg (sls [(A, xa.length, c), (A2, xb.length, c2)]).toArray), (14, .int .i64 ((i : Nat) : Int)), (42, undef)] ∧ Sat w (blk b1 (.cells #[.int .u64 (((chs [xa, xb] i).1.seq : Nat) : Int), .int .i64 ((chs [xa, xb] i).1.n), .int .i64 ((chs [xa, xb] i).1.shards), .int .i64 ((chs [xa, xb] i).1.step), .int .i64 ((chs [xa, xb] i).1.kind), .int .u32 (((chs [xa, xb] i).1.start : Nat) : Int)] 27) :: fr) ∧ (i ≤ 2)) (fun i => 2 - i) 0 ⟨S.sub ⟨rfl, rfl, rfl, rfl, rfl, rfl, rfl, rfl, rfl, rfl, trivial⟩, (H), Nat.zero_le _⟩ (fun i a w hI => ?_)
  obtain ⟨S, H, hI⟩ := hI
  have hi2 := hI
  refine sr 1 S H t0 fun a w S H => ?_
  refine r_seq ?_
  refine r_test S rfl (fun h15 => ?_) (fun h15 => ?_)
  · skip
    refine wp_skip ?_
    refine x_then ?_
    refine r_seq ?_
    refine r_block ?_
    refine sb ?_
    refine rn 1 S H t0 fun a w S H => ?_
    refine r_y S H (y_idxAgg S rfl rfl rfl Tryz.underlying94 Tryz.sizeOf41 Tryz.isAgg41 (by omega) (by omega) (sls_get (by simp; omega))) rfl rfl rfl fun a S => ?_
    obtain ⟨Ae, ce, hee, oke⟩ := hds.at (i := i) (by simp; omega)
    have hle : ([xa, xb].getD i []).length ≤ 17592186044416 := by rcases Nat.lt_or_ge i 1 with h | h; (obtain rfl : i = 0 := by omega); (exact ha); (obtain rfl : i = 1 := by omega); (exact hb)
    have S := S.retell (v' := .slice Ae (([xa, xb].getD i []).length) ce) 17 rfl (by rw [hee])
    refine rs 2 S H t0 fun a w S H => ?_
    refine sb ?_
    refine rn 1 S H t0 fun a w S H => ?_
    refine r_call (args := #[.slice Ae (([xa, xb].getD i []).length) ce]) S rfl rfl Tryz.call41 (mdecode_ct (H := H) _ _ _ _ _ ([xa, xb].getD i []) (oke.more _) (by omega)) rfl rfl rfl fun v a w hR S => ?_
    obtain ⟨rfl, H⟩ := hR
    refine rn 3 S H t0 fun a w S H => ?_
    refine r_alloc S H rfl Tryz.zeroValue27 rfl rfl rfl rfl fun a w b2 S H => ?_
    replace H : Sat _ (blk b2 (.cells #[.int .u64 0, .int .i64 0, .int .i64 0, .int .i64 0, .int .i64 0, .int .u32 0] 27) :: blk b1 (.cells #[.int .u64 (((chs [xa, xb] i).1.seq : Nat) : Int), .int .i64 ((chs [xa, xb] i).1.n), .int .i64 ((chs [xa, xb] i).1.shards), .int .i64 ((chs [xa, xb] i).1.step), .int .i64 ((chs [xa, xb] i).1.kind), .int .u32 (((chs [xa, xb] i).1.start : Nat) : Int)] 27) :: fr) := H
    refine rs 2 S H t0 fun a w S H => ?_
    refine r_seq ?_
    refine wp_via (J := fun a w => Slots a 42 [(0, .slice A xa.length c), (1, .slice A2 xb.length c2), (4, .pointer (some ⟨b1, 0, none⟩)), (5, .int .i64 (((chs [xa, xb] i).2.1 : Nat) : Int)), (6, .bool ((chs [xa, xb] i).2.2)), (7, .int .i64 ((i : Nat) : Int)), (8, .slice Ae (([xa, xb].getD i []).length) ce), (9, .pointer (some ⟨b2, 0, none⟩)), (10, .int .i64 (((Oc.mdec ([xa, xb].getD i [])).2 : Nat) : Int)), (11, .slice A xa.length c), (12, .slice A2 xb.length c2), (13, .agg (sls [(A, xa.length, c), (A2, xb.length, c2)]).toArray), (14, .int .i64 ((i : Nat) : Int)), (15, .bool (decide (((i : Nat) : Int) < 2))), (16, .int .i64 ((i : Nat) : Int)), (17, .slice Ae (([xa, xb].getD i []).length) ce), (18, .tuple #[.agg #[.int .u64 (((Oc.mdec ([xa, xb].getD i [])).1.seq : Nat) : Int), .int .i64 ((Oc.mdec ([xa, xb].getD i [])).1.n), .int .i64 ((Oc.mdec ([xa, xb].getD i [])).1.shards), .int .i64 ((Oc.mdec ([xa, xb].getD i [])).1.step), .int .i64 ((Oc.mdec ([xa, xb].getD i [])).1.kind), .int .u32 (((Oc.mdec ([xa, xb].getD i [])).1.start : Nat) : Int)], .int .i64 (((Oc.mdec ([xa, xb].getD i [])).2 : Nat) : Int)]), (19, .slice Ae (([xa, xb].getD i []).length) ce), (20, .tuple #[.agg #[.int .u64 (((Oc.mdec ([xa, xb].getD i [])).1.seq : Nat) : Int), .int .i64 ((Oc.mdec ([xa, xb].getD i [])).1.n), .int .i64 ((Oc.mdec ([xa, xb].getD i [])).1.shards), .int .i64 ((Oc.mdec ([xa, xb].getD i [])).1.step), .int .i64 ((Oc.mdec ([xa, xb].getD i [])).1.kind), .int .u32 (((Oc.mdec ([xa, xb].getD i [])).1.start : Nat) : Int)], .int .i64 (((Oc.mdec ([xa, xb].getD i [])).2 : Nat) : Int)]), (21, .agg #[.int .u64 (((Oc.mdec ([xa, xb].getD i [])).1.seq : Nat) : Int), .int .i64 ((Oc.mdec ([xa, xb].getD i [])).1.n), .int .i64 ((Oc.mdec ([xa, xb].getD i [])).1.shards), .int .i64 ((Oc.mdec ([xa, xb].getD i [])).1.step), .int .i64 ((Oc.mdec ([xa, xb].getD i [])).1.kind), .int .u32 (((Oc.mdec ([xa, xb].getD i [])).1.start : Nat) : Int)]), (22, .int .i64 (((Oc.mdec ([xa, xb].getD i [])).2 : Nat) : Int)), (35, .bool ((decide ((((Oc.mdec ([xa, xb].getD i [])).2 : Nat) : Int) = 0)) && ((!((chs [xa, xb] i).2.2)) || (decide ((((chs [xa, xb] i).1.seq : Nat) : Int) < (((Oc.mdec ([xa, xb].getD i [])).1.seq : Nat) : Int)))))), (42, undef)] ∧ Sat w (blk b2 (.cells #[.int .u64 (((Oc.mdec ([xa, xb].getD i [])).1.seq : Nat) : Int), .int .i64 ((Oc.mdec ([xa, xb].getD i [])).1.n), .int .i64 ((Oc.mdec ([xa, xb].getD i [])).1.shards), .int .i64 ((Oc.mdec ([xa, xb].getD i [])).1.step), .int .i64 ((Oc.mdec ([xa, xb].getD i [])).1.kind), .int .u32 (((Oc.mdec ([xa, xb].getD i [])).1.start : Nat) : Int)] 27) :: blk b1 (.cells #[.int .u64 (((chs [xa, xb] i).1.seq : Nat) : Int), .int .i64 ((chs [xa, xb] i).1.n), .int .i64 ((chs [xa, xb] i).1.shards), .int .i64 ((chs [xa, xb] i).1.step), .int .i64 ((chs [xa, xb] i).1.kind), .int .u32 (((chs [xa, xb] i).1.start : Nat) : Int)] 27) :: fr)) ?_ (fun a w hm => ?_)
    · skip
      refine r_region ?_
      refine r_y S H (y_move S rfl rfl) rfl rfl rfl fun a S => ?_
      refine r_y S H (y_eq S rfl rfl rfl) rfl rfl rfl fun a S => ?_
      refine r_y S H (y_move S rfl rfl) rfl rfl rfl fun a S => ?_
      refine splitP S (d := 25) rfl (fun g25 S => ?_) (fun g25 S => ?_)
      · skip
        refine r_y S H (y_move S rfl rfl) rfl rfl rfl fun a S => ?_
        refine r_y S H (y_not S rfl rfl) rfl rfl rfl fun a S => ?_
        refine r_y S H (y_move S rfl rfl) rfl rfl rfl fun a S => ?_
        refine splitB S (d := 28) rfl (fun g28 S => ?_) (fun g28 S => ?_)
        · skip
          refine r_skip S rfl rfl rfl fun a S => ?_
          refine r_skip S rfl rfl rfl fun a S => ?_
          refine r_skip S rfl rfl rfl fun a S => ?_
          refine r_skip S rfl rfl rfl fun a S => ?_
          refine r_skip S rfl rfl rfl fun a S => ?_
          refine r_y S H (y_pickT S rfl rfl rfl) rfl rfl rfl fun a S => ?_
          refine r_y S H (y_pickT S rfl rfl rfl) rfl rfl rfl fun a S => ?_
          refine r_nil ?_
          refine x_then ?_
          exact ⟨S.sub ⟨rfl, rfl, rfl, rfl, rfl, rfl, rfl, rfl, rfl, rfl, rfl, rfl, rfl, rfl, rfl, rfl, rfl, rfl, rfl, rfl, rfl, (show lk _ _ = some (.bool true) from rfl).trans (by first | (simp only [g25, g28, decide_true, decide_false, Bool.true_and, Bool.false_and, Bool.true_or, Bool.false_or]; done) | (simp [-List.getD_eq_getElem?_getD, g25, g28]; done) | (simp [-List.getD_eq_getElem?_getD, g25, g28]; omega)), rfl, trivial⟩, H⟩
        · skip
          refine r_y S H (y_fieldAddr S rfl rfl fa27_0) rfl rfl rfl fun a S => ?_
          refine r_y S H (y_load 0 S rfl rfl Tryz.isAgg22 rfl rfl) rfl rfl rfl fun a S => ?_
          refine r_y S H (y_fieldAddr S rfl rfl fa27_0) rfl rfl rfl fun a S => ?_
          refine r_y S H (y_load 1 S rfl rfl Tryz.isAgg22 rfl rfl) rfl rfl rfl fun a S => ?_
          refine r_y S H (y_gt S rfl rfl rfl) rfl rfl rfl fun a S => ?_
          refine r_y S H (y_pickF S rfl rfl rfl) rfl rfl rfl fun a S => ?_
          refine r_y S H (y_pickT S rfl rfl rfl) rfl rfl rfl fun a S => ?_
          refine r_nil ?_
          refine x_then ?_
          exact ⟨S.sub ⟨rfl, rfl, rfl, rfl, rfl, rfl, rfl, rfl, rfl, rfl, rfl, rfl, rfl, rfl, rfl, rfl, rfl, rfl, rfl, rfl, rfl, (show lk _ _ = some (.bool (decide ((((chs [xa, xb] i).1.seq : Nat) : Int) < (((Oc.mdec ([xa, xb].getD i [])).1.seq : Nat) : Int)))) from rfl).trans (by first | (simp only [g25, g28, decide_true, decide_false, Bool.true_and, Bool.false_and, Bool.true_or, Bool.false_or]; done) | (simp [-List.getD_eq_getElem?_getD, g25, g28]; done) | (simp [-List.getD_eq_getElem?_getD, g25, g28]; omega)), rfl, trivial⟩, H⟩
      · skip
        refine r_skip S rfl rfl rfl fun a S => ?_
        refine r_skip S rfl rfl rfl fun a S => ?_
        refine r_skip S rfl rfl rfl fun a S => ?_
        refine r_skip S rfl rfl rfl fun a S => ?_
        refine r_skip S rfl rfl rfl fun a S => ?_
        refine r_skip S rfl rfl rfl fun a S => ?_
        refine r_skip S rfl rfl rfl fun a S => ?_
        refine r_skip S rfl rfl rfl fun a S => ?_
        refine r_skip S rfl rfl rfl fun a S => ?_
        refine r_y S H (y_pickF S rfl rfl rfl) rfl rfl rfl fun a S => ?_
        refine r_nil ?_
        refine x_then ?_
        exact ⟨S.sub ⟨rfl, rfl, rfl, rfl, rfl, rfl, rfl, rfl, rfl, rfl, rfl, rfl, rfl, rfl, rfl, rfl, rfl, rfl, rfl, rfl, rfl, (show lk _ _ = some (.bool false) from rfl).trans (by first | (simp only [g25, decide_true, decide_false, Bool.true_and, Bool.false_and, Bool.true_or, Bool.false_or]; done) | (simp [-List.getD_eq_getElem?_getD, g25]; done) | (simp [-List.getD_eq_getElem?_getD, g25]; omega)), rfl, trivial⟩, H⟩
    obtain ⟨S, H⟩ := hm
    refine x_then ?_
    refine r_cond S rfl (fun h35 => ?_) (fun h35 => ?_)
    · skip
      refine er 5 S H t0 fun a w S H => ?_
      refine x_blockEnd ?_
      refine x_then ?_
      refine er 2 S H (by omega) fun a w S H => ?_
      refine x_then ?_
      have e : chs [xa, xb] (i + 1) = ((Oc.mdec ([xa, xb].getD i [])).1, i, true) := by rw [chs, if_pos (by simp_all)]
      have H := pk [1] 2 H
      exact ⟨(i + 1), ⟨S.sub ⟨rfl, rfl, rfl, (by rw [e]; rfl), (by rw [e]; rfl), rfl, rfl, rfl, rfl, rfl, trivial⟩, (by rw [e]; exact H), (by omega : i + 1 ≤ 2)⟩, by show 2 - (i + 1) < 2 - i; omega⟩
    · skip
      refine wp_skip ?_
      refine x_blockEnd ?_
      refine x_then ?_
      refine er 2 S H (by omega) fun a w S H => ?_
      refine x_then ?_
      have e : chs [xa, xb] (i + 1) = chs [xa, xb] i := by rw [chs, if_neg (by simp_all)]
      have H := pk [1] 2 H
      exact ⟨(i + 1), ⟨S.sub ⟨rfl, rfl, rfl, (by rw [e]; rfl), (by rw [e]; rfl), rfl, rfl, rfl, rfl, rfl, trivial⟩, (by rw [e]; exact H), (by omega : i + 1 ≤ 2)⟩, by show 2 - (i + 1) < 2 - i; omega⟩
  · skip
    refine wp_exit ?_
    refine x_thenExit ?_
    refine x_thenExit ?_
    refine x_blockHere ?_
    refine x_then ?_
    refine sr 6 S H t0 fun a w S H => ?_
    refine wp_ret ?_
    refine r_ret3 S H Tryz.results18 (ro_agg [_, _, _, _, _, _] (i := 0) S rfl (fun w => ⟨Tryz.isAgg27 w, Tryz.sizeOf27 w⟩) rfl rfl ⟨rfl, rfl, rfl, rfl, rfl, rfl, trivial⟩) (ro_tmp S rfl) (ro_tmp S rfl) ?_
    have hi : i = 2 := by omega
    subst hi
    rw [chs_2] at H ⊢
    exact ⟨rfl, H.drop⟩

end Go.Proofs.YtfndfpgmgnacgaaGreatDoor
namespace Go.Proofs.YtfndfpgmgnacgaaGreatDoor
open Go.RowKit Go.Cg
set_option linter.unusedVariables false
set_option linter.unusedSimpArgs false
set_option maxRecDepth 8000
set_option synthInstance.maxHeartbeats 1000000
set_option synthInstance.maxSize 1000000
open Go.Cg.Dk (By Nm)
open Go.Cg.Oc (Mf)
theorem read_ct (w : World) (fr : List Res) (db : Nat) (d : Dk.Disk) (n : Nm) (hcnt : d.files.length ≤ 4398046511104) (H : Sat w (diskR db d :: fr)) :
    Rt Tryz.prog 39 #[.pointer (some ⟨db, 0, none⟩), str (n)] w fun v w' => ∃ A c, v = .tuple #[.slice A (Cm.read n d).2.1.length c, .int .i64 (((Cm.read n d).2.2 : Nat) : Int)] ∧ Sat w' (diskR db (Cm.read n d).1 :: row 5 1 (.slice A (Cm.read n d).2.1.length c) (Cm.read n d).2.1.length (u8s (Cm.read n d).2.1) :: fr) := by
  refine en2 Tryz.func39 rfl Tryz.ntmps39 rfl fun a S => ?_
  have hdok := H.diskOk
  refine sr 2 S H t0 fun a w S H => ?_
  refine sr 8 S H (by omega) fun a w S H => ?_
  refine r_seq ?_
  obtain ⟨D1, k, e, hsz⟩ : ∃ D1 k e, d.size n = (D1, k, e) := ⟨_, _, _, rfl⟩
  have hD1 : D1.files.length = d.files.length := by have := Dk.len_size d n; rw [hsz] at this; exact this
  have hkl : k ≤ 17592186044416 := by have := Dk.size_le hdok n; rw [hsz] at this; exact this
  rw [hsz] at S H
  replace S := S.sub (E' := [(0, .pointer (some ⟨db, 0, none⟩)), (1, str (n)), (4, .slice none 0 0), (5, .int .i64 0), (6, .int .i64 ((k : Nat) : Int)), (7, .int .i64 ((e : Nat) : Int)), (8, .tuple #[.int .i64 ((k : Nat) : Int), .int .i64 ((e : Nat) : Int)]), (9, .pointer (some ⟨db, 0, none⟩)), (10, str (n)), (11, .tuple #[.int .i64 ((k : Nat) : Int), .int .i64 ((e : Nat) : Int)]), (12, .int .i64 ((k : Nat) : Int)), (13, .int .i64 ((e : Nat) : Int)), (23, undef)]) ⟨rfl, rfl, rfl, rfl, rfl, rfl, rfl, rfl, rfl, rfl, rfl, rfl, rfl, trivial⟩
  replace H : Sat _ (diskR db D1 :: fr) := H
  refine sr 2 S H t0 fun a w S H => ?_
  refine r_test S rfl (fun h15 => ?_) (fun h15 => ?_)
  · skip
    refine sr 3 S H t0 fun a w S H => ?_
    refine wp_ret ?_
    refine x_thenRet ?_
    refine r_ret2 S H Tryz.results39 (ro_tmp S rfl) (ro_tmp S rfl) ?_
    have e0 : Cm.read n d = (D1, [], e) := by unfold Cm.read; rw [hsz]; simp only; rw [if_pos (by omega)]
    rw [e0]
    refine ⟨none, 0, rfl, ?_⟩
    have H := H.nilRow 5 1
    exact pk [1, 0] 2 H
  · skip
    refine wp_skip ?_
    refine x_then ?_
    refine sb ?_
    refine rn 3 S H t0 fun a w S H => ?_
    refine r_call (args := #[.pointer (some ⟨db, 0, none⟩), str (n), .int .i64 0, .int .i64 ((k : Nat) : Int)]) S rfl rfl Tryz.call70 (readAt_ct (H := H) _ _ db D1 n (by omega) 0 ((k : Nat) : Int) ⟨by omega, by omega⟩ ⟨by omega, by omega⟩) rfl rfl rfl fun v a w hR S => ?_
    obtain ⟨A1, c2, rfl, H⟩ := hR
    refine rs 4 S H t0 fun a w S H => ?_
    refine wp_ret ?_
    refine r_ret2 S H Tryz.results39 (ro_tmp S rfl) (ro_tmp S rfl) ?_
    have e0 : Cm.read n d = D1.readAt n 0 k := by unfold Cm.read; rw [hsz]; simp only; rw [if_neg (by omega)]
    rw [e0]
    exact ⟨_, _, rfl, H⟩

end Go.Proofs.YtfndfpgmgnacgaaGreatDoor
namespace Go.Proofs.YtfndfpgmgnacgaaGreatDoor
open Go.RowKit Go.Cg
set_option linter.unusedVariables false
set_option linter.unusedSimpArgs false
set_option maxRecDepth 8000
set_option synthInstance.maxHeartbeats 1000000
set_option synthInstance.maxSize 1000000
open Go.Cg.Dk (By Nm)
open Go.Cg.Oc (Mf)
open Go.Shelf Go.Proofs
theorem itoaS_ct (w : World) (fr : List Res) (i : Nat) (hi : i < 100) (H : Sat w fr) : Rt Tryz.prog 40 #[.int .i64 ((i : Nat) : Int)] w fun v w' => v = str (Cm.itoa i) ∧ Sat w' fr := by
  have h : Calls Tryz.prog 40 #[.int .i64 ((i : Nat) : Int)] w _ := Any.strconv_Itoa_small { itoaA with } i hi w
  refine h.mono ?_
  rintro e w' ⟨rfl, rfl⟩
  exact ⟨_, rfl, by unfold Cm.itoa; rw [Go.Lib.itoa_nonneg], H⟩
theorem itoa_ct (w : World) (fr : List Res) (hT : ∀ w, Sat w fr → Go.Lib.TabIs Tryz.prog w "internal/strconv.uint64pow10" .u64 Go.Lib.pow10Tab) (x : Int) (h0 : -9223372036854775808 ≤ x) (h1 : x ≤ 9223372036854775807) (H : Sat w fr) : Rt Tryz.prog 40 #[.int .i64 x] w fun v w' => v = str (Go.Lib.itoa x) ∧ Sat w' fr := by
  have h : Calls Tryz.prog 40 #[.int .i64 x] w _ := Any.strconv_Itoa itoaA x h0 h1 w (hT w H)
  refine h.mono ?_
  rintro e w' ⟨rfl, k, os, rfl⟩
  exact ⟨_, rfl, rfl, H.grow ⟨rfl, rfl, rfl, by simp [Go.Sort.grow, World.drewN]⟩ fun k hk => by simp [Go.Sort.grow, World.drewN, Array.getElem?_append_left hk]⟩
theorem cut_ct (w : World) (fr : List Res) (s p : Nm) (H : Sat w fr) : Rt Tryz.prog 61 #[str s, str p] w fun v w' => v = .tuple #[str (Go.Lib.trimPrefix s p), .bool (Go.Lib.hasPrefix s p)] ∧ Sat w' fr := by
  have h : Calls Tryz.prog 61 #[str s, str p] w _ := Any.strings_CutPrefix cutA ⟨s.toArray⟩ ⟨p.toArray⟩ w
  refine h.mono ?_
  rintro e w' ⟨rfl, rfl⟩
  exact ⟨_, rfl, by simp, H⟩
theorem small_ct (w : World) (fr : List Res) (i : Nat) (hi : i < 100) (H : Sat w fr) : Rt Tryz.prog 87 #[.int .i64 ((i : Nat) : Int)] w fun v w' => v = str (Cm.itoa i) ∧ Sat w' fr := by
  have h : Calls Tryz.prog 87 #[.int .i64 ((i : Nat) : Int)] w _ := Any.internal_strconv_small (ρ := itoaA_ren) { itoaA with } i hi w
  refine h.mono ?_
  rintro e w' ⟨rfl, rfl⟩
  exact ⟨_, rfl, by unfold Cm.itoa; rw [Go.Lib.itoa_nonneg], H⟩
theorem fmtu_ct (w : World) (fr : List Res) (i : Nat) (hi : i < 100) (H : Sat w (fr)) :
    Rt Tryz.prog 60 #[.int .u64 ((i : Nat) : Int), .int .i64 10] w fun v w' => v = str (Cm.itoa i) ∧ Sat w' fr := by
  refine en2 Tryz.func60 rfl Tryz.ntmps60 rfl fun a S => ?_
  refine sr 1 S H t0 fun a w S H => ?_
  refine r_seq ?_
  refine sr 2 S H t0 fun a w S H => ?_
  have S := S.retell (v' := .bool true) 10 rfl rfl
  refine r_condT S rfl ?_
  refine r_seq ?_
  refine sr 2 S H t0 fun a w S H => ?_
  refine r_test S rfl (fun h12 => ?_) (fun h12 => ?_)
  · skip
    refine sb ?_
    refine rn 1 S H t0 fun a w S H => ?_
    refine r_y S H (y_conv S rfl rfl Tryz.underlying22 Tryz.underlying3 (wi64 (by omega) (by omega))) rfl rfl rfl fun a S => ?_
    have S := S.retell (v' := .int .i64 ((i : Nat) : Int)) 14 rfl rfl
    refine r_call (args := #[.int .i64 ((i : Nat) : Int)]) S rfl rfl Tryz.call87 (small_ct (H := H) _ _ i (by omega)) rfl rfl rfl fun v a w hR S => ?_
    obtain ⟨rfl, H⟩ := hR
    refine rs 1 S H t0 fun a w S H => ?_
    refine wp_ret ?_
    refine x_thenRet ?_
    refine x_thenRet ?_
    refine r_ret1 S H Tryz.results60 (ro_tmp S rfl) ?_
    exact ⟨rfl, H⟩
  · skip
    exfalso; omega

theorem fmtuint_ct (w : World) (fr : List Res) (i : Nat) (hi : i < 100) (H : Sat w (fr)) :
    Rt Tryz.prog 30 #[.int .u64 ((i : Nat) : Int), .int .i64 10] w fun v w' => v = str (Cm.itoa i) ∧ Sat w' fr := by
  refine en2 Tryz.func30 rfl Tryz.ntmps30 rfl fun a S => ?_
  refine sr 1 S H t0 fun a w S H => ?_
  refine sb ?_
  refine rn 2 S H t0 fun a w S H => ?_
  refine r_call (args := #[.int .u64 ((i : Nat) : Int), .int .i64 10]) S rfl rfl Tryz.call60 (fmtu_ct (H := H) _ _ i (by omega)) rfl rfl rfl fun v a w hR S => ?_
  obtain ⟨rfl, H⟩ := hR
  refine rs 1 S H t0 fun a w S H => ?_
  refine wp_ret ?_
  refine r_ret1 S H Tryz.results30 (ro_tmp S rfl) ?_
  exact ⟨rfl, H⟩

theorem slotN_eq (i : Nat) : ([115, 108, 111, 116, 46] : List UInt8) ++ Cm.itoa i = Cm.slotN i := rfl
theorem itoa_len {i : Nat} (h : i < 100) : (Cm.itoa i).length ≤ 2 := by
  unfold Cm.itoa; rw [Go.Lib.itoa_nonneg]
  unfold Go.Lib.decDigits; split
  · simp
  · rw [Go.Lib.decDigits, dif_pos (by omega)]; simp
theorem len_read (d : Dk.Disk) (n : Nm) : (Cm.read n d).1.files.length = d.files.length := by
  unfold Cm.read; simp only
  split
  · exact Dk.len_size d n
  · rw [Dk.len_readAt]; exact Dk.len_size d n
theorem read_le {d : Dk.Disk} (h : d.Ok) (n : Nm) : (Cm.read n d).2.1.length ≤ 17592186044416 := by
  unfold Cm.read; simp only
  split
  · simp
  · exact Dk.readAt_le _ _ _ _ (by have := Dk.size_le h n; omega)
def rds (d : Dk.Disk) : Nat → Dk.Disk × List By
  | 0 => (d, [])
  | i + 1 => ((Cm.read (Cm.slotN i) (rds d i).1).1, (rds d i).2 ++ [(Cm.read (Cm.slotN i) (rds d i).1).2.1])
def rerr (d : Dk.Disk) (i : Nat) : Nat := (Cm.read (Cm.slotN i) (rds d i).1).2.2
def Rds (d : Dk.Disk) (i : Nat) (l : List Sl) (D : Dk.Disk) (bs : List By) : Prop := rds d i = (D, bs) ∧ l.length = i ∧ bs.length = i ∧ D.files.length = d.files.length ∧ (∀ x ∈ bs, x.length ≤ 17592186044416) ∧ ∀ j, j < i → ¬ (rerr d j ≠ 0 ∧ rerr d j ≠ 4)
def arr2 (l : List Sl) : Array Value := (sls (l ++ List.replicate (2 - l.length) sl0)).toArray
theorem arr2_put {l : List Sl} {i : Nat} (hl : l.length = i) (h : i < 2) (s : Sl) : putAt (arr2 l) i [slv s] = arr2 (l ++ [s]) := by
  subst hl
  match l, h with
  | [], _ => rfl
  | [x], _ => rfl
theorem arr2_fit {l : List Sl} {i : Nat} (hl : l.length = i) (h : i < 2) : Nat.ble (i + 1) (arr2 l).size = true := by
  subst hl
  match l, h with
  | [], _ => rfl
  | [x], _ => rfl
theorem load_stop {d : Dk.Disk} {i : Nat} {l : List Sl} {D : Dk.Disk} {bs : List By} (h : Rds d i l D bs) (hi : i < 2) (he : (Cm.read (Cm.slotN i) D).2.2 ≠ 0 ∧ (Cm.read (Cm.slotN i) D).2.2 ≠ 4) : Cm.load d = ((Cm.read (Cm.slotN i) D).1, Oc.mf0, false, (Cm.read (Cm.slotN i) D).2.2) := by
  obtain ⟨h1, _, _, _, _, h6⟩ := h
  match i, hi with
  | 0, _ =>
    cases h1
    unfold Cm.load; simp only; rw [if_pos he]
  | 1, _ =>
    have h0 : ¬ ((Cm.read (Cm.slotN 0) d).2.2 ≠ 0 ∧ (Cm.read (Cm.slotN 0) d).2.2 ≠ 4) := h6 0 (by omega)
    have e : D = (Cm.read (Cm.slotN 0) d).1 := by have := congrArg Prod.fst h1; exact this.symm
    subst e
    unfold Cm.load; simp only; rw [if_neg h0, if_pos he]
theorem load_end {d : Dk.Disk} {l : List Sl} {D : Dk.Disk} {bs : List By} (h : Rds d 2 l D bs) : ∃ x y : By, bs = [x, y] ∧ Cm.load d = (D, (Oc.choose x y).1, (Oc.choose x y).2.2, 0) := by
  obtain ⟨h1, _, _, _, _, h6⟩ := h
  have h0 : ¬ ((Cm.read (Cm.slotN 0) d).2.2 ≠ 0 ∧ (Cm.read (Cm.slotN 0) d).2.2 ≠ 4) := h6 0 (by omega)
  have h2 : ¬ ((Cm.read (Cm.slotN 1) (Cm.read (Cm.slotN 0) d).1).2.2 ≠ 0 ∧ (Cm.read (Cm.slotN 1) (Cm.read (Cm.slotN 0) d).1).2.2 ≠ 4) := h6 1 (by omega)
  cases h1
  refine ⟨(Cm.read (Cm.slotN 0) d).2.1, (Cm.read (Cm.slotN 1) (Cm.read (Cm.slotN 0) d).1).2.1, rfl, ?_⟩
  unfold Cm.load; simp only
  rw [if_neg h0, if_neg h2]; rfl
end Go.Proofs.YtfndfpgmgnacgaaGreatDoor
namespace Go.Proofs.YtfndfpgmgnacgaaGreatDoor
open Go.RowKit Go.Cg
set_option linter.unusedVariables false
set_option linter.unusedSimpArgs false
set_option maxRecDepth 8000
set_option synthInstance.maxHeartbeats 1000000
set_option synthInstance.maxSize 1000000
open Go.Cg.Dk (By Nm)
open Go.Cg.Oc (Mf)
theorem load_ct (w : World) (fr : List Res) (db : Nat) (d : Dk.Disk) (hcnt : d.files.length ≤ 4398046511104) (H : Sat w (diskR db d :: fr)) :
    Rt Tryz.prog 17 #[.pointer (some ⟨db, 0, none⟩)] w fun v w' => v = .tuple #[.agg #[.int .u64 (((Cm.load d).2.1.seq : Nat) : Int), .int .i64 ((Cm.load d).2.1.n), .int .i64 ((Cm.load d).2.1.shards), .int .i64 ((Cm.load d).2.1.step), .int .i64 ((Cm.load d).2.1.kind), .int .u32 (((Cm.load d).2.1.start : Nat) : Int)], .bool (Cm.load d).2.2.1, .int .i64 (((Cm.load d).2.2.2 : Nat) : Int)] ∧ Sat w' (diskR db (Cm.load d).1 :: fr) := by
  refine en1 Tryz.func17 rfl Tryz.ntmps17 rfl fun a S => ?_
  refine sb ?_
  refine r_alloc S H rfl Tryz.zeroValue27 rfl rfl rfl rfl fun a w b1 S H => ?_
  replace H : Sat _ (blk b1 (.cells #[.int .u64 0, .int .i64 0, .int .i64 0, .int .i64 0, .int .i64 0, .int .u32 0] 27) :: diskR db d :: fr) := H
  refine rs 2 S H t0 fun a w S H => ?_
  refine sb ?_
  refine r_alloc S H rfl Tryz.zeroValue94 rfl rfl rfl rfl fun a w b2 S H => ?_
  replace H : Sat _ (blk b2 (.cells #[.slice none 0 0, .slice none 0 0] 94) :: blk b1 (.cells #[.int .u64 0, .int .i64 0, .int .i64 0, .int .i64 0, .int .i64 0, .int .u32 0] 27) :: diskR db d :: fr) := H
  refine sn ?_
  refine r_seq ?_
  refine sr 1 S H t0 fun a w S H => ?_
  refine r_block ?_
  have H := H.noBlks
  refine r_loop (ι := Nat × List Sl × Dk.Disk × List By × Nat) (fun ⟨i, l, D, bs, ee⟩ a w => Slots a 40 [(0, .pointer (some ⟨db, 0, none⟩)), (2, .pointer (some ⟨b1, 0, none⟩)), (4, .int .i64 ((ee : Nat) : Int)), (5, .pointer (some ⟨b2, 0, none⟩)), (7, .int .i64 ((i : Nat) : Int)), (40, undef)] ∧ Sat w (blk b2 (.cells (arr2 l) 94) :: blk b1 (.cells #[.int .u64 0, .int .i64 0, .int .i64 0, .int .i64 0, .int .i64 0, .int .u32 0] 27) :: diskR db D :: blksR l bs :: fr) ∧ (i ≤ 2 ∧ Rds d i l D bs)) (fun ⟨i, l, D, bs, ee⟩ => 2 - i) (0, [], d, [], 0) ⟨S.sub ⟨rfl, rfl, rfl, rfl, rfl, rfl, trivial⟩, pk [1, 2, 3, 0] 4 H, ⟨by omega, rfl, rfl, rfl, rfl, fun x hx => (List.not_mem_nil hx).elim, fun j hj => absurd hj (Nat.not_lt_zero _)⟩⟩ (fun ⟨i, l, D, bs, ee⟩ a w hI => ?_)
  obtain ⟨S, H, hI⟩ := hI
  obtain ⟨hi2, hR⟩ := hI
  have hDl := hR.2.2.2.1
  refine sr 1 S H t0 fun a w S H => ?_
  refine r_seq ?_
  refine r_test S rfl (fun h8 => ?_) (fun h8 => ?_)
  · skip
    refine wp_skip ?_
    refine x_then ?_
    refine r_seq ?_
    refine r_block ?_
    refine sr 2 S H t0 fun a w S H => ?_
    have hDok := ((pk [2, 0, 1, 3] 4 H)).diskOk
    have hil := itoa_len (i := i) (by omega)
    refine sb ?_
    refine rn 3 S H t0 fun a w S H => ?_
    refine r_call (args := #[.int .i64 ((i : Nat) : Int)]) S rfl rfl Tryz.call40 (itoaS_ct (H := H) _ _ i (by omega)) rfl rfl rfl fun v a w hR S => ?_
    obtain ⟨rfl, H⟩ := hR
    refine r_y S H (y_addS S rfl rfl rfl (by simp; omega)) rfl rfl rfl fun a S => ?_
    have S := S.retell (v' := str (Cm.slotN i)) 15 rfl rfl
    refine r_call (args := #[.pointer (some ⟨db, 0, none⟩), str (Cm.slotN i)]) S rfl rfl Tryz.call39 (read_ct (H := (pk [2, 0, 1, 3] 4 H)) _ _ db D (Cm.slotN i) (by omega)) rfl rfl rfl fun v a w hR S => ?_
    obtain ⟨A5, c6, rfl, H⟩ := hR
    refine rn 3 S H t0 fun a w S H => ?_
    refine r_y S H (y_idxArr S rfl rfl rfl Tryz.underlying94 Tryz.sizeOf41 (by omega) (by omega)) rfl rfl rfl fun a S => ?_
    have S := S.retell (v' := .pointer (some ⟨b2, i, none⟩)) 19 rfl (by simp)
    refine r_store (c' := arr2 (l ++ [(A5, (Cm.read (Cm.slotN i) D).2.1.length, c6)])) (L' := diskR db (Cm.read (Cm.slotN i) D).1 :: row 5 1 (.slice A5 ((Cm.read (Cm.slotN i) D).2.1.length) c6) ((Cm.read (Cm.slotN i) D).2.1.length) (u8s ((Cm.read (Cm.slotN i) D).2.1)) :: blk b2 (.cells (arr2 (l ++ [(A5, (Cm.read (Cm.slotN i) D).2.1.length, c6)])) 94) :: blk b1 (.cells #[.int .u64 0, .int .i64 0, .int .i64 0, .int .i64 0, .int .i64 0, .int .u32 0] 27) :: blksR l bs :: fr) 2 S H rfl rfl rfl rfl Tryz.sizeOf41 rfl rfl (fun u hu => by rw [List.mem_singleton.1 hu]; rfl) (arr2_fit hR.2.1 (by omega)) (show putAt (arr2 l) i [slv (A5, (Cm.read (Cm.slotN i) D).2.1.length, c6)] = _ from arr2_put hR.2.1 (by omega) _) rfl rfl rfl fun w H => ?_
    refine rs 1 S H t0 fun a w S H => ?_
    refine sb ?_
    refine rn 3 S H t0 fun a w S H => ?_
    refine scA 1 S H (fun _ => t0) fun a w S H => ?_
    refine sn ?_
    refine r_cond S rfl (fun h25 => ?_) (fun h25 => ?_)
    · skip
      have hbad : (Cm.read (Cm.slotN i) D).2.2 ≠ 0 ∧ (Cm.read (Cm.slotN i) D).2.2 ≠ 4 := by simp at h25; omega
      refine sr 5 S H t0 fun a w S H => ?_
      refine wp_ret ?_
      refine x_blockRet ?_
      refine x_thenRet ?_
      refine x_thenRet ?_
      refine x_blockRet ?_
      refine x_thenRet ?_
      refine r_ret3 S H Tryz.results17 (ro_agg [_, _, _, _, _, _] (i := 3) S rfl (fun w => ⟨Tryz.isAgg27 w, Tryz.sizeOf27 w⟩) rfl rfl ⟨rfl, rfl, rfl, rfl, rfl, rfl, trivial⟩) (ro_tmp S rfl) (ro_tmp S rfl) ?_
      have e := load_stop hR (by omega) hbad
      rw [e]
      exact ⟨rfl, pk [0] 5 H⟩
    · skip
      have hgood : ¬ ((Cm.read (Cm.slotN i) D).2.2 ≠ 0 ∧ (Cm.read (Cm.slotN i) D).2.2 ≠ 4) := by simp at h25; omega
      refine wp_skip ?_
      refine x_blockEnd ?_
      refine x_then ?_
      refine er 2 S H (by omega) fun a w S H => ?_
      refine x_then ?_
      have H := Sat.blkIn (pk [1, 4, 2, 3, 0] 5 H)
      have H := pk [1, 2, 3, 0] 4 H
      have hR2 := hR
      obtain ⟨r1, r2, r3, r4, r5, r6⟩ := hR2
      exact ⟨(i + 1, l ++ [(A5, (Cm.read (Cm.slotN i) D).2.1.length, c6)], (Cm.read (Cm.slotN i) D).1, bs ++ [(Cm.read (Cm.slotN i) D).2.1], (Cm.read (Cm.slotN i) D).2.2), ⟨S.sub ⟨rfl, rfl, rfl, rfl, rfl, rfl, trivial⟩, H, ⟨by omega, by rw [rds, r1], by simp [r2], by simp [r3], by rw [len_read]; exact r4, fun x hx => by rcases List.mem_append.1 hx with h | h; (exact r5 x h); (rw [List.mem_singleton.1 h]; exact read_le hDok _), fun j hj => by rcases Nat.lt_or_ge j i with h | h; (exact r6 j h); (obtain rfl : j = i := by omega); (unfold rerr; rw [r1]; exact hgood)⟩⟩, by show 2 - (i + 1) < 2 - i; omega⟩
  · skip
    refine wp_exit ?_
    refine x_thenExit ?_
    refine x_thenExit ?_
    refine x_blockHere ?_
    refine x_then ?_
    have hie : i = 2 := by omega
    subst hie
    obtain ⟨x, y, hxy, hload⟩ := load_end hR
    subst hxy
    have hl2 : l.length = 2 := hR.2.1
    obtain ⟨s0, s1, rfl⟩ : ∃ s0 s1, l = [s0, s1] := by match l, hl2 with | [a, b], _ => exact ⟨a, b, rfl⟩
    have hxl := hR.2.2.2.2.1 x (by simp)
    have hyl := hR.2.2.2.2.1 y (by simp)
    replace H : Sat _ (blk b2 (.cells #[.slice s0.1 s0.2.1 s0.2.2, .slice s1.1 s1.2.1 s1.2.2] 94) :: blk b1 (.cells #[.int .u64 0, .int .i64 0, .int .i64 0, .int .i64 0, .int .i64 0, .int .u32 0] 27) :: diskR db D :: blksR [s0, s1] [x, y] :: fr) := H
    have hso := SlsOk.ofBlks (pk [3, 0, 1, 2] 4 H)
    have ok0 : SlOk (blk b2 (.cells #[.slice s0.1 s0.2.1 s0.2.2, .slice s1.1 s1.2.1 s1.2.2] 94) :: blk b1 (.cells #[.int .u64 0, .int .i64 0, .int .i64 0, .int .i64 0, .int .i64 0, .int .u32 0] 27) :: diskR db D :: blksR [s0, s1] [x, y] :: fr) 1 s0.1 s0.2.1 s0.2.2 (u8s x) := (hso.ok 0 (by simp)).via (fun _ H => pk [3, 0, 1, 2] 4 H)
    have ok1 : SlOk (blk b2 (.cells #[.slice s0.1 s0.2.1 s0.2.2, .slice s1.1 s1.2.1 s1.2.2] 94) :: blk b1 (.cells #[.int .u64 0, .int .i64 0, .int .i64 0, .int .i64 0, .int .i64 0, .int .u32 0] 27) :: diskR db D :: blksR [s0, s1] [x, y] :: fr) 1 s1.1 s1.2.1 s1.2.2 (u8s y) := (hso.ok 1 (by simp)).via (fun _ H => pk [3, 0, 1, 2] 4 H)
    refine sb ?_
    refine r_y S H (y_idxArr S rfl rfl rfl Tryz.underlying94 Tryz.sizeOf41 (by omega) (by omega)) rfl rfl rfl fun a S => ?_
    have S := S.retell (v' := .pointer (some ⟨b2, 0, none⟩)) 30 rfl rfl
    refine rn 1 S H t0 fun a w S H => ?_
    refine r_y S H (y_idxArr S rfl rfl rfl Tryz.underlying94 Tryz.sizeOf41 (by omega) (by omega)) rfl rfl rfl fun a S => ?_
    have S := S.retell (v' := .pointer (some ⟨b2, 1, none⟩)) 32 rfl rfl
    refine rn 1 S H t0 fun a w S H => ?_
    refine r_call (args := #[.slice s0.1 s0.2.1 s0.2.2, .slice s1.1 s1.2.1 s1.2.2]) S rfl rfl Tryz.call18 (mchoose_ct (H := H) _ _ _ _ _ x ok0 _ _ _ y ok1 hxl hyl) rfl rfl rfl fun v a w hR S => ?_
    obtain ⟨rfl, H⟩ := hR
    refine rs 6 S H t0 fun a w S H => ?_
    refine sr 5 S H t0 fun a w S H => ?_
    refine wp_ret ?_
    refine r_ret3 S H Tryz.results17 (ro_agg [_, _, _, _, _, _] (i := 1) S rfl (fun w => ⟨Tryz.isAgg27 w, Tryz.sizeOf27 w⟩) rfl rfl ⟨rfl, rfl, rfl, rfl, rfl, rfl, trivial⟩) (ro_tmp S rfl) (ro_tmp S rfl) ?_
    rw [hload]
    exact ⟨rfl, pk [2] 4 H⟩

end Go.Proofs.YtfndfpgmgnacgaaGreatDoor
namespace Go.Proofs.YtfndfpgmgnacgaaGreatDoor
open Go.RowKit Go.Cg
set_option linter.unusedVariables false
set_option linter.unusedSimpArgs false
set_option maxRecDepth 8000
set_option synthInstance.maxHeartbeats 1000000
set_option synthInstance.maxSize 1000000
open Go.Cg.Dk (By Nm)
open Go.Cg.Oc (Mf)
theorem pc1_ct (w : World) (fr : List Res) (db p4 p9 : Nat) (d : Dk.Disk) (tmp : Nm) (hcnt : d.files.length ≤ 4398046511104) (H : Sat w (blk p4 (.cells #[.pointer (some ⟨db, 0, none⟩)] 30) :: blk p9 (.cells #[str (tmp)] 9) :: diskR db d :: fr)) :
    Rt Tryz.prog 54 #[.pointer (some ⟨p4, 0, none⟩), .pointer (some ⟨p9, 0, none⟩)] w fun v w' => v = .int .i64 (((Dk.Disk.create tmp d).2 : Nat) : Int) ∧ Sat w' (blk p4 (.cells #[.pointer (some ⟨db, 0, none⟩)] 30) :: blk p9 (.cells #[str (tmp)] 9) :: diskR db (Dk.Disk.create tmp d).1 :: fr) := by
  refine en2 Tryz.func54 rfl Tryz.ntmps54 rfl fun a S => ?_
  refine sr 1 S H t0 fun a w S H => ?_
  refine sr 4 S H (by omega) fun a w S H => ?_
  refine wp_ret ?_
  refine r_ret1 S H Tryz.results54 (ro_tmp S rfl) ?_
  exact ⟨rfl, H⟩

theorem pc3_ct (w : World) (fr : List Res) (db p4 p9 : Nat) (d : Dk.Disk) (tmp : Nm) (hcnt : d.files.length ≤ 4398046511104) (H : Sat w (blk p4 (.cells #[.pointer (some ⟨db, 0, none⟩)] 30) :: blk p9 (.cells #[str (tmp)] 9) :: diskR db d :: fr)) :
    Rt Tryz.prog 56 #[.pointer (some ⟨p4, 0, none⟩), .pointer (some ⟨p9, 0, none⟩)] w fun v w' => v = .int .i64 (((Dk.Disk.sync tmp d).2 : Nat) : Int) ∧ Sat w' (blk p4 (.cells #[.pointer (some ⟨db, 0, none⟩)] 30) :: blk p9 (.cells #[str (tmp)] 9) :: diskR db (Dk.Disk.sync tmp d).1 :: fr) := by
  refine en2 Tryz.func56 rfl Tryz.ntmps56 rfl fun a S => ?_
  refine sr 1 S H t0 fun a w S H => ?_
  refine sr 4 S H (by omega) fun a w S H => ?_
  refine wp_ret ?_
  refine r_ret1 S H Tryz.results56 (ro_tmp S rfl) ?_
  exact ⟨rfl, H⟩

theorem pc2_ct (w : World) (fr : List Res) (db p4 p9 : Nat) (d : Dk.Disk) (tmp : Nm) (hcnt : d.files.length ≤ 4398046511104) (p7 : Nat) (A : Option Addr) (c : Nat) (xb : By) (ok : SlOk fr 1 A xb.length c (u8s xb)) (hbl : xb.length ≤ 17592186044416) (H : Sat w (blk p4 (.cells #[.pointer (some ⟨db, 0, none⟩)] 30) :: blk p9 (.cells #[str (tmp)] 9) :: blk p7 (.cells #[.slice A xb.length c] 41) :: diskR db d :: fr)) :
    Rt Tryz.prog 55 #[.pointer (some ⟨p4, 0, none⟩), .pointer (some ⟨p9, 0, none⟩), .pointer (some ⟨p7, 0, none⟩)] w fun v w' => v = .int .i64 (((Dk.Disk.append tmp xb d).2 : Nat) : Int) ∧ Sat w' (blk p4 (.cells #[.pointer (some ⟨db, 0, none⟩)] 30) :: blk p9 (.cells #[str (tmp)] 9) :: blk p7 (.cells #[.slice A xb.length c] 41) :: diskR db (Dk.Disk.append tmp xb d).1 :: fr) := by
  refine en3 Tryz.func55 rfl Tryz.ntmps55 rfl fun a S => ?_
  refine sr 1 S H t0 fun a w S H => ?_
  refine sb ?_
  refine rn 3 S H t0 fun a w S H => ?_
  refine r_call (args := #[.pointer (some ⟨db, 0, none⟩), str (tmp), .slice A xb.length c]) S rfl rfl Tryz.call16 (append_ct (H := (pk [3, 0, 1, 2] 4 H)) _ _ db d tmp (by omega) _ _ xb (((ok.more _).more _).more _) (by omega)) rfl rfl rfl fun v a w hR S => ?_
  obtain ⟨rfl, H⟩ := hR
  refine rs 1 S H t0 fun a w S H => ?_
  refine wp_ret ?_
  refine r_ret1 S H Tryz.results55 (ro_tmp S rfl) ?_
  exact ⟨rfl, pk [1, 2, 3, 0] 4 H⟩

theorem pc4_ct (w : World) (fr : List Res) (db p4 p9 : Nat) (d : Dk.Disk) (tmp : Nm) (hcnt : d.files.length ≤ 4398046511104) (p5 p6 : Nat) (kind name : Nm) (hk : kind.length ≤ 1000) (hnm : name.length ≤ 1000) (H : Sat w (blk p4 (.cells #[.pointer (some ⟨db, 0, none⟩)] 30) :: blk p9 (.cells #[str (tmp)] 9) :: blk p5 (.cells #[str (kind)] 9) :: blk p6 (.cells #[str (name)] 9) :: diskR db d :: fr)) :
    Rt Tryz.prog 58 #[.pointer (some ⟨p4, 0, none⟩), .pointer (some ⟨p9, 0, none⟩), .pointer (some ⟨p5, 0, none⟩), .pointer (some ⟨p6, 0, none⟩)] w fun v w' => v = .int .i64 (((Dk.Disk.rename tmp (kind ++ name) d).2 : Nat) : Int) ∧ Sat w' (blk p4 (.cells #[.pointer (some ⟨db, 0, none⟩)] 30) :: blk p9 (.cells #[str (tmp)] 9) :: blk p5 (.cells #[str (kind)] 9) :: blk p6 (.cells #[str (name)] 9) :: diskR db (Dk.Disk.rename tmp (kind ++ name) d).1 :: fr) := by
  refine en4 Tryz.func58 rfl Tryz.ntmps58 rfl fun a S => ?_
  refine sr 1 S H t0 fun a w S H => ?_
  refine sr 7 S H (by omega) fun a w S H => ?_
  refine wp_ret ?_
  refine r_ret1 S H Tryz.results58 (ro_tmp S rfl) ?_
  exact ⟨rfl, H⟩

end Go.Proofs.YtfndfpgmgnacgaaGreatDoor
namespace Go.Proofs.YtfndfpgmgnacgaaGreatDoor
open Go.RowKit Go.Cg
set_option linter.unusedVariables false
set_option linter.unusedSimpArgs false
set_option maxRecDepth 8000
set_option synthInstance.maxHeartbeats 1000000
set_option synthInstance.maxSize 1000000
theorem el114 : Elem Tryz.prog 114 88 1 8 (.nilFunc) := ⟨Tryz.underlying114, by kernel_rfl, rfl, by decide⟩
open Go.Cg.Dk (By Nm)
open Go.Cg.Oc (Mf)
def pfs (kind name tmp : Nm) (xb : By) : List (Dk.Disk → Dk.Disk × Nat) := [Dk.Disk.create tmp, Dk.Disk.append tmp xb, Dk.Disk.sync tmp, Dk.Disk.rename tmp (kind ++ name)]
theorem put_eq (kind name : Nm) (xb : By) (d : Dk.Disk) (h : ¬ ((d.remove (kind ++ Cm.nNew)).2 ≠ 0 ∧ (d.remove (kind ++ Cm.nNew)).2 ≠ 4)) : Cm.put kind name xb d = Cm.tries (kind ++ Cm.nNew) ((pfs kind name (kind ++ Cm.nNew) xb).drop 0) (d.remove (kind ++ Cm.nNew)).1 := by
  unfold Cm.put; simp only; rw [if_neg h]; rfl
theorem put_no (kind name : Nm) (xb : By) (d : Dk.Disk) (h : (d.remove (kind ++ Cm.nNew)).2 ≠ 0 ∧ (d.remove (kind ++ Cm.nNew)).2 ≠ 4) : Cm.put kind name xb d = d.remove (kind ++ Cm.nNew) := by
  unfold Cm.put; simp only; rw [if_pos h]
theorem put_c_ct (w : World) (fr : List Res) (db : Nat) (d : Dk.Disk) (kind name : Nm) (A : Option Addr) (c : Nat) (xb : By) (ok : SlOk fr 1 A xb.length c (u8s xb)) (hbl : xb.length ≤ 17592186044416) (hk : kind.length ≤ 1000) (hnm : name.length ≤ 1000) (hcnt : d.files.length ≤ 4398046511102) (H : Sat w (diskR db d :: fr)) :
    Rt Tryz.prog 29 #[.pointer (some ⟨db, 0, none⟩), str (kind), str (name), .slice A xb.length c] w fun v w' => v = .int .i64 (((Cm.put kind name xb d).2 : Nat) : Int) ∧ Sat w' (diskR db (Cm.put kind name xb d).1 :: fr) := by
  refine en4 Tryz.func29 rfl Tryz.ntmps29 rfl fun a S => ?_
  refine sb ?_
  refine r_box (c := #[.pointer (some ⟨db, 0, none⟩)]) S H rfl rfl rfl rfl rfl rfl fun a w b1 S H => ?_
  refine r_box (c := #[str (kind)]) S H rfl rfl rfl rfl rfl rfl fun a w b2 S H => ?_
  refine r_box (c := #[str (name)]) S H rfl rfl rfl rfl rfl rfl fun a w b3 S H => ?_
  refine r_box (c := #[.slice A xb.length c]) S H rfl rfl rfl rfl rfl rfl fun a w b4 S H => ?_
  refine rs 1 S H t0 fun a w S H => ?_
  refine sb ?_
  refine rn 1 S H t0 fun a w S H => ?_
  refine r_y S H (y_addS S rfl rfl rfl (by simp; omega)) rfl rfl rfl fun a S => ?_
  have S := S.retell (v' := str (kind ++ Cm.nNew)) 15 rfl rfl
  refine r_alloc S H rfl Tryz.zeroValue9 rfl rfl rfl rfl fun a w b5 S H => ?_
  replace H : Sat _ (blk b5 (.cells #[.string ByteArray.empty] 9) :: blk b4 (.cells #[.slice A xb.length c] 41) :: blk b3 (.cells #[str (name)] 9) :: blk b2 (.cells #[str (kind)] 9) :: blk b1 (.cells #[.pointer (some ⟨db, 0, none⟩)] 30) :: diskR db d :: fr) := H
  refine rs 1 S H t0 fun a w S H => ?_
  refine r_seq ?_
  refine sr 4 S H (by omega) fun a w S H => ?_
  refine sb ?_
  refine rn 3 S H t0 fun a w S H => ?_
  refine scA 1 S H (fun _ => t0) fun a w S H => ?_
  refine sn ?_
  refine r_cond S rfl (fun h24 => ?_) (fun h24 => ?_)
  · skip
    have hbad : (Dk.Disk.remove (kind ++ Cm.nNew) d).2 ≠ 0 ∧ (Dk.Disk.remove (kind ++ Cm.nNew) d).2 ≠ 4 := by simp at h24; omega
    refine sr 2 S H t0 fun a w S H => ?_
    refine wp_ret ?_
    refine x_thenRet ?_
    refine r_ret1 S H Tryz.results29 (ro_tmp S rfl) ?_
    rw [put_no kind name xb d hbad]
    exact ⟨rfl, pk [5] 6 H⟩
  · skip
    have hgood : ¬ ((Dk.Disk.remove (kind ++ Cm.nNew) d).2 ≠ 0 ∧ (Dk.Disk.remove (kind ++ Cm.nNew) d).2 ≠ 4) := by simp at h24; omega
    refine wp_skip ?_
    refine x_then ?_
    refine r_seq ?_
    refine sb ?_
    refine r_y S H (y_makeFunc (vs := #[.pointer (some ⟨b1, 0, none⟩), .pointer (some ⟨b5, 0, none⟩)]) S rfl rfl) rfl rfl rfl fun a S => ?_
    refine r_y S H (y_makeFunc (vs := #[.pointer (some ⟨b1, 0, none⟩), .pointer (some ⟨b5, 0, none⟩), .pointer (some ⟨b4, 0, none⟩)]) S rfl rfl) rfl rfl rfl fun a S => ?_
    refine r_y S H (y_makeFunc (vs := #[.pointer (some ⟨b1, 0, none⟩), .pointer (some ⟨b5, 0, none⟩)]) S rfl rfl) rfl rfl rfl fun a S => ?_
    refine r_y S H (y_makeFunc (vs := #[.pointer (some ⟨b1, 0, none⟩), .pointer (some ⟨b5, 0, none⟩), .pointer (some ⟨b2, 0, none⟩), .pointer (some ⟨b3, 0, none⟩)]) S rfl rfl) rfl rfl rfl fun a S => ?_
    refine r_lit (vs := #[(0, .func (.func 54) #[] #[.pointer (some ⟨b1, 0, none⟩), .pointer (some ⟨b5, 0, none⟩)]), (1, .func (.func 55) #[] #[.pointer (some ⟨b1, 0, none⟩), .pointer (some ⟨b5, 0, none⟩), .pointer (some ⟨b4, 0, none⟩)]), (2, .func (.func 56) #[] #[.pointer (some ⟨b1, 0, none⟩), .pointer (some ⟨b5, 0, none⟩)]), (3, .func (.func 58) #[] #[.pointer (some ⟨b1, 0, none⟩), .pointer (some ⟨b5, 0, none⟩), .pointer (some ⟨b2, 0, none⟩), .pointer (some ⟨b3, 0, none⟩)])]) (cs := fnv [.func (.func 54) #[] #[.pointer (some ⟨b1, 0, none⟩), .pointer (some ⟨b5, 0, none⟩)], .func (.func 55) #[] #[.pointer (some ⟨b1, 0, none⟩), .pointer (some ⟨b5, 0, none⟩), .pointer (some ⟨b4, 0, none⟩)], .func (.func 56) #[] #[.pointer (some ⟨b1, 0, none⟩), .pointer (some ⟨b5, 0, none⟩)], .func (.func 58) #[] #[.pointer (some ⟨b1, 0, none⟩), .pointer (some ⟨b5, 0, none⟩), .pointer (some ⟨b2, 0, none⟩), .pointer (some ⟨b3, 0, none⟩)]]) S H rfl rfl el114 (by kernel_rfl) (by decide) (by rfl) rfl rfl rfl fun a w b6 S H => ?_
    refine rs 2 S H t0 fun a w S H => ?_
    refine r_block ?_
    refine r_loop (ι := Nat × Dk.Disk) (fun ⟨i, D⟩ a w => Slots a 45 [(0, .pointer (some ⟨db, 0, none⟩)), (1, str (kind)), (2, str (name)), (3, .slice A xb.length c), (4, .pointer (some ⟨b1, 0, none⟩)), (5, .pointer (some ⟨b2, 0, none⟩)), (6, .pointer (some ⟨b3, 0, none⟩)), (7, .pointer (some ⟨b4, 0, none⟩)), (9, .pointer (some ⟨b5, 0, none⟩)), (10, .int .i64 (((Dk.Disk.remove (kind ++ Cm.nNew) d).2 : Nat) : Int)), (14, str (kind)), (15, str (kind ++ Cm.nNew)), (16, .pointer (some ⟨db, 0, none⟩)), (17, str (kind ++ Cm.nNew)), (18, .int .i64 (((Dk.Disk.remove (kind ++ Cm.nNew) d).2 : Nat) : Int)), (19, .int .i64 (((Dk.Disk.remove (kind ++ Cm.nNew) d).2 : Nat) : Int)), (20, .bool (decide ((((Dk.Disk.remove (kind ++ Cm.nNew) d).2 : Nat) : Int) ≠ 0))), (21, .bool (decide ((((Dk.Disk.remove (kind ++ Cm.nNew) d).2 : Nat) : Int) ≠ 0))), (24, .bool ((decide ((((Dk.Disk.remove (kind ++ Cm.nNew) d).2 : Nat) : Int) ≠ 0)) && (decide ((((Dk.Disk.remove (kind ++ Cm.nNew) d).2 : Nat) : Int) ≠ 4)))), (26, .func (.func 54) #[] #[.pointer (some ⟨b1, 0, none⟩), .pointer (some ⟨b5, 0, none⟩)]), (27, .func (.func 55) #[] #[.pointer (some ⟨b1, 0, none⟩), .pointer (some ⟨b5, 0, none⟩), .pointer (some ⟨b4, 0, none⟩)]), (28, .func (.func 56) #[] #[.pointer (some ⟨b1, 0, none⟩), .pointer (some ⟨b5, 0, none⟩)]), (29, .func (.func 58) #[] #[.pointer (some ⟨b1, 0, none⟩), .pointer (some ⟨b5, 0, none⟩), .pointer (some ⟨b2, 0, none⟩), .pointer (some ⟨b3, 0, none⟩)]), (30, .slice (some ⟨b6, 0, none⟩) 4 4), (31, .int .i64 4), (32, .int .i64 ((i : Nat) : Int)), (45, undef)] ∧ Sat w (row 88 1 (.slice (some ⟨b6, 0, none⟩) 4 4) 4 (fnv [.func (.func 54) #[] #[.pointer (some ⟨b1, 0, none⟩), .pointer (some ⟨b5, 0, none⟩)], .func (.func 55) #[] #[.pointer (some ⟨b1, 0, none⟩), .pointer (some ⟨b5, 0, none⟩), .pointer (some ⟨b4, 0, none⟩)], .func (.func 56) #[] #[.pointer (some ⟨b1, 0, none⟩), .pointer (some ⟨b5, 0, none⟩)], .func (.func 58) #[] #[.pointer (some ⟨b1, 0, none⟩), .pointer (some ⟨b5, 0, none⟩), .pointer (some ⟨b2, 0, none⟩), .pointer (some ⟨b3, 0, none⟩)]]) :: blk b5 (.cells #[str (kind ++ Cm.nNew)] 9) :: blk b4 (.cells #[.slice A xb.length c] 41) :: blk b3 (.cells #[str (name)] 9) :: blk b2 (.cells #[str (kind)] 9) :: blk b1 (.cells #[.pointer (some ⟨db, 0, none⟩)] 30) :: diskR db D :: fr) ∧ (i ≤ 4 ∧ Cm.put kind name xb d = Cm.tries (kind ++ Cm.nNew) ((pfs kind name (kind ++ Cm.nNew) xb).drop i) D ∧ D.files.length ≤ d.files.length + (if i = 0 then 0 else 1))) (fun ⟨i, D⟩ => 4 - i) (0, (Dk.Disk.remove (kind ++ Cm.nNew) d).1) ⟨S.sub ⟨rfl, rfl, rfl, rfl, rfl, rfl, rfl, rfl, rfl, rfl, rfl, rfl, rfl, rfl, rfl, rfl, rfl, rfl, rfl, rfl, rfl, rfl, rfl, rfl, rfl, rfl, rfl, trivial⟩, H, ⟨by omega, put_eq kind name xb d hgood, by have := Dk.len_remove d (kind ++ Cm.nNew); simpa using this⟩⟩ (fun ⟨i, D⟩ a w hI => ?_)
    obtain ⟨S, H, hI⟩ := hI
    obtain ⟨hi4, hP, hDl⟩ := hI
    have hDl2 : D.files.length ≤ d.files.length + 1 := by split at hDl <;> omega
    refine sr 1 S H t0 fun a w S H => ?_
    refine r_seq ?_
    refine r_test S rfl (fun h33 => ?_) (fun h33 => ?_)
    · skip
      refine wp_skip ?_
      refine x_then ?_
      refine r_seq ?_
      refine r_block ?_
      refine sb ?_
      refine r_y S H (y_index S rfl rfl rfl Tryz.underlying114 Tryz.sizeOf88 (by omega) (by omega)) rfl rfl rfl fun a S => ?_
      refine r_y S H (y_loadAt S rfl rfl Tryz.isAgg88 (fun w H => (SlOk.ofRow (i := 0) H rfl).cell w H (fnv_at (i := i) (by simp; omega)))) rfl rfl rfl fun a S => ?_
      refine rs 1 S H t0 fun a w S H => ?_
      rcases (show i = 0 ∨ i = 1 ∨ i = 2 ∨ i = 3 by omega) with rfl | rfl | rfl | rfl
      · skip
        have hDl3 : D.files.length ≤ d.files.length + 0 := by simpa using hDl
        have hln := Dk.len_create D (kind ++ Cm.nNew)
        have S := S.retell (v' := .int .i64 0) 32 rfl rfl
        have S := S.retell (v' := .func (.func 54) #[] #[.pointer (some ⟨b1, 0, none⟩), .pointer (some ⟨b5, 0, none⟩)]) 35 rfl rfl
        have S := S.retell (v' := .func (.func 54) #[] #[.pointer (some ⟨b1, 0, none⟩), .pointer (some ⟨b5, 0, none⟩)]) 12 rfl rfl
        refine sb ?_
        refine rn 1 S H t0 fun a w S H => ?_
        refine r_callV (args := #[]) S rfl rfl rfl Tryz.call54 (pc1_ct (H := (pk [5, 1, 6, 0, 2, 3, 4] 7 H)) _ _ db b1 b5 D (kind ++ Cm.nNew) (by omega) ) rfl rfl rfl fun v a w hR S => ?_
        obtain ⟨rfl, H⟩ := hR
        refine rs 1 S H t0 fun a w S H => ?_
        refine sr 2 S H t0 fun a w S H => ?_
        refine r_test S rfl (fun h39 => ?_) (fun h39 => ?_)
        · skip
          have h39n := h39; simp only [ne_eq, Int.natCast_eq_zero] at h39n
          refine sr 3 S H (by omega) fun a w S H => ?_
          refine sr 2 S H t0 fun a w S H => ?_
          refine wp_ret ?_
          refine x_blockRet ?_
          refine x_thenRet ?_
          refine x_thenRet ?_
          refine x_blockRet ?_
          refine x_thenRet ?_
          refine r_ret1 S H Tryz.results29 (ro_tmp S rfl) ?_
          have e := hP.trans (if_pos h39n)
          rw [e]
          exact ⟨rfl, pk [2] 7 H⟩
        · skip
          have hgo := h39; simp only [ne_eq, Int.natCast_eq_zero] at hgo
          refine wp_skip ?_
          refine x_blockEnd ?_
          refine x_then ?_
          refine er 2 S H (by omega) fun a w S H => ?_
          refine x_then ?_
          exact ⟨(1, (Dk.Disk.create (kind ++ Cm.nNew) D).1), ⟨S.sub ⟨rfl, rfl, rfl, rfl, rfl, rfl, rfl, rfl, rfl, rfl, rfl, rfl, rfl, rfl, rfl, rfl, rfl, rfl, rfl, rfl, rfl, rfl, rfl, rfl, rfl, rfl, rfl, trivial⟩, pk [3, 1, 4, 5, 6, 0, 2] 7 H, ⟨by omega, hP.trans (if_neg hgo), by simp; omega⟩⟩, by show 4 - 1 < 4 - 0; omega⟩
      · skip
        have hDl3 : D.files.length ≤ d.files.length + 1 := by simpa using hDl
        have hln := Dk.len_append D (kind ++ Cm.nNew) xb
        have S := S.retell (v' := .int .i64 1) 32 rfl rfl
        have S := S.retell (v' := .func (.func 55) #[] #[.pointer (some ⟨b1, 0, none⟩), .pointer (some ⟨b5, 0, none⟩), .pointer (some ⟨b4, 0, none⟩)]) 35 rfl rfl
        have S := S.retell (v' := .func (.func 55) #[] #[.pointer (some ⟨b1, 0, none⟩), .pointer (some ⟨b5, 0, none⟩), .pointer (some ⟨b4, 0, none⟩)]) 12 rfl rfl
        refine sb ?_
        refine rn 1 S H t0 fun a w S H => ?_
        refine r_callV (args := #[]) S rfl rfl rfl Tryz.call55 (pc2_ct (H := (pk [5, 1, 2, 6, 0, 3, 4] 7 H)) _ _ db b1 b5 D (kind ++ Cm.nNew) (by omega) b4 A c xb (ok.via fun _ H => H.drop.drop.drop) hbl) rfl rfl rfl fun v a w hR S => ?_
        obtain ⟨rfl, H⟩ := hR
        refine rs 1 S H t0 fun a w S H => ?_
        refine sr 2 S H t0 fun a w S H => ?_
        refine r_test S rfl (fun h39 => ?_) (fun h39 => ?_)
        · skip
          have h39n := h39; simp only [ne_eq, Int.natCast_eq_zero] at h39n
          refine sr 3 S H (by omega) fun a w S H => ?_
          refine sr 2 S H t0 fun a w S H => ?_
          refine wp_ret ?_
          refine x_blockRet ?_
          refine x_thenRet ?_
          refine x_thenRet ?_
          refine x_blockRet ?_
          refine x_thenRet ?_
          refine r_ret1 S H Tryz.results29 (ro_tmp S rfl) ?_
          have e := hP.trans (if_pos h39n)
          rw [e]
          exact ⟨rfl, pk [3] 7 H⟩
        · skip
          have hgo := h39; simp only [ne_eq, Int.natCast_eq_zero] at hgo
          refine wp_skip ?_
          refine x_blockEnd ?_
          refine x_then ?_
          refine er 2 S H (by omega) fun a w S H => ?_
          refine x_then ?_
          exact ⟨(2, (Dk.Disk.append (kind ++ Cm.nNew) xb D).1), ⟨S.sub ⟨rfl, rfl, rfl, rfl, rfl, rfl, rfl, rfl, rfl, rfl, rfl, rfl, rfl, rfl, rfl, rfl, rfl, rfl, rfl, rfl, rfl, rfl, rfl, rfl, rfl, rfl, rfl, trivial⟩, pk [4, 1, 2, 5, 6, 0, 3] 7 H, ⟨by omega, hP.trans (if_neg hgo), by simp; omega⟩⟩, by show 4 - 2 < 4 - 1; omega⟩
      · skip
        have hDl3 : D.files.length ≤ d.files.length + 1 := by simpa using hDl
        have hln := Dk.len_sync D (kind ++ Cm.nNew)
        have S := S.retell (v' := .int .i64 2) 32 rfl rfl
        have S := S.retell (v' := .func (.func 56) #[] #[.pointer (some ⟨b1, 0, none⟩), .pointer (some ⟨b5, 0, none⟩)]) 35 rfl rfl
        have S := S.retell (v' := .func (.func 56) #[] #[.pointer (some ⟨b1, 0, none⟩), .pointer (some ⟨b5, 0, none⟩)]) 12 rfl rfl
        refine sb ?_
        refine rn 1 S H t0 fun a w S H => ?_
        refine r_callV (args := #[]) S rfl rfl rfl Tryz.call56 (pc3_ct (H := (pk [5, 1, 6, 0, 2, 3, 4] 7 H)) _ _ db b1 b5 D (kind ++ Cm.nNew) (by omega) ) rfl rfl rfl fun v a w hR S => ?_
        obtain ⟨rfl, H⟩ := hR
        refine rs 1 S H t0 fun a w S H => ?_
        refine sr 2 S H t0 fun a w S H => ?_
        refine r_test S rfl (fun h39 => ?_) (fun h39 => ?_)
        · skip
          have h39n := h39; simp only [ne_eq, Int.natCast_eq_zero] at h39n
          refine sr 3 S H (by omega) fun a w S H => ?_
          refine sr 2 S H t0 fun a w S H => ?_
          refine wp_ret ?_
          refine x_blockRet ?_
          refine x_thenRet ?_
          refine x_thenRet ?_
          refine x_blockRet ?_
          refine x_thenRet ?_
          refine r_ret1 S H Tryz.results29 (ro_tmp S rfl) ?_
          have e := hP.trans (if_pos h39n)
          rw [e]
          exact ⟨rfl, pk [2] 7 H⟩
        · skip
          have hgo := h39; simp only [ne_eq, Int.natCast_eq_zero] at hgo
          refine wp_skip ?_
          refine x_blockEnd ?_
          refine x_then ?_
          refine er 2 S H (by omega) fun a w S H => ?_
          refine x_then ?_
          exact ⟨(3, (Dk.Disk.sync (kind ++ Cm.nNew) D).1), ⟨S.sub ⟨rfl, rfl, rfl, rfl, rfl, rfl, rfl, rfl, rfl, rfl, rfl, rfl, rfl, rfl, rfl, rfl, rfl, rfl, rfl, rfl, rfl, rfl, rfl, rfl, rfl, rfl, rfl, trivial⟩, pk [3, 1, 4, 5, 6, 0, 2] 7 H, ⟨by omega, hP.trans (if_neg hgo), by simp; omega⟩⟩, by show 4 - 3 < 4 - 2; omega⟩
      · skip
        have hDl3 : D.files.length ≤ d.files.length + 1 := by simpa using hDl
        have hln := Dk.len_rename D (kind ++ Cm.nNew) (kind ++ name)
        have S := S.retell (v' := .int .i64 3) 32 rfl rfl
        have S := S.retell (v' := .func (.func 58) #[] #[.pointer (some ⟨b1, 0, none⟩), .pointer (some ⟨b5, 0, none⟩), .pointer (some ⟨b2, 0, none⟩), .pointer (some ⟨b3, 0, none⟩)]) 35 rfl rfl
        have S := S.retell (v' := .func (.func 58) #[] #[.pointer (some ⟨b1, 0, none⟩), .pointer (some ⟨b5, 0, none⟩), .pointer (some ⟨b2, 0, none⟩), .pointer (some ⟨b3, 0, none⟩)]) 12 rfl rfl
        refine sb ?_
        refine rn 1 S H t0 fun a w S H => ?_
        refine r_callV (args := #[]) S rfl rfl rfl Tryz.call58 (pc4_ct (H := (pk [5, 1, 4, 3, 6, 0, 2] 7 H)) _ _ db b1 b5 D (kind ++ Cm.nNew) (by omega) b2 b3 kind name hk hnm) rfl rfl rfl fun v a w hR S => ?_
        obtain ⟨rfl, H⟩ := hR
        refine rs 1 S H t0 fun a w S H => ?_
        refine sr 2 S H t0 fun a w S H => ?_
        refine r_test S rfl (fun h39 => ?_) (fun h39 => ?_)
        · skip
          have h39n := h39; simp only [ne_eq, Int.natCast_eq_zero] at h39n
          refine sr 3 S H (by omega) fun a w S H => ?_
          refine sr 2 S H t0 fun a w S H => ?_
          refine wp_ret ?_
          refine x_blockRet ?_
          refine x_thenRet ?_
          refine x_thenRet ?_
          refine x_blockRet ?_
          refine x_thenRet ?_
          refine r_ret1 S H Tryz.results29 (ro_tmp S rfl) ?_
          have e := hP.trans (if_pos h39n)
          rw [e]
          exact ⟨rfl, pk [4] 7 H⟩
        · skip
          have hgo := h39; simp only [ne_eq, Int.natCast_eq_zero] at hgo
          refine wp_skip ?_
          refine x_blockEnd ?_
          refine x_then ?_
          refine er 2 S H (by omega) fun a w S H => ?_
          refine x_then ?_
          exact ⟨(4, (Dk.Disk.rename (kind ++ Cm.nNew) (kind ++ name) D).1), ⟨S.sub ⟨rfl, rfl, rfl, rfl, rfl, rfl, rfl, rfl, rfl, rfl, rfl, rfl, rfl, rfl, rfl, rfl, rfl, rfl, rfl, rfl, rfl, rfl, rfl, rfl, rfl, rfl, rfl, trivial⟩, pk [5, 1, 6, 3, 2, 0, 4] 7 H, ⟨by omega, hP.trans (if_neg hgo), by simp; omega⟩⟩, by show 4 - 4 < 4 - 3; omega⟩
    · skip
      refine wp_exit ?_
      refine x_thenExit ?_
      refine x_thenExit ?_
      refine x_blockHere ?_
      refine x_then ?_
      refine sr 1 S H t0 fun a w S H => ?_
      refine wp_ret ?_
      refine r_ret1 S H Tryz.results29 (ro_tmp S rfl) ?_
      have hie : i = 4 := by omega
      subst hie
      rw [hP]
      exact ⟨rfl, pk [6] 7 H⟩

end Go.Proofs.YtfndfpgmgnacgaaGreatDoor
namespace Go.Proofs.YtfndfpgmgnacgaaGreatDoor
open Go.RowKit Go.Cg
set_option linter.unusedVariables false
set_option linter.unusedSimpArgs false
set_option maxRecDepth 8000
set_option synthInstance.maxHeartbeats 1000000
set_option synthInstance.maxSize 1000000
open Go.Cg.Dk (By Nm)
open Go.Cg.Oc (Mf)
theorem menc_le (m : Mf) : (Oc.menc m).1.length ≤ 54 := by
  cases h : Oc.mright m
  · rw [Oc.menc_no h]; simp
  · rw [Oc.menc_len h]; omega
theorem save_ct (w : World) (fr : List Res) (db : Nat) (d : Dk.Disk) (m : Mf) (hs : m.seq < 18446744073709551616) (hst : m.start < 4294967296) (hcnt : d.files.length ≤ 4398046511102) (H : Sat w (diskR db d :: fr)) :
    Rt Tryz.prog 12 #[.pointer (some ⟨db, 0, none⟩), .agg #[.int .u64 ((m.seq : Nat) : Int), .int .i64 m.n, .int .i64 m.shards, .int .i64 m.step, .int .i64 m.kind, .int .u32 ((m.start : Nat) : Int)]] w fun v w' => v = .int .i64 (((Cm.save m d).2 : Nat) : Int) ∧ Sat w' (diskR db (Cm.save m d).1 :: fr) := by
  refine en2 Tryz.func12 rfl Tryz.ntmps12 rfl fun a S => ?_
  have hml := menc_le m
  have hil := itoa_len (i := m.seq % 2) (by omega)
  refine sb ?_
  refine r_box (c := #[.int .u64 ((m.seq : Nat) : Int), .int .i64 m.n, .int .i64 m.shards, .int .i64 m.step, .int .i64 m.kind, .int .u32 ((m.start : Nat) : Int)]) S H rfl rfl rfl rfl rfl rfl fun a w b1 S H => ?_
  refine rs 1 S H t0 fun a w S H => ?_
  refine sb ?_
  refine rn 1 S H t0 fun a w S H => ?_
  refine r_call (args := #[.agg #[.int .u64 ((m.seq : Nat) : Int), .int .i64 m.n, .int .i64 m.shards, .int .i64 m.step, .int .i64 m.kind, .int .u32 ((m.start : Nat) : Int)]]) S rfl rfl Tryz.call28 (mencode_ct (H := H) _ _ m (hs) (hst)) rfl rfl rfl fun v a w hR S => ?_
  obtain ⟨A2, c3, rfl, H⟩ := hR
  refine rs 5 S H t0 fun a w S H => ?_
  refine r_seq ?_
  refine sr 2 S H t0 fun a w S H => ?_
  refine r_test S rfl (fun h13 => ?_) (fun h13 => ?_)
  · skip
    refine sr 2 S H t0 fun a w S H => ?_
    refine wp_ret ?_
    refine x_thenRet ?_
    refine r_ret1 S H Tryz.results12 (ro_tmp S rfl) ?_
    have e : Cm.save m d = (d, (Oc.menc m).2) := by unfold Cm.save; rw [if_pos (by omega)]
    rw [e]
    exact ⟨rfl, pk [2] 3 H⟩
  · skip
    refine wp_skip ?_
    refine x_then ?_
    refine sb ?_
    refine rn 3 S H t0 fun a w S H => ?_
    refine r_y S H (y_remN S rfl rfl rfl (by omega) (by omega)) rfl rfl rfl fun a S => ?_
    have S := S.retell (v' := .int .u64 (((m.seq % 2) : Nat) : Int)) 18 rfl (int_eq (by omega))
    refine r_call (args := #[.int .u64 (((m.seq % 2) : Nat) : Int), .int .i64 10]) S rfl rfl Tryz.call30 (fmtuint_ct (H := H) _ _ (m.seq % 2) (by omega)) rfl rfl rfl fun v a w hR S => ?_
    obtain ⟨rfl, H⟩ := hR
    refine rn 1 S H t0 fun a w S H => ?_
    refine r_call (args := #[.pointer (some ⟨db, 0, none⟩), str ([115, 108, 111, 116, 46]), str (Cm.itoa (m.seq % 2)), .slice A2 ((Oc.menc m).1.length) c3]) S rfl rfl Tryz.call29 (put_c_ct (H := (pk [2, 0, 1] 3 H)) _ _ db d ([115, 108, 111, 116, 46]) (Cm.itoa (m.seq % 2)) _ _ ((Oc.menc m).1) (SlOk.ofRow (i := 0) ((pk [2, 0, 1] 3 H)).drop rfl) (by omega) (by simp) (by omega) (by omega)) rfl rfl rfl fun v a w hR S => ?_
    obtain ⟨rfl, H⟩ := hR
    refine rs 1 S H t0 fun a w S H => ?_
    refine wp_ret ?_
    refine r_ret1 S H Tryz.results12 (ro_tmp S rfl) ?_
    have e : Cm.save m d = Cm.put Cm.nSlot (Cm.itoa (m.seq % 2)) (Oc.menc m).1 d := by unfold Cm.save; rw [if_neg (by omega)]
    rw [e]
    exact ⟨rfl, pk [0] 3 H⟩

end Go.Proofs.YtfndfpgmgnacgaaGreatDoor
namespace Go.Proofs.YtfndfpgmgnacgaaGreatDoor
open Go.RowKit Go.Cg
set_option linter.unusedVariables false
set_option linter.unusedSimpArgs false
set_option maxRecDepth 8000
set_option synthInstance.maxHeartbeats 1000000
set_option synthInstance.maxSize 1000000
open Go.Cg.Dk (By Nm)
open Go.Cg.Oc (Mf)
open Go.Shelf Go.Proofs
/-- what is laid: the table of powers, the variable of a syntax error -/
def Laid (fr : List Res) : Prop := (∀ w, Sat w fr → Go.Lib.TabIs Tryz.prog w "internal/strconv.uint64pow10" .u64 Go.Lib.pow10Tab) ∧ ∀ w, Sat w fr → ∃ te pe, w.cell? ⟨atoiA_ren.g 15, 0, none⟩ = some (.iface te pe)
theorem Laid.via {M L : List Res} (h : Laid L) (hM : ∀ w, Sat w M → Sat w L) : Laid M := ⟨fun w H => h.1 w (hM w H), fun w H => h.2 w (hM w H)⟩
theorem Sat.under {w w' : World} {L : List Res} (H : Sat w L) (hb : Below w.heap.size w w') : Sat w' L := H.grow ⟨hb.os, hb.tape, hb.output, hb.size⟩ hb.block
theorem atoi_ct (w : World) (fr : List Res) (hl : Laid fr) (s : Nm) (hs : s.length ≤ 18) (H : Sat w fr) : Rt Tryz.prog 62 #[str s] w fun v w' => ∃ x e, v = .tuple #[.int .i64 x, e] ∧ ((Go.Lib.atoi s = some x ∧ e = .nilIface) ∨ (Go.Lib.atoi s = none ∧ ∃ t p, e = .iface t p)) ∧ Sat w' fr := by
  have e0 : (ByteArray.mk s.toArray).data.toList = s := by simp
  have e1 : (ByteArray.mk s.toArray).size ≤ 18 := by simpa [ByteArray.size] using hs
  cases h : Go.Lib.atoi s with
  | some n =>
    have hc : Calls Tryz.prog 62 #[str s] w _ := Any.strconv_Atoi (ρ := atoiA_ren) { atoiA with } ⟨s.toArray⟩ n e1 (by rw [e0]; exact h) w
    refine hc.mono ?_
    rintro e w' ⟨rfl, t, rfl⟩
    exact ⟨_, rfl, n, _, rfl, .inl ⟨rfl, rfl⟩, Sat.under H (Go.Lib.bytesWorld_below w _ t)⟩
  | none =>
    obtain ⟨te, pe, hv⟩ := hl.2 w H
    have hc : Calls Tryz.prog 62 #[str s] w _ := Any.strconv_Atoi_err atoiA ⟨s.toArray⟩ e1 (by rw [e0]; exact h) (.iface te pe) w hv (.inr ⟨te, pe, rfl⟩)
    refine hc.mono ?_
    rintro e w' ⟨N, rfl, _, _, hb⟩
    exact ⟨_, rfl, 0, _, rfl, .inr ⟨rfl, _, _, rfl⟩, Sat.under H hb⟩
end Go.Proofs.YtfndfpgmgnacgaaGreatDoor
