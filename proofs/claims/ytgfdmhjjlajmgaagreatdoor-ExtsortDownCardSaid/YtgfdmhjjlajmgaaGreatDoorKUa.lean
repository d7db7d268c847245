/- Walks of functions of the program, over slots and resources, and what they rest on. No condition. -/
import Derived.Test.YtgfdmhjjlajmgaaGreatDoorKUNm
import Derived.Test.YtgfdmhjjlajmgaaGreatDoorKURu
import Derived.Test.YtgfdmhjjlajmgaaGreatDoorKULa
import Derived.Test.YtgfdmhjjlajmgaaGreatDoorKUBt
import Derived.Test.YtgfdmhjjlajmgaaGreatDoorKURv
import Derived.Test.YtgfdmhjjlajmgaaGreatDoorKURg
import Derived.RangeFuncBox
import Derived.Shelf.Abstract
import Derived.WalkKit
import Derived.OwnWalkIn
import Derived.TacticsInMore
import Derived.LoopNIn
import Derived.LoopIn
namespace Go.Proofs.YtgfdmhjjlajmgaaGreatDoor
open Go.RowKit Go.Cg
set_option linter.unusedVariables false
set_option linter.unusedSimpArgs false
set_option maxRecDepth 8000
set_option synthInstance.maxHeartbeats 1000000
set_option synthInstance.maxSize 1000000
theorem b32_ct (w : World) (fr : List Res) (b : Bool) (H : Sat w (fr)) :
    Rt Tryz.prog 70 #[.bool b] w fun v w' => v = .int .u32 (dnI b) ∧ Sat w' fr := by
  refine en1 Tryz.func70 rfl Tryz.ntmps70 rfl fun a S => ?_
  refine sr 1 S H t0 fun a w S H => ?_
  refine r_seq ?_
  refine sr 1 S H t0 fun a w S H => ?_
  refine r_cond S rfl (fun h3 => ?_) (fun h3 => ?_)
  · skip
    refine sr 1 S H t0 fun a w S H => ?_
    refine wp_ret ?_
    refine x_thenRet ?_
    refine r_ret1 S H Tryz.results70 (ro_tmp S rfl) ?_
    exact ⟨by rw [h3]; rfl, H⟩
  refine wp_skip ?_
  refine x_then ?_
  refine sr 1 S H t0 fun a w S H => ?_
  refine wp_ret ?_
  refine r_ret1 S H Tryz.results70 (ro_tmp S rfl) ?_
  exact ⟨by rw [h3]; rfl, H⟩

instance {fr : List Res} (b : Bool) : Cal Tryz.prog fr 70 [.bool b] (.int .u32 (dnI b)) fr ((0 : Int) ≤ 0) := ⟨Tryz.call70, fun hc w H => b32_ct w fr b H⟩
theorem dnI_ne (b : Bool) : decide (dnI b ≠ 0) = b := by cases b <;> rfl
theorem a64_ct {L L' : List Res} (b j i : Nat) (c c' : List Value) (ty : TypeId) (m x : Int) [hf : FdR L b (blk b (.cells c.toArray ty)) i] [hv : At c j (.int .i64 m)] [hp : Pu c j [.int .i64 (IntKind.i64.wrap (m + x))] c'] [hs : St L i (blk b (.cells c'.toArray ty)) L'] (w : World) (H : Sat w L) : Rt Tryz.prog 59 #[.pointer (some ⟨b, j, none⟩), .int .i64 x] w fun v w' => v = .int .i64 (IntKind.i64.wrap (m + x)) ∧ Sat w' L' := by
  refine en2 Tryz.func59 rfl Tryz.ntmps59 rfl fun a S => ?_
  refine sr 1 S H t0 fun a w S H => ?_
  refine sr 6 S H t0 fun a w S H => ?_
  refine wp_ret (r_ret1 S H Tryz.results59 (ro_tmp S rfl) ⟨rfl, H⟩)
instance {L L' : List Res} (b j i : Nat) (c c' : List Value) (ty : TypeId) (m x : Int) [hf : FdR L b (blk b (.cells c.toArray ty)) i] [hv : At c j (.int .i64 m)] [hp : Pu c j [.int .i64 (IntKind.i64.wrap (m + x))] c'] [hs : St L i (blk b (.cells c'.toArray ty)) L'] : Cal Tryz.prog L 59 [.pointer (some ⟨b, j, none⟩), .int .i64 x] (.int .i64 (IntKind.i64.wrap (m + x))) L' ((0 : Int) ≤ 0) := ⟨Tryz.call59, fun _ w H => a64_ct b j i c c' ty m x w H⟩
theorem bload_ct {L : List Res} (b j i : Nat) (c : List Value) (ty : TypeId) (m : Bool) [hf : FdR L b (blk b (.cells c.toArray ty)) i] [hv : At c j (.int .u32 (dnI m))] (w : World) (H : Sat w L) : Rt Tryz.prog 45 #[.pointer (some ⟨b, j, none⟩)] w fun v w' => v = .bool m ∧ Sat w' L := by
  refine en1 Tryz.func45 rfl Tryz.ntmps45 rfl fun a S => ?_
  refine sr 1 S H t0 fun a w S H => ?_
  refine sr 6 S H t0 fun a w S H => ?_
  refine wp_ret (r_ret1 S H Tryz.results45 (ro_tmp S rfl) ⟨congrArg Value.bool (dnI_ne m), H⟩)
instance {L : List Res} (b j i : Nat) (c : List Value) (ty : TypeId) (m : Bool) [hf : FdR L b (blk b (.cells c.toArray ty)) i] [hv : At c j (.int .u32 (dnI m))] : Cal Tryz.prog L 45 [.pointer (some ⟨b, j, none⟩)] (.bool m) L ((0 : Int) ≤ 0) := ⟨Tryz.call45, fun _ w H => bload_ct b j i c ty m w H⟩
theorem bswap_ct {L L' : List Res} (b j i : Nat) (c c' : List Value) (ty : TypeId) (m x : Bool) [hf : FdR L b (blk b (.cells c.toArray ty)) i] [hv : At c j (.int .u32 (dnI m))] [hp : Pu c j [.int .u32 (dnI x)] c'] [hs : St L i (blk b (.cells c'.toArray ty)) L'] (w : World) (H : Sat w L) : Rt Tryz.prog 83 #[.pointer (some ⟨b, j, none⟩), .bool x] w fun v w' => v = .bool m ∧ Sat w' L' := by
  refine en2 Tryz.func83 rfl Tryz.ntmps83 rfl fun a S => ?_
  refine sr 1 S H t0 fun a w S H => ?_
  refine r_seq ?_
  refine ha0 H fun w H HS => ?_
  refine tk 0 S HS fun a S => ?_
  refine tk 1 S HS fun a S => ?_
  refine tk 2 S HS fun a S => ?_
  refine tk 3 S HS fun a S => ?_
  refine h1 4 ?_
  refine rs 1 S H (by omega) fun a w S H => ?_
  refine hk (Sat.nil _) fun HS => ?_
  refine h1 5 ?_
  refine rs 1 S H t0 fun a w S H => ?_
  refine hk (Sat.nil _) fun HS => ?_
  refine tk 6 S HS fun a S => ?_
  refine tk 7 S HS fun a S => ?_
  refine hz ?_
  refine x_then ?_
  refine wp_ret (r_ret1 S H Tryz.results83 (ro_tmp S rfl) ⟨congrArg Value.bool (dnI_ne m), H⟩)
instance {L L' : List Res} (b j i : Nat) (c c' : List Value) (ty : TypeId) (m x : Bool) [hf : FdR L b (blk b (.cells c.toArray ty)) i] [hv : At c j (.int .u32 (dnI m))] [hp : Pu c j [.int .u32 (dnI x)] c'] [hs : St L i (blk b (.cells c'.toArray ty)) L'] : Cal Tryz.prog L 83 [.pointer (some ⟨b, j, none⟩), .bool x] (.bool m) L' ((0 : Int) ≤ 0) := ⟨Tryz.call83, fun _ w H => bswap_ct b j i c c' ty m x w H⟩
theorem bstore_ct {L L' : List Res} (b j i : Nat) (c c' : List Value) (ty : TypeId) (m x : Bool) [hf : FdR L b (blk b (.cells c.toArray ty)) i] [hv : At c j (.int .u32 (dnI m))] [hp : Pu c j [.int .u32 (dnI x)] c'] [hs : St L i (blk b (.cells c'.toArray ty)) L'] (w : World) (H : Sat w L) : Rt Tryz.prog 46 #[.pointer (some ⟨b, j, none⟩), .bool x] w fun v w' => v = .tuple #[] ∧ Sat w' L' := by
  refine en2 Tryz.func46 rfl Tryz.ntmps46 rfl fun a S => ?_
  refine ha0 H fun w H HS => ?_
  refine tk 0 S HS fun a S => ?_
  refine tk 1 S HS fun a S => ?_
  refine tk 2 S HS fun a S => ?_
  refine tk 3 S HS fun a S => ?_
  refine h1 4 ?_
  refine rs 1 S H (by omega) fun a w S H => ?_
  refine hk (Sat.nil _) fun HS => ?_
  refine h1 5 ?_
  refine rs 1 S H t0 fun a w S H => ?_
  refine hk (Sat.nil _) fun HS => ?_
  refine hz ?_
  exact r_end0 S Tryz.results46 ⟨rfl, H⟩
instance {L L' : List Res} (b j i : Nat) (c c' : List Value) (ty : TypeId) (m x : Bool) [hf : FdR L b (blk b (.cells c.toArray ty)) i] [hv : At c j (.int .u32 (dnI m))] [hp : Pu c j [.int .u32 (dnI x)] c'] [hs : St L i (blk b (.cells c'.toArray ty)) L'] : Cal Tryz.prog L 46 [.pointer (some ⟨b, j, none⟩), .bool x] (.tuple #[]) L' ((0 : Int) ≤ 0) := ⟨Tryz.call46, fun _ w H => bstore_ct b j i c c' ty m x w H⟩
theorem down_ct {L : List Res} (db i : Nat) (c : List Value) (m : Bool) [hf : FdR L db (blk db (.cells c.toArray 63)) i] [hv : At c 6 (.int .u32 (dnI m))] (w : World) (H : Sat w L) : Rt Tryz.prog 25 #[.pointer (some ⟨db, 0, none⟩)] w fun v w' => v = .bool m ∧ Sat w' L := by
  refine en1 Tryz.func25 rfl Tryz.ntmps25 rfl fun a S => ?_
  refine sr 1 S H t0 fun a w S H => ?_
  refine sr 5 S H (by omega) fun a w S H => ?_
  refine wp_ret (r_ret1 S H Tryz.results25 (ro_tmp S rfl) ⟨rfl, H⟩)
instance {L : List Res} (db i : Nat) (c : List Value) (m : Bool) [hf : FdR L db (blk db (.cells c.toArray 63)) i] [hv : At c 6 (.int .u32 (dnI m))] : Cal Tryz.prog L 25 [.pointer (some ⟨db, 0, none⟩)] (.bool m) L ((0 : Int) ≤ 0) := ⟨Tryz.call25, fun _ w H => down_ct db i c m w H⟩
theorem sectors_ct (w : World) (fr : List Res) (n : Nat) (hn : n ≤ 9223372036854775000) (H : Sat w (fr)) :
    Rt Tryz.prog 67 #[.int .i64 ((n : Nat) : Int)] w fun v w' => v = .int .i64 ((Dk.sectors n : Nat) : Int) ∧ Sat w' fr := by
  refine en1 Tryz.func67 rfl Tryz.ntmps67 rfl fun a S => ?_
  refine sr 1 S H t0 fun a w S H => ?_
  refine sb ?_
  refine rn 3 S H (by omega) fun a w S H => ?_
  refine r_y S H (y_quoN S rfl rfl rfl (by omega) (by omega) (wdivi64 (by omega) (by omega) (by omega))) rfl rfl rfl fun a S => ?_
  refine rs 1 S H t0 fun a w S H => ?_
  refine wp_ret ?_
  refine r_ret1 S H Tryz.results67 (ro_tmp S rfl) ?_
  exact ⟨congrArg (Value.int .i64) (by unfold Dk.sectors; omega), H⟩

instance {fr : List Res} (n : Nat) : Cal Tryz.prog fr 67 [.int .i64 ((n : Nat) : Int)] (.int .i64 ((Dk.sectors n : Nat) : Int)) fr (((n : Nat) : Int) ≤ 9223372036854775000) := ⟨Tryz.call67, fun hc w H => sectors_ct w fr n (by omega) H⟩
theorem may_ct (w : World) (fr : List Res) (n : List UInt8) (H : Sat w (fr)) :
    Rt Tryz.prog 42 #[str (n)] w fun v w' => v = .bool (Dk.may n) ∧ Sat w' fr := by
  refine en1 Tryz.func42 rfl Tryz.ntmps42 rfl fun a S => ?_
  refine sr 1 S H t0 fun a w S H => ?_
  refine sb ?_
  refine rn 3 S H t0 fun a w S H => ?_
  refine scA 2 S H (fun _ => t0) fun a w S H => ?_
  refine rs 1 S H t0 fun a w S H => ?_
  refine wp_ret ?_
  refine r_ret1 S H Tryz.results42 (ro_tmp S rfl) ?_
  exact ⟨congrArg Value.bool (by unfold Dk.may; rw [Bool.eq_iff_iff]; simp; omega), H⟩

instance {fr : List Res} (n : List UInt8) : Cal Tryz.prog fr 42 [str n] (.bool (Dk.may n)) fr ((0 : Int) ≤ 0) := ⟨Tryz.call42, fun hc w H => may_ct w fr n H⟩
end Go.Proofs.YtgfdmhjjlajmgaaGreatDoor
namespace Go.Proofs.YtgfdmhjjlajmgaaGreatDoor
open Go.RowKit Go.Cg
set_option linter.unusedVariables false
set_option linter.unusedSimpArgs false
set_option maxRecDepth 8000
set_option synthInstance.maxHeartbeats 1000000
set_option synthInstance.maxSize 1000000
theorem el41 : Elem Tryz.prog 41 5 1 1 (.int .u8 0) := ⟨Tryz.underlying41, by kernel_rfl, rfl, by decide⟩
theorem el47 : Elem Tryz.prog 47 4 1 1 (.bool false) := ⟨Tryz.underlying47, by kernel_rfl, rfl, by decide⟩
theorem clone8_ct (w : World) (fr : List Res) (A : Option Addr) (n c : Nat) (l : List UInt8) (ok : SlOk fr 1 A n c (u8s l)) (hn : l.length ≤ 70368744177664) (H : Sat w (fr)) :
    Rt Tryz.prog 71 #[.slice A n c] w fun v w' => (∃ A' c', v = .slice A' l.length c' ∧ Sat w' (row 5 1 (.slice A' l.length c') l.length (u8s l) :: fr)) := by
  refine en1 Tryz.func71 rfl Tryz.ntmps71 rfl fun a S => ?_
  obtain rfl := ok.n8
  refine sr 1 S H t0 fun a w S H => ?_
  refine r_seq ?_
  refine sb ?_
  refine rn 1 S H t0 fun a w S H => ?_
  refine r_y S H (y_sliceNil S rfl rfl rfl Tryz.underlying41) rfl rfl rfl fun a S => ?_
  refine sn ?_
  refine r_cond S rfl (fun h4 => ?_) (fun h4 => ?_)
  · skip
    refine sr 1 S H t0 fun a w S H => ?_
    refine wp_ret ?_
    refine x_thenRet ?_
    refine r_ret1 S H Tryz.results71 (ro_tmp S rfl) ?_
    have hA : A = none := by simpa using h4
    have h0 : l = [] := List.eq_nil_of_length_eq_zero (by have := ok.nil hA; have := ok.le; omega)
    subst h0
    exact ⟨none, 0, rfl, H.nilRow _ _⟩
  refine wp_skip ?_
  refine x_then ?_
  refine sb ?_
  refine r_lit (vs := #[]) (cs := u8s []) S H rfl rfl el41 (by kernel_rfl) (by decide) (by rfl) rfl rfl rfl fun a w b1 S H => ?_
  refine rn 1 S H t0 fun a w S H => ?_
  refine r_appendS (L' := fun A2 c3 => row 5 1 (.slice A2 l.length c3) l.length (u8s l) :: fr) (xs' := u8s l) 0 S H rfl rfl rfl rfl el41 (ok.more _) (one_u8s _) (by simp only [maxLen]; first | omega | (simp <;> omega)) (by first | omega | (simp <;> omega)) (List.nil_append _) (by first | omega | (simp <;> omega)) (fun _ _ => rfl) rfl rfl rfl fun a w A2 c3 hA2 S H => ?_
  refine rs 1 S H t0 fun a w S H => ?_
  refine wp_ret ?_
  refine r_ret1 S H Tryz.results71 (ro_tmp S rfl) ?_
  exact ⟨_, _, rfl, H⟩

theorem cloneB_ct (w : World) (fr : List Res) (A : Option Addr) (n c : Nat) (l : List Bool) (ok : SlOk fr 1 A n c (bools l)) (hn : l.length ≤ 70368744177664) (H : Sat w (fr)) :
    Rt Tryz.prog 44 #[.slice A n c] w fun v w' => (∃ A' c', v = .slice A' l.length c' ∧ Sat w' (row 4 1 (.slice A' l.length c') l.length (bools l) :: fr)) := by
  refine en1 Tryz.func44 rfl Tryz.ntmps44 rfl fun a S => ?_
  obtain rfl := ok.nB
  refine sr 1 S H t0 fun a w S H => ?_
  refine r_seq ?_
  refine sb ?_
  refine rn 1 S H t0 fun a w S H => ?_
  refine r_y S H (y_sliceNil S rfl rfl rfl Tryz.underlying47) rfl rfl rfl fun a S => ?_
  refine sn ?_
  refine r_cond S rfl (fun h4 => ?_) (fun h4 => ?_)
  · skip
    refine sr 1 S H t0 fun a w S H => ?_
    refine wp_ret ?_
    refine x_thenRet ?_
    refine r_ret1 S H Tryz.results44 (ro_tmp S rfl) ?_
    have hA : A = none := by simpa using h4
    have h0 : l = [] := List.eq_nil_of_length_eq_zero (by have := ok.nil hA; have := ok.le; omega)
    subst h0
    exact ⟨none, 0, rfl, H.nilRow _ _⟩
  refine wp_skip ?_
  refine x_then ?_
  refine sb ?_
  refine r_lit (vs := #[]) (cs := bools []) S H rfl rfl el47 (by kernel_rfl) (by decide) (by rfl) rfl rfl rfl fun a w b1 S H => ?_
  refine rn 1 S H t0 fun a w S H => ?_
  refine r_appendS (L' := fun A2 c3 => row 4 1 (.slice A2 l.length c3) l.length (bools l) :: fr) (xs' := bools l) 0 S H rfl rfl rfl rfl el47 (ok.more _) (one_bools _) (by simp only [maxLen]; first | omega | (simp <;> omega)) (by first | omega | (simp <;> omega)) (List.nil_append _) (by first | omega | (simp <;> omega)) (fun _ _ => rfl) rfl rfl rfl fun a w A2 c3 hA2 S H => ?_
  refine rs 1 S H t0 fun a w S H => ?_
  refine wp_ret ?_
  refine r_ret1 S H Tryz.results44 (ro_tmp S rfl) ?_
  exact ⟨_, _, rfl, H⟩

theorem equal_ct (w : World) (fr : List Res) (A : Option Addr) (n c : Nat) (x : List UInt8) (okx : SlOk fr 1 A n c (u8s x)) (D : Option Addr) (m e : Nat) (y : List UInt8) (oky : SlOk fr 1 D m e (u8s y)) (H : Sat w (fr)) :
    Rt Tryz.prog 101 #[.slice A n c, .slice D m e] w fun v w' => v = .bool (decide (x = y)) ∧ Sat w' fr := by
  refine en2 Tryz.func101 rfl Tryz.ntmps101 rfl fun a S => ?_
  obtain rfl := okx.n8
  obtain rfl := oky.n8
  refine sr 1 S H t0 fun a w S H => ?_
  refine sb ?_
  refine rn 1 S H t0 fun a w S H => ?_
  refine r_y S H (y_bytesStr Tryz.underlying41 Tryz.underlying5 Tryz.underlying9 okx S rfl rfl) rfl rfl rfl fun a S => ?_
  refine rn 1 S H t0 fun a w S H => ?_
  refine r_y S H (y_bytesStr Tryz.underlying41 Tryz.underlying5 Tryz.underlying9 oky S rfl rfl) rfl rfl rfl fun a S => ?_
  refine rs 2 S H t0 fun a w S H => ?_
  refine wp_ret ?_
  refine r_ret1 S H Tryz.results101 (ro_tmp S rfl) ?_
  exact ⟨rfl, H⟩

theorem next_ct (w : World) (M : List Res) (fr : List Res) (hM : ∀ w, Sat w M → Sat w fr) (bk : Nat) (A : Option Addr) (c : Nat) (r : List Bool) (ok : SlOk fr 1 A r.length c (bools r)) (H : Sat w (blk bk (.cells #[.slice A r.length c] 47) :: M)) :
    Rt Tryz.prog 84 #[.pointer (some ⟨bk, 0, none⟩)] w fun v w' => v = .bool (r.headD false) ∧ ∃ A' c', SlOk fr 1 A' r.tail.length c' (bools r.tail) ∧ Sat w' (blk bk (.cells #[.slice A' r.tail.length c'] 47) :: M) := by
  refine en1 Tryz.func84 rfl Tryz.ntmps84 rfl fun a S => ?_
  refine sr 1 S H t0 fun a w S H => ?_
  refine r_seq ?_
  refine sr 3 S H t0 fun a w S H => ?_
  refine r_test S rfl (fun h5 => ?_) (fun h5 => ?_)
  · skip
    have hr : r = [] := List.eq_nil_of_length_eq_zero (by omega)
    subst hr
    refine sr 1 S H t0 fun a w S H => ?_
    refine wp_ret ?_
    refine x_thenRet ?_
    refine r_ret1 S H Tryz.results84 (ro_tmp S rfl) ?_
    exact ⟨rfl, _, _, ok, H⟩
  refine wp_skip ?_
  refine x_then ?_
  refine sb ?_
  refine rn 1 S H t0 fun a w S H => ?_
  obtain ⟨b1, o2, rfl⟩ := ((ok.via hM).more _).addr H (by first | omega | (simp <;> omega))
  refine r_y S H (y_index S rfl rfl rfl Tryz.underlying47 Tryz.sizeOf4 (by omega) (by omega)) rfl rfl rfl fun a S => ?_
  refine r_y S H (y_loadAt S rfl rfl Tryz.isAgg4 (fun w H => ((ok.via hM).more _).cell w H (bools_at (i := 0) (by first | omega | (simp <;> omega))))) rfl rfl rfl fun a S => ?_
  refine rs 1 S H t0 fun a w S H => ?_
  refine sb ?_
  refine rn 1 S H t0 fun a w S H => ?_
  refine r_y S H (y_sliceL (k := 1) S rfl rfl rfl Tryz.underlying47 Tryz.sizeOf4 (by first | omega | (simp <;> omega)) (by first | omega | (simp <;> omega))) rfl rfl rfl fun a S => ?_
  refine rs 1 S H t0 fun a w S H => ?_
  refine sr 2 S H t0 fun a w S H => ?_
  refine wp_ret ?_
  refine r_ret1 S H Tryz.results84 (ro_tmp S rfl) ?_
  have ht : r.tail.length = r.length - 1 := by simp
  refine ⟨congrArg Value.bool ?_, ?_⟩
  · cases r with
    | nil => simp at h5
    | cons b r => rfl
  rw [ht]
  refine ⟨_, _, ?_, H⟩
  have := ok.tailB 1 (by omega)
  rwa [List.drop_one] at this

end Go.Proofs.YtgfdmhjjlajmgaaGreatDoor
namespace Go.Proofs.YtgfdmhjjlajmgaaGreatDoor
open Go.RowKit Go.Cg
set_option linter.unusedVariables false
set_option linter.unusedSimpArgs false
set_option maxRecDepth 8000
set_option synthInstance.maxHeartbeats 1000000
set_option synthInstance.maxSize 1000000
open Go.Cg.Dk (Fl)
theorem torn_ct (w : World) (M : List Res) (fr : List Res) (hM : ∀ w, Sat w M → Sat w fr) (fb bk : Nat) (A : Option Addr) (c : Nat) (D : Option Addr) (e : Nat) (f : Fl) (Ak : Option Addr) (ck : Nat) (r : List Bool) (ok : SlOk fr 1 Ak r.length ck (bools r)) (hsyn : f.syn.length ≤ f.now.length) (hlen : f.now.length ≤ 17592186044416) (H : Sat w (blk fb (.cells #[.slice A f.now.length c, .slice D f.syn.length e] 90) :: row 5 1 (.slice A f.now.length c) f.now.length (u8s f.now) :: row 5 1 (.slice D f.syn.length e) f.syn.length (u8s f.syn) :: blk bk (.cells #[.slice Ak r.length ck] 47) :: M)) :
    Rt Tryz.prog 85 #[.pointer (some ⟨fb, 0, none⟩), .func (.func 84) #[] #[.pointer (some ⟨bk, 0, none⟩)]] w fun v w' => v = .tuple #[] ∧ ∃ A' c', SlOk fr 1 A' (Dk.torn f r).2.length c' (bools (Dk.torn f r).2) ∧ Sat w' (fileR fb ⟨(Dk.torn f r).1, (Dk.torn f r).1⟩ :: blk bk (.cells #[.slice A' (Dk.torn f r).2.length c'] 47) :: M) := by
  refine en2 Tryz.func85 rfl Tryz.ntmps85 rfl fun a S => ?_
  have hcN := (SlOk.ofRow (i := 1) H rfl).le
  have hcS := (SlOk.ofRow (i := 2) H rfl).le
  refine sb ?_
  refine rn 4 S H t0 fun a w S H => ?_
  refine r_call (args := #[.slice D f.syn.length e]) S rfl rfl Tryz.call71 (clone8_ct (H := H) _ _ _ _ _ f.syn (SlOk.ofRow (i := 2) H rfl) (by omega)) rfl rfl rfl fun v a w hR S => ?_
  obtain ⟨A5, c6, rfl, H⟩ := hR
  refine rs 1 S H t0 fun a w S H => ?_
  refine r_seq ?_
  refine sr 1 S H t0 fun a w S H => ?_
  refine r_block ?_
  refine r_loop (ι := Nat × List UInt8 × List Bool × Option Addr × Nat × Option Addr × Nat) (fun ⟨k, o, y, Ao, co, Ay, cy⟩ a w => Slots a 88 [(0, .pointer (some ⟨fb, 0, none⟩)), (1, .func (.func 84) #[] #[.pointer (some ⟨bk, 0, none⟩)]), (4, .slice Ao o.length co), (5, .int .i64 ((16 * k : Nat) : Int)), (88, undef)] ∧ Sat w (row 5 1 (.slice Ao o.length co) o.length (u8s o) :: blk fb (.cells #[.slice A f.now.length c, .slice D f.syn.length e] 90) :: row 5 1 (.slice A f.now.length c) f.now.length (u8s f.now) :: row 5 1 (.slice D f.syn.length e) f.syn.length (u8s f.syn) :: blk bk (.cells #[.slice Ay y.length cy] 47) :: M) ∧ (k ≤ Dk.sectors f.now.length ∧ Dk.tornUpto f r k = (o, y) ∧ SlOk fr 1 Ay y.length cy (bools y))) (fun ⟨k, o, y, Ao, co, Ay, cy⟩ => Dk.sectors f.now.length - k) (0, f.syn, r, A5, c6, Ak, ck) ⟨S.sub ⟨rfl, rfl, rfl, rfl, rfl, trivial⟩, H, ⟨Nat.zero_le _, rfl, ok⟩⟩ (fun ⟨k, o, y, Ao, co, Ay, cy⟩ a w hI => ?_)
  obtain ⟨S, H, hI⟩ := hI
  obtain ⟨hks, hU, oky⟩ := hI
  have hol := Dk.tornUpto_len r hsyn k
  rw [hU] at hol
  have hol1 : f.syn.length ≤ o.length := hol.1
  have hol2 : o.length ≤ f.now.length := hol.2
  refine r_seq ?_
  refine sr 7 S H t0 fun a w S H => ?_
  refine r_test S rfl (fun h18 => ?_) (fun h18 => ?_)
  · skip
    refine wp_skip ?_
    refine x_then ?_
    refine r_seq ?_
    refine r_block ?_
    refine sb ?_
    refine rn 7 S H (by omega) fun a w S H => ?_
    refine r_y S H (y_min S rfl rfl rfl) rfl rfl rfl fun a S => ?_
    obtain ⟨to_, hto⟩ : ∃ to_ : Nat, to_ = min (16 * k + 16) f.now.length := ⟨_, rfl⟩
    have S := S.retell (v' := .int .i64 ((to_ : Nat) : Int)) 28 rfl (int_eq (by omega))
    refine rs 1 S H t0 fun a w S H => ?_
    refine r_seq ?_
    rcases three (min (16 * k + 16) f.now.length ≤ f.syn.length) ((f.now.drop (16 * k)).take (min (16 * k + 16) f.now.length - 16 * k) = (f.syn.drop (16 * k)).take (min (16 * k + 16) f.now.length - 16 * k)) with hq | ⟨hq, he⟩ | ⟨hq, he⟩
    · skip
      have hne : ¬ (min (16 * k + 16) f.now.length ≤ f.syn.length ∧ (f.now.drop (16 * k)).take (min (16 * k + 16) f.now.length - 16 * k) = (f.syn.drop (16 * k)).take (min (16 * k + 16) f.now.length - 16 * k)) := fun h => hq h.1
      refine r_seq ?_
      refine ha [0, 1, 2, 3] 5 H fun w H HS => ?_
      refine tk 0 S HS fun a S => ?_
      refine tk 1 S HS fun a S => ?_
      refine tk 2 S HS fun a S => ?_
      refine tk 3 S HS fun a S => ?_
      refine tk 4 S HS fun a S => ?_
      refine tk 5 S HS fun a S => ?_
      refine tkY 6 S HS rfl (y_le S rfl rfl rfl) rfl rfl rfl fun a S => ?_
      have S := S.retell (v' := .bool false) 35 rfl (congrArg Value.bool (decide_eq_false (by omega)))
      refine tk 7 S HS fun a S => ?_
      refine tkS 8 S HS fun a S => ?_
      refine tkS 9 S HS fun a S => ?_
      refine tkS 10 S HS fun a S => ?_
      refine tkS 11 S HS fun a S => ?_
      refine tkS 12 S HS fun a S => ?_
      refine tkS 13 S HS fun a S => ?_
      refine tkS 14 S HS fun a S => ?_
      refine tkS 15 S HS fun a S => ?_
      refine tkS 16 S HS fun a S => ?_
      refine tkS 17 S HS fun a S => ?_
      refine tkS 18 S HS fun a S => ?_
      refine tkS 19 S HS fun a S => ?_
      refine tkS 20 S HS fun a S => ?_
      refine tkS 21 S HS fun a S => ?_
      refine tkS 22 S HS fun a S => ?_
      refine tk 23 S HS fun a S => ?_
      refine tk 24 S HS fun a S => ?_
      refine tk 25 S HS fun a S => ?_
      refine h1 26 ?_
      refine r_callV (args := #[]) S rfl rfl rfl Tryz.call84 (next_ct (H := pk [4, 0, 1, 2, 3] 5 H) _ _ fr (fun _ H => hM _ (H.drop.drop.drop.drop)) bk _ _ y oky) rfl rfl rfl fun v a w hR S => ?_
      obtain ⟨rfl, A7, c8, okxA7, H⟩ := hR
      refine sn ?_
      refine hk (pk [1, 2, 3, 4] 5 H) fun HS => ?_
      refine tk 27 S HS fun a S => ?_
      refine tk 28 S HS fun a S => ?_
      refine hz ?_
      refine x_then ?_
      refine r_cond S rfl (fun h57 => ?_) (fun h57 => ?_)
      · skip
        have hb : y.headD false = false := by simpa using h57
        refine wp_exit ?_
        refine x_thenExit ?_
        refine x_blockHere ?_
        refine x_then ?_
        refine er 3 S H (by omega) fun a w S H => ?_
        refine x_then ?_
        have hU2 : Dk.tornUpto f r (k + 1) = (o, y.tail) := by
          rw [Dk.tornUpto, hU]
          exact Dk.tornStep_no hne hb
        exact ⟨(k + 1, o, y.tail, Ao, co, A7, c8), ⟨S.sub ⟨rfl, rfl, (by first | rfl | simp), ((show lk _ _ = some _ from rfl).trans (congrArg (fun x => some (Value.int .i64 x)) (by omega))), rfl, trivial⟩, pk [1, 2, 3, 4, 0] 5 H, ⟨by unfold Dk.sectors; omega, hU2, okxA7⟩⟩, by show Dk.sectors f.now.length - (k + 1) < Dk.sectors f.now.length - k; unfold Dk.sectors; omega⟩
      have hb : y.headD false = true := by simpa using h57
      refine wp_skip ?_
      refine x_then ?_
      refine r_seq ?_
      refine sr 4 S H t0 fun a w S H => ?_
      refine r_test S rfl (fun h61 => ?_) (fun h61 => ?_)
      · skip
        refine r_region ?_
        refine rn 5 S H (by omega) fun a w S H => ?_
        refine r_extend (m := (to_ - o.length)) (xs' := u8s (o ++ List.replicate (to_ - o.length) 0)) (km := (o ++ List.replicate (to_ - o.length) 0).length) (L' := fun A9 c10 => blk bk (.cells #[.slice A7 y.tail.length c8] 47) :: row 5 1 (.slice A9 ((o ++ List.replicate (to_ - o.length) 0).length) c10) ((o ++ List.replicate (to_ - o.length) 0).length) (u8s (o ++ List.replicate (to_ - o.length) 0)) :: blk fb (.cells #[.slice A f.now.length c, .slice D f.syn.length e] 90) :: row 5 1 (.slice A f.now.length c) f.now.length (u8s f.now) :: row 5 1 (.slice D f.syn.length e) f.syn.length (u8s f.syn) :: M) 1 S H rfl rfl rfl rfl el41 Tryz.underlying3 rfl rfl (by first | omega | (simp <;> omega)) (by simp only [maxLen]; first | omega | (simp <;> omega)) (by first | omega | (simp <;> omega)) (by simp) (by simp [u8s]) (fun _ _ => rfl) rfl rfl rfl fun a w A9 c10 S H => ?_
        refine rn 1 S H t0 fun a w S H => ?_
        refine r_nil ?_
        refine x_then ?_
        have hcap := (SlOk.ofRow (i := 1) H rfl).le
        have hXl : to_ ≤ (o ++ List.replicate (to_ - o.length) 0).length := by simp; omega
        obtain ⟨b11, rfl⟩ := H.rowAt (i := 1) rfl (by omega)
        refine ha [0, 2, 3, 4] 5 H fun w H HS => ?_
        refine tk 0 S HS fun a S => ?_
        refine tk 1 S HS fun a S => ?_
        refine tkY 2 S HS rfl (y_sliceRow2 (k := 16 * k) S rfl rfl rfl Tryz.underlying41 Tryz.sizeOf5 rfl (by omega)) rfl rfl rfl fun a S => ?_
        refine tk 3 S HS fun a S => ?_
        refine tk 4 S HS fun a S => ?_
        refine tk 5 S HS fun a S => ?_
        refine tk 6 S HS fun a S => ?_
        refine tk 7 S HS fun a S => ?_
        refine tk 8 S HS fun a S => ?_
        refine tkY 9 S HS rfl (y_sliceLH (k := (16 * k)) (k' := to_) S rfl rfl rfl rfl Tryz.underlying41 Tryz.sizeOf5 (by first | omega | (simp <;> omega)) (by first | omega | (simp <;> omega)) (by first | omega | (simp <;> omega)) (by first | omega | (simp <;> omega))) rfl rfl rfl fun a S => ?_
        refine h1 10 ?_
        refine r_copy (L' := blk bk (.cells #[.slice A7 y.tail.length c8] 47) :: row 5 1 (.slice (some ⟨b11, 0, none⟩) ((o ++ List.replicate (to_ - o.length) 0).length) c10) ((o ++ List.replicate (to_ - o.length) 0).length) (u8s ((o ++ List.replicate (to_ - o.length) 0).take (16 * k) ++ ((f.now.drop (16 * k)).take (to_ - 16 * k)).take (min (to_ - 16 * k) ((o ++ List.replicate (to_ - o.length) 0).length - 16 * k)) ++ (o ++ List.replicate (to_ - o.length) 0).drop (16 * k + min (to_ - 16 * k) ((o ++ List.replicate (to_ - o.length) 0).length - 16 * k)))) :: blk fb (.cells #[.slice A f.now.length c, .slice D f.syn.length e] 90) :: row 5 1 (.slice A f.now.length c) f.now.length (u8s f.now) :: row 5 1 (.slice D f.syn.length e) f.syn.length (u8s f.syn) :: M) 1 S H rfl rfl rfl Tryz.underlying41 (by kernel_rfl) ((SlOk.ofRow (i := 3) H rfl).part8 (16 * k) to_ (by first | omega | (simp <;> omega)) (by first | omega | (simp <;> omega))) (one_u8s _) rfl (by first | omega | (simp <;> omega)) (by rw [copy8]; rfl) rfl rfl rfl fun a w S H => ?_
        generalize hX : (o ++ List.replicate (to_ - o.length) 0).take (16 * k) ++ ((f.now.drop (16 * k)).take (to_ - 16 * k)).take (min (to_ - 16 * k) ((o ++ List.replicate (to_ - o.length) 0).length - 16 * k)) ++ (o ++ List.replicate (to_ - o.length) 0).drop (16 * k + min (to_ - 16 * k) ((o ++ List.replicate (to_ - o.length) 0).length - 16 * k)) = X at H
        have hXn : (o ++ List.replicate (to_ - o.length) 0).length = X.length := by rw [← hX]; simp; omega
        rw [hXn] at H S
        refine sn ?_
        refine hk (pk [0, 2, 3, 4] 5 H) fun HS => ?_
        refine hz ?_
        refine x_blockEnd ?_
        refine x_then ?_
        refine er 3 S H (by omega) fun a w S H => ?_
        refine x_then ?_
        have hU2 : Dk.tornUpto f r (k + 1) = (X, y.tail) := by
          rw [Dk.tornUpto, hU, Dk.tornStep_yes hne hb, ← hto]
          exact Prod.ext ((torn_fin (by simp; omega) (by omega) (by first | rfl | (simp; omega)) (by first | omega | (simp; omega))).trans hX) rfl
        exact ⟨(k + 1, X, y.tail, (some ⟨b11, 0, none⟩), c10, A7, c8), ⟨S.sub ⟨rfl, rfl, (by first | rfl | simp), ((show lk _ _ = some _ from rfl).trans (congrArg (fun x => some (Value.int .i64 x)) (by omega))), rfl, trivial⟩, pk [1, 2, 3, 4, 0] 5 H, ⟨by unfold Dk.sectors; omega, hU2, okxA7⟩⟩, by show Dk.sectors f.now.length - (k + 1) < Dk.sectors f.now.length - k; unfold Dk.sectors; omega⟩
      refine wp_skip ?_
      refine x_then ?_
      have hcap := (SlOk.ofRow (i := 1) H rfl).le
      have hXl : to_ ≤ o.length := by omega
      obtain ⟨b12, rfl⟩ := H.rowAt (i := 1) rfl (by omega)
      refine ha [0, 2, 3, 4] 5 H fun w H HS => ?_
      refine tk 0 S HS fun a S => ?_
      refine tk 1 S HS fun a S => ?_
      refine tkY 2 S HS rfl (y_sliceRow2 (k := 16 * k) S rfl rfl rfl Tryz.underlying41 Tryz.sizeOf5 rfl (by omega)) rfl rfl rfl fun a S => ?_
      refine tk 3 S HS fun a S => ?_
      refine tk 4 S HS fun a S => ?_
      refine tk 5 S HS fun a S => ?_
      refine tk 6 S HS fun a S => ?_
      refine tk 7 S HS fun a S => ?_
      refine tk 8 S HS fun a S => ?_
      refine tkY 9 S HS rfl (y_sliceLH (k := (16 * k)) (k' := to_) S rfl rfl rfl rfl Tryz.underlying41 Tryz.sizeOf5 (by first | omega | (simp <;> omega)) (by first | omega | (simp <;> omega)) (by first | omega | (simp <;> omega)) (by first | omega | (simp <;> omega))) rfl rfl rfl fun a S => ?_
      refine h1 10 ?_
      refine r_copy (L' := blk bk (.cells #[.slice A7 y.tail.length c8] 47) :: row 5 1 (.slice (some ⟨b12, 0, none⟩) o.length co) o.length (u8s (o.take (16 * k) ++ ((f.now.drop (16 * k)).take (to_ - 16 * k)).take (min (to_ - 16 * k) (o.length - 16 * k)) ++ o.drop (16 * k + min (to_ - 16 * k) (o.length - 16 * k)))) :: blk fb (.cells #[.slice A f.now.length c, .slice D f.syn.length e] 90) :: row 5 1 (.slice A f.now.length c) f.now.length (u8s f.now) :: row 5 1 (.slice D f.syn.length e) f.syn.length (u8s f.syn) :: M) 1 S H rfl rfl rfl Tryz.underlying41 (by kernel_rfl) ((SlOk.ofRow (i := 3) H rfl).part8 (16 * k) to_ (by first | omega | (simp <;> omega)) (by first | omega | (simp <;> omega))) (one_u8s _) rfl (by first | omega | (simp <;> omega)) (by rw [copy8]; rfl) rfl rfl rfl fun a w S H => ?_
      generalize hX : o.take (16 * k) ++ ((f.now.drop (16 * k)).take (to_ - 16 * k)).take (min (to_ - 16 * k) (o.length - 16 * k)) ++ o.drop (16 * k + min (to_ - 16 * k) (o.length - 16 * k)) = X at H
      have hXn : o.length = X.length := by rw [← hX]; simp; omega
      rw [hXn] at H S
      refine sn ?_
      refine hk (pk [0, 2, 3, 4] 5 H) fun HS => ?_
      refine hz ?_
      refine x_blockEnd ?_
      refine x_then ?_
      refine er 3 S H (by omega) fun a w S H => ?_
      refine x_then ?_
      have hU2 : Dk.tornUpto f r (k + 1) = (X, y.tail) := by
        rw [Dk.tornUpto, hU, Dk.tornStep_yes hne hb, ← hto]
        exact Prod.ext ((torn_fin (by simp; omega) (by omega) (by first | rfl | (simp; omega)) (by first | omega | (simp; omega))).trans hX) rfl
      exact ⟨(k + 1, X, y.tail, (some ⟨b12, 0, none⟩), co, A7, c8), ⟨S.sub ⟨rfl, rfl, (by first | rfl | simp), ((show lk _ _ = some _ from rfl).trans (congrArg (fun x => some (Value.int .i64 x)) (by omega))), rfl, trivial⟩, pk [1, 2, 3, 4, 0] 5 H, ⟨by unfold Dk.sectors; omega, hU2, okxA7⟩⟩, by show Dk.sectors f.now.length - (k + 1) < Dk.sectors f.now.length - k; unfold Dk.sectors; omega⟩
    · skip
      refine r_seq ?_
      refine ha [0, 1, 2, 3, 4] 5 H fun w H HS => ?_
      refine tk 0 S HS fun a S => ?_
      refine tk 1 S HS fun a S => ?_
      refine tk 2 S HS fun a S => ?_
      refine tk 3 S HS fun a S => ?_
      refine tk 4 S HS fun a S => ?_
      refine tk 5 S HS fun a S => ?_
      refine tkY 6 S HS rfl (y_le S rfl rfl rfl) rfl rfl rfl fun a S => ?_
      have S := S.retell (v' := .bool true) 35 rfl (congrArg Value.bool (decide_eq_true (by omega)))
      refine tk 7 S HS fun a S => ?_
      refine tk 8 S HS fun a S => ?_
      refine tk 9 S HS fun a S => ?_
      refine tk 10 S HS fun a S => ?_
      refine tk 11 S HS fun a S => ?_
      refine tk 12 S HS fun a S => ?_
      refine tk 13 S HS fun a S => ?_
      refine tkY 14 S HS rfl (y_sliceLH (k := (16 * k)) (k' := to_) S rfl rfl rfl rfl Tryz.underlying41 Tryz.sizeOf5 (by first | omega | (simp <;> omega)) (by first | omega | (simp <;> omega)) (by first | omega | (simp <;> omega)) (by first | omega | (simp <;> omega))) rfl rfl rfl fun a S => ?_
      refine tk 15 S HS fun a S => ?_
      refine tk 16 S HS fun a S => ?_
      refine tk 17 S HS fun a S => ?_
      refine tk 18 S HS fun a S => ?_
      refine tk 19 S HS fun a S => ?_
      refine tk 20 S HS fun a S => ?_
      refine tkY 21 S HS rfl (y_sliceLH (k := (16 * k)) (k' := to_) S rfl rfl rfl rfl Tryz.underlying41 Tryz.sizeOf5 (by first | omega | (simp <;> omega)) (by first | omega | (simp <;> omega)) (by first | omega | (simp <;> omega)) (by first | omega | (simp <;> omega))) rfl rfl rfl fun a S => ?_
      refine h1 22 ?_
      refine r_call (args := #[.slice (shift A ((16 * k) * 1) (decide (c = (16 * k)))) (to_ - (16 * k)) (c - (16 * k)), .slice (shift D ((16 * k) * 1) (decide (e = (16 * k)))) (to_ - (16 * k)) (e - (16 * k))]) S rfl rfl Tryz.call101 (equal_ct (H := H) _ _ _ _ _ _ ((SlOk.ofRow (i := 2) H rfl).part8 (16 * k) to_ (by first | omega | (simp <;> omega)) (by first | omega | (simp <;> omega))) _ _ _ _ ((SlOk.ofRow (i := 3) H rfl).part8 (16 * k) to_ (by first | omega | (simp <;> omega)) (by first | omega | (simp <;> omega)))) rfl rfl rfl fun v a w hR S => ?_
      obtain ⟨rfl, H⟩ := hR
      have S := S.retell (v' := .bool true) 51 rfl (congrArg Value.bool (decide_eq_true (by rw [hto]; exact he)))
      refine sn ?_
      refine hk (H) fun HS => ?_
      refine tk 23 S HS fun a S => ?_
      refine tk 24 S HS fun a S => ?_
      refine tkS 25 S HS fun a S => ?_
      refine tkS 26 S HS fun a S => ?_
      refine tkS 27 S HS fun a S => ?_
      refine tk 28 S HS fun a S => ?_
      refine hz ?_
      refine x_then ?_
      refine r_condT S rfl ?_
      refine wp_exit ?_
      refine x_thenExit ?_
      refine x_blockHere ?_
      refine x_then ?_
      refine er 3 S H (by omega) fun a w S H => ?_
      refine x_then ?_
      have hU2 : Dk.tornUpto f r (k + 1) = (o, y) := by
        rw [Dk.tornUpto, hU]
        exact Dk.tornStep_same hq he
      exact ⟨(k + 1, o, y, Ao, co, Ay, cy), ⟨S.sub ⟨rfl, rfl, (by first | rfl | simp), ((show lk _ _ = some _ from rfl).trans (congrArg (fun x => some (Value.int .i64 x)) (by omega))), rfl, trivial⟩, H, ⟨by unfold Dk.sectors; omega, hU2, oky⟩⟩, by show Dk.sectors f.now.length - (k + 1) < Dk.sectors f.now.length - k; unfold Dk.sectors; omega⟩
    have hne : ¬ (min (16 * k + 16) f.now.length ≤ f.syn.length ∧ (f.now.drop (16 * k)).take (min (16 * k + 16) f.now.length - 16 * k) = (f.syn.drop (16 * k)).take (min (16 * k + 16) f.now.length - 16 * k)) := fun h => he h.2
    refine r_seq ?_
    refine ha [0, 1, 2, 3] 5 H fun w H HS => ?_
    refine tk 0 S HS fun a S => ?_
    refine tk 1 S HS fun a S => ?_
    refine tk 2 S HS fun a S => ?_
    refine tk 3 S HS fun a S => ?_
    refine tk 4 S HS fun a S => ?_
    refine tk 5 S HS fun a S => ?_
    refine tkY 6 S HS rfl (y_le S rfl rfl rfl) rfl rfl rfl fun a S => ?_
    have S := S.retell (v' := .bool true) 35 rfl (congrArg Value.bool (decide_eq_true (by omega)))
    refine tk 7 S HS fun a S => ?_
    refine tk 8 S HS fun a S => ?_
    refine tk 9 S HS fun a S => ?_
    refine tk 10 S HS fun a S => ?_
    refine tk 11 S HS fun a S => ?_
    refine tk 12 S HS fun a S => ?_
    refine tk 13 S HS fun a S => ?_
    refine tkY 14 S HS rfl (y_sliceLH (k := (16 * k)) (k' := to_) S rfl rfl rfl rfl Tryz.underlying41 Tryz.sizeOf5 (by first | omega | (simp <;> omega)) (by first | omega | (simp <;> omega)) (by first | omega | (simp <;> omega)) (by first | omega | (simp <;> omega))) rfl rfl rfl fun a S => ?_
    refine tk 15 S HS fun a S => ?_
    refine tk 16 S HS fun a S => ?_
    refine tk 17 S HS fun a S => ?_
    refine tk 18 S HS fun a S => ?_
    refine tk 19 S HS fun a S => ?_
    refine tk 20 S HS fun a S => ?_
    refine tkY 21 S HS rfl (y_sliceLH (k := (16 * k)) (k' := to_) S rfl rfl rfl rfl Tryz.underlying41 Tryz.sizeOf5 (by first | omega | (simp <;> omega)) (by first | omega | (simp <;> omega)) (by first | omega | (simp <;> omega)) (by first | omega | (simp <;> omega))) rfl rfl rfl fun a S => ?_
    refine h1 22 ?_
    refine r_call (args := #[.slice (shift A ((16 * k) * 1) (decide (c = (16 * k)))) (to_ - (16 * k)) (c - (16 * k)), .slice (shift D ((16 * k) * 1) (decide (e = (16 * k)))) (to_ - (16 * k)) (e - (16 * k))]) S rfl rfl Tryz.call101 (equal_ct (H := H) _ _ _ _ _ _ ((SlOk.ofRow (i := 2) H rfl).part8 (16 * k) to_ (by first | omega | (simp <;> omega)) (by first | omega | (simp <;> omega))) _ _ _ _ ((SlOk.ofRow (i := 3) H rfl).part8 (16 * k) to_ (by first | omega | (simp <;> omega)) (by first | omega | (simp <;> omega)))) rfl rfl rfl fun v a w hR S => ?_
    obtain ⟨rfl, H⟩ := hR
    have S := S.retell (v' := .bool false) 51 rfl (congrArg Value.bool (decide_eq_false (by rw [hto]; exact he)))
    refine sn ?_
    refine hk (pk [0, 1, 2, 3] 5 H) fun HS => ?_
    refine tk 23 S HS fun a S => ?_
    refine tk 24 S HS fun a S => ?_
    refine tk 25 S HS fun a S => ?_
    refine h1 26 ?_
    refine r_callV (args := #[]) S rfl rfl rfl Tryz.call84 (next_ct (H := pk [4, 0, 1, 2, 3] 5 H) _ _ fr (fun _ H => hM _ (H.drop.drop.drop.drop)) bk _ _ y oky) rfl rfl rfl fun v a w hR S => ?_
    obtain ⟨rfl, A13, c14, okxA13, H⟩ := hR
    refine sn ?_
    refine hk (pk [1, 2, 3, 4] 5 H) fun HS => ?_
    refine tk 27 S HS fun a S => ?_
    refine tk 28 S HS fun a S => ?_
    refine hz ?_
    refine x_then ?_
    refine r_cond S rfl (fun h57 => ?_) (fun h57 => ?_)
    · skip
      have hb : y.headD false = false := by simpa using h57
      refine wp_exit ?_
      refine x_thenExit ?_
      refine x_blockHere ?_
      refine x_then ?_
      refine er 3 S H (by omega) fun a w S H => ?_
      refine x_then ?_
      have hU2 : Dk.tornUpto f r (k + 1) = (o, y.tail) := by
        rw [Dk.tornUpto, hU]
        exact Dk.tornStep_no hne hb
      exact ⟨(k + 1, o, y.tail, Ao, co, A13, c14), ⟨S.sub ⟨rfl, rfl, (by first | rfl | simp), ((show lk _ _ = some _ from rfl).trans (congrArg (fun x => some (Value.int .i64 x)) (by omega))), rfl, trivial⟩, pk [1, 2, 3, 4, 0] 5 H, ⟨by unfold Dk.sectors; omega, hU2, okxA13⟩⟩, by show Dk.sectors f.now.length - (k + 1) < Dk.sectors f.now.length - k; unfold Dk.sectors; omega⟩
    have hb : y.headD false = true := by simpa using h57
    refine wp_skip ?_
    refine x_then ?_
    refine r_seq ?_
    refine sr 4 S H t0 fun a w S H => ?_
    refine r_test S rfl (fun h61 => ?_) (fun h61 => ?_)
    · skip
      refine r_region ?_
      refine rn 5 S H (by omega) fun a w S H => ?_
      refine r_extend (m := (to_ - o.length)) (xs' := u8s (o ++ List.replicate (to_ - o.length) 0)) (km := (o ++ List.replicate (to_ - o.length) 0).length) (L' := fun A15 c16 => blk bk (.cells #[.slice A13 y.tail.length c14] 47) :: row 5 1 (.slice A15 ((o ++ List.replicate (to_ - o.length) 0).length) c16) ((o ++ List.replicate (to_ - o.length) 0).length) (u8s (o ++ List.replicate (to_ - o.length) 0)) :: blk fb (.cells #[.slice A f.now.length c, .slice D f.syn.length e] 90) :: row 5 1 (.slice A f.now.length c) f.now.length (u8s f.now) :: row 5 1 (.slice D f.syn.length e) f.syn.length (u8s f.syn) :: M) 1 S H rfl rfl rfl rfl el41 Tryz.underlying3 rfl rfl (by first | omega | (simp <;> omega)) (by simp only [maxLen]; first | omega | (simp <;> omega)) (by first | omega | (simp <;> omega)) (by simp) (by simp [u8s]) (fun _ _ => rfl) rfl rfl rfl fun a w A15 c16 S H => ?_
      refine rn 1 S H t0 fun a w S H => ?_
      refine r_nil ?_
      refine x_then ?_
      have hcap := (SlOk.ofRow (i := 1) H rfl).le
      have hXl : to_ ≤ (o ++ List.replicate (to_ - o.length) 0).length := by simp; omega
      obtain ⟨b17, rfl⟩ := H.rowAt (i := 1) rfl (by omega)
      refine ha [0, 2, 3, 4] 5 H fun w H HS => ?_
      refine tk 0 S HS fun a S => ?_
      refine tk 1 S HS fun a S => ?_
      refine tkY 2 S HS rfl (y_sliceRow2 (k := 16 * k) S rfl rfl rfl Tryz.underlying41 Tryz.sizeOf5 rfl (by omega)) rfl rfl rfl fun a S => ?_
      refine tk 3 S HS fun a S => ?_
      refine tk 4 S HS fun a S => ?_
      refine tk 5 S HS fun a S => ?_
      refine tk 6 S HS fun a S => ?_
      refine tk 7 S HS fun a S => ?_
      refine tk 8 S HS fun a S => ?_
      refine tkY 9 S HS rfl (y_sliceLH (k := (16 * k)) (k' := to_) S rfl rfl rfl rfl Tryz.underlying41 Tryz.sizeOf5 (by first | omega | (simp <;> omega)) (by first | omega | (simp <;> omega)) (by first | omega | (simp <;> omega)) (by first | omega | (simp <;> omega))) rfl rfl rfl fun a S => ?_
      refine h1 10 ?_
      refine r_copy (L' := blk bk (.cells #[.slice A13 y.tail.length c14] 47) :: row 5 1 (.slice (some ⟨b17, 0, none⟩) ((o ++ List.replicate (to_ - o.length) 0).length) c16) ((o ++ List.replicate (to_ - o.length) 0).length) (u8s ((o ++ List.replicate (to_ - o.length) 0).take (16 * k) ++ ((f.now.drop (16 * k)).take (to_ - 16 * k)).take (min (to_ - 16 * k) ((o ++ List.replicate (to_ - o.length) 0).length - 16 * k)) ++ (o ++ List.replicate (to_ - o.length) 0).drop (16 * k + min (to_ - 16 * k) ((o ++ List.replicate (to_ - o.length) 0).length - 16 * k)))) :: blk fb (.cells #[.slice A f.now.length c, .slice D f.syn.length e] 90) :: row 5 1 (.slice A f.now.length c) f.now.length (u8s f.now) :: row 5 1 (.slice D f.syn.length e) f.syn.length (u8s f.syn) :: M) 1 S H rfl rfl rfl Tryz.underlying41 (by kernel_rfl) ((SlOk.ofRow (i := 3) H rfl).part8 (16 * k) to_ (by first | omega | (simp <;> omega)) (by first | omega | (simp <;> omega))) (one_u8s _) rfl (by first | omega | (simp <;> omega)) (by rw [copy8]; rfl) rfl rfl rfl fun a w S H => ?_
      generalize hX : (o ++ List.replicate (to_ - o.length) 0).take (16 * k) ++ ((f.now.drop (16 * k)).take (to_ - 16 * k)).take (min (to_ - 16 * k) ((o ++ List.replicate (to_ - o.length) 0).length - 16 * k)) ++ (o ++ List.replicate (to_ - o.length) 0).drop (16 * k + min (to_ - 16 * k) ((o ++ List.replicate (to_ - o.length) 0).length - 16 * k)) = X at H
      have hXn : (o ++ List.replicate (to_ - o.length) 0).length = X.length := by rw [← hX]; simp; omega
      rw [hXn] at H S
      refine sn ?_
      refine hk (pk [0, 2, 3, 4] 5 H) fun HS => ?_
      refine hz ?_
      refine x_blockEnd ?_
      refine x_then ?_
      refine er 3 S H (by omega) fun a w S H => ?_
      refine x_then ?_
      have hU2 : Dk.tornUpto f r (k + 1) = (X, y.tail) := by
        rw [Dk.tornUpto, hU, Dk.tornStep_yes hne hb, ← hto]
        exact Prod.ext ((torn_fin (by simp; omega) (by omega) (by first | rfl | (simp; omega)) (by first | omega | (simp; omega))).trans hX) rfl
      exact ⟨(k + 1, X, y.tail, (some ⟨b17, 0, none⟩), c16, A13, c14), ⟨S.sub ⟨rfl, rfl, (by first | rfl | simp), ((show lk _ _ = some _ from rfl).trans (congrArg (fun x => some (Value.int .i64 x)) (by omega))), rfl, trivial⟩, pk [1, 2, 3, 4, 0] 5 H, ⟨by unfold Dk.sectors; omega, hU2, okxA13⟩⟩, by show Dk.sectors f.now.length - (k + 1) < Dk.sectors f.now.length - k; unfold Dk.sectors; omega⟩
    refine wp_skip ?_
    refine x_then ?_
    have hcap := (SlOk.ofRow (i := 1) H rfl).le
    have hXl : to_ ≤ o.length := by omega
    obtain ⟨b18, rfl⟩ := H.rowAt (i := 1) rfl (by omega)
    refine ha [0, 2, 3, 4] 5 H fun w H HS => ?_
    refine tk 0 S HS fun a S => ?_
    refine tk 1 S HS fun a S => ?_
    refine tkY 2 S HS rfl (y_sliceRow2 (k := 16 * k) S rfl rfl rfl Tryz.underlying41 Tryz.sizeOf5 rfl (by omega)) rfl rfl rfl fun a S => ?_
    refine tk 3 S HS fun a S => ?_
    refine tk 4 S HS fun a S => ?_
    refine tk 5 S HS fun a S => ?_
    refine tk 6 S HS fun a S => ?_
    refine tk 7 S HS fun a S => ?_
    refine tk 8 S HS fun a S => ?_
    refine tkY 9 S HS rfl (y_sliceLH (k := (16 * k)) (k' := to_) S rfl rfl rfl rfl Tryz.underlying41 Tryz.sizeOf5 (by first | omega | (simp <;> omega)) (by first | omega | (simp <;> omega)) (by first | omega | (simp <;> omega)) (by first | omega | (simp <;> omega))) rfl rfl rfl fun a S => ?_
    refine h1 10 ?_
    refine r_copy (L' := blk bk (.cells #[.slice A13 y.tail.length c14] 47) :: row 5 1 (.slice (some ⟨b18, 0, none⟩) o.length co) o.length (u8s (o.take (16 * k) ++ ((f.now.drop (16 * k)).take (to_ - 16 * k)).take (min (to_ - 16 * k) (o.length - 16 * k)) ++ o.drop (16 * k + min (to_ - 16 * k) (o.length - 16 * k)))) :: blk fb (.cells #[.slice A f.now.length c, .slice D f.syn.length e] 90) :: row 5 1 (.slice A f.now.length c) f.now.length (u8s f.now) :: row 5 1 (.slice D f.syn.length e) f.syn.length (u8s f.syn) :: M) 1 S H rfl rfl rfl Tryz.underlying41 (by kernel_rfl) ((SlOk.ofRow (i := 3) H rfl).part8 (16 * k) to_ (by first | omega | (simp <;> omega)) (by first | omega | (simp <;> omega))) (one_u8s _) rfl (by first | omega | (simp <;> omega)) (by rw [copy8]; rfl) rfl rfl rfl fun a w S H => ?_
    generalize hX : o.take (16 * k) ++ ((f.now.drop (16 * k)).take (to_ - 16 * k)).take (min (to_ - 16 * k) (o.length - 16 * k)) ++ o.drop (16 * k + min (to_ - 16 * k) (o.length - 16 * k)) = X at H
    have hXn : o.length = X.length := by rw [← hX]; simp; omega
    rw [hXn] at H S
    refine sn ?_
    refine hk (pk [0, 2, 3, 4] 5 H) fun HS => ?_
    refine hz ?_
    refine x_blockEnd ?_
    refine x_then ?_
    refine er 3 S H (by omega) fun a w S H => ?_
    refine x_then ?_
    have hU2 : Dk.tornUpto f r (k + 1) = (X, y.tail) := by
      rw [Dk.tornUpto, hU, Dk.tornStep_yes hne hb, ← hto]
      exact Prod.ext ((torn_fin (by simp; omega) (by omega) (by first | rfl | (simp; omega)) (by first | omega | (simp; omega))).trans hX) rfl
    exact ⟨(k + 1, X, y.tail, (some ⟨b18, 0, none⟩), co, A13, c14), ⟨S.sub ⟨rfl, rfl, (by first | rfl | simp), ((show lk _ _ = some _ from rfl).trans (congrArg (fun x => some (Value.int .i64 x)) (by omega))), rfl, trivial⟩, pk [1, 2, 3, 4, 0] 5 H, ⟨by unfold Dk.sectors; omega, hU2, okxA13⟩⟩, by show Dk.sectors f.now.length - (k + 1) < Dk.sectors f.now.length - k; unfold Dk.sectors; omega⟩
  refine wp_exit ?_
  refine x_thenExit ?_
  refine x_thenExit ?_
  refine x_blockHere ?_
  refine x_then ?_
  refine r_region ?_
  refine rn 4 S H t0 fun a w S H => ?_
  refine r_call (args := #[.slice Ao o.length co]) S rfl rfl Tryz.call71 (clone8_ct (H := H) _ _ _ _ _ o (SlOk.ofRow (i := 0) H rfl) (by omega)) rfl rfl rfl fun v a w hR S => ?_
  obtain ⟨A23, c24, rfl, H⟩ := hR
  refine rn 6 S H t0 fun a w S H => ?_
  refine r_nil ?_
  refine r_end0 S Tryz.results85 ?_
  have hk : k = Dk.sectors f.now.length := by unfold Dk.sectors at *; omega
  have hT : Dk.torn f r = (o, y) := by unfold Dk.torn; rw [← hk, hU]
  rw [hT]
  exact ⟨rfl, _, _, oky, Sat.shutFile ⟨o, o⟩ (pk [2, 1, 0, 5] 6 H)⟩

end Go.Proofs.YtgfdmhjjlajmgaaGreatDoor
namespace Go.Proofs.YtgfdmhjjlajmgaaGreatDoor
open Go.RowKit Go.Cg
set_option linter.unusedVariables false
set_option linter.unusedSimpArgs false
set_option maxRecDepth 8000
set_option synthInstance.maxHeartbeats 1000000
set_option synthInstance.maxSize 1000000
open Go.Maps Go.Sort Go.Shelf Go.Proofs
open Go.WideElems (Fit rd rg)
open Go.Cg.Dk (Nm)
def strs (l : List Nm) : List Value := l.map nms
@[simp] theorem len_strs (l : List Nm) : (strs l).length = l.length := by simp [strs]
theorem one_strs (l : List Nm) : ∀ u ∈ strs l, u.oneCell' = true := by intro u hu; simp only [strs, List.mem_map] at hu; obtain ⟨x, _, rfl⟩ := hu; rfl
theorem strs_at {l : List Nm} {i : Nat} (h : i < l.length) : (strs l)[i * 1]? = some (str (l.getD i [])) := by
  rw [Nat.mul_one, strs, List.getElem?_map, List.getD_eq_getElem?_getD, List.getElem?_eq_getElem h]; rfl
theorem sortsA (m : Nat) : AnyZ.SortsIn Tryz.prog sortedA_ren Fence.wide m :=
  ⟨fun blk off cap ss W hH hblk hsz => callsIn_wide.2 (AnyM.slices_Sort_string sortA blk off cap ss W hH hblk hsz),
   fun p cap W => callsIn_wide.2 (AnyM.slices_Sort_string_none sortA p cap W)⟩
theorem Sat.later {w w' : World} {L : List Res} {e : TypeId} {v : Value} {n : Nat} {xs : List Value} (H : Sat w L) (h : w'.ownsRow w.heap.size e 1 v n xs) (hb : Below w.heap.size w w') : Sat w' (row e 1 v n xs :: L) :=
  H.add ⟨hb.os, hb.tape, hb.output, hb.size⟩ hb.block (fun k => v.ownBlock = some k) (fun k hk => h.lt k hk) ⟨ownsRow_base h, fun _ => Iff.rfl⟩
theorem sort_keys {ss ns : List Nm} (h : ss.Perm ns) (hs : ns.Pairwise (· < ·)) : ss.mergeSort (fun x y => decide (x ≤ y)) = ns := by
  rw [mergeSort_of_perm h]
  refine List.mergeSort_of_pairwise (List.Pairwise.imp ?_ hs)
  intro a b hab
  simp only [leB, decide_eq_true_eq]
  exact List.le_of_lt hab
theorem keys_ct (w : World) (fr : List Res) (mb : Nat) (H : Sat w fr) : Rt Tryz.prog 37 #[.map (some mb)] w fun v w' => ∃ kb, v = .func (.func 63) #[] #[.pointer (some ⟨kb, 0, none⟩)] ∧ Sat w' (blk kb (.cells #[.map (some mb)] 53) :: fr) := by
  have h : Calls Tryz.prog 37 #[.map (some mb)] w _ := callsIn_wide.1 (AnyZ.keys_in keysA Fence.wide 6 trivial rfl (some mb) w)
  refine h.mono ?_
  rintro e w' ⟨rfl, rfl⟩
  exact ⟨_, rfl, _, rfl, H.alloc _⟩
theorem sorted_ct (w : World) (fr : List Res) (kb mb : Nat) (t : Tbl) (ns : List Nm) (hp : ns.Perm (t.map (·.1))) (hs : ns.Pairwise (· < ·)) (hlen : ns.length ≤ 4398046511104) (hn : ∀ p ∈ t, p.1.length ≤ 24) (H : Sat w (blk kb (.cells #[.map (some mb)] 53) :: tbR mb t :: fr)) :
    Rt Tryz.prog 36 #[.func (.func 63) #[] #[.pointer (some ⟨kb, 0, none⟩)]] w fun v w' => ∃ A c, v = .slice A ns.length c ∧ Sat w' (row 9 1 (.slice A ns.length c) ns.length (strs ns) :: blk kb (.cells #[.map (some mb)] 53) :: tbR mb t :: fr) := by
  obtain ⟨es, clock, hb, he, hst⟩ := (H.fetch (i := 1) rfl).map
  have hkb := (H.cellOf (i := 0) rfl).1 (j := 0)
  have hbl : kb < w.heap.size := by
    obtain ⟨G, hG, hb', hk⟩ := H.head
    exact hG kb ((hk kb).2 rfl)
  have hlt : t.length = ns.length := by simpa using hp.length_eq.symm
  have hles : es.size = t.length := by have := congrArg List.length he; simpa [tmap] using this
  have hkey : ∀ x ∈ es.toList, ∃ n : Nm, x.key = nms n ∧ n.length ≤ 24 := by
    intro x hx
    have : (x.key, x.val) ∈ es.toList.map (fun e => (e.key, e.val)) := List.mem_map.2 ⟨x, hx, rfl⟩
    rw [he] at this
    obtain ⟨p, hp', e⟩ := List.mem_map.1 this
    obtain ⟨q, hq, e2⟩ := List.mem_map.1 hp'
    have := hn q hq
    subst e2
    exact ⟨q.1, (congrArg Prod.fst e).symm, this⟩
  have hrd : ∀ x ∈ es.toList, ∀ n : Nm, x.key = nms n → n.length ≤ 24 → rd (H := Unit) Tryz.prog 9 (fun _ => some (.lit (.bool true), [])) x = some (.string n, .lit (.bool true)) := by
    intro x hx n e hl
    unfold Go.WideElems.rd
    rw [e, Go.WideMaps.keyOf_string_mk Tryz.underlying9 (by simp only [maxLen, ByteArray.size]; simp; omega)]
    rfl
  have Ft : Fit (H := Unit) Tryz.prog 9 (fun _ => some (.lit (.bool true), [])) es clock := ⟨by simp only [maxLen]; omega, hst, fun x hx => by
    obtain ⟨n, e, hl⟩ := hkey x hx
    exact ⟨_, hrd x hx n e hl⟩⟩
  have hkeys : ∀ (l : List MapEntry) (t' : Tbl), (∀ x ∈ l, x ∈ es.toList) → (∀ p ∈ t', p ∈ t) → l.map (fun e => (e.key, e.val)) = (tmap t').map (fun p => (nms p.1, mkP p.2)) → l.map (fun x => strOf (rg (H := Unit) Tryz.prog 9 (fun _ => some (.lit (.bool true), [])) x).1) = t'.map (·.1) := by
    intro l
    induction l with
    | nil => intro t' _ _ h; cases t' with | nil => rfl | cons p r => simp [tmap] at h
    | cons x l ih =>
      intro t' h1 h2 h
      cases t' with
      | nil => simp [tmap] at h
      | cons p r =>
        simp only [tmap, List.map_cons, List.cons.injEq, Prod.mk.injEq] at h
        have e := hrd x (h1 x List.mem_cons_self) p.1 h.1.1 (hn p (h2 p List.mem_cons_self))
        simp only [List.map_cons, rg, e, Option.getD_some, strOf]
        congr 1
        exact ih r (fun y hy => h1 y (List.mem_cons_of_mem _ hy)) (fun q hq => h2 q (List.mem_cons_of_mem _ hq)) h.2
  have hk := hkeys es.toList t (fun _ h => h) (fun _ h => h) he
  have hperm : (strKeys (H := Unit) (.map ((es.toList.map (rg Tryz.prog 9 (fun _ => some (.lit (.bool true), [])))).foldr DataW.insert []))).Perm ns := by
    refine List.Perm.trans ?_ hp.symm
    rw [← hk]
    show (((es.toList.map _).foldr DataW.insert []).map _).Perm _
    refine ((Go.WideShapes.sorted_perm _).map _).trans ?_
    rw [List.map_map]
    exact List.Perm.refl _
  have hsz : Maps.size (H := Unit) (.map ((es.toList.map (rg Tryz.prog 9 (fun _ => some (.lit (.bool true), [])))).foldr DataW.insert [])) = ns.length := by
    simp only [Maps.size, length_sorted, List.length_map, Array.length_toList]; omega
  have hseq : SeqGives Fence.wide 2 Tryz.prog 63 #[.pointer (some ⟨kb, 0, none⟩)] encStr (fun ss => ss.Perm (strKeys (H := Unit) (.map ((es.toList.map (rg Tryz.prog 9 (fun _ => some (.lit (.bool true), [])))).foldr DataW.insert [])))) (Maps.size (H := Unit) (.map ((es.toList.map (rg Tryz.prog 9 (fun _ => some (.lit (.bool true), [])))).foldr DataW.insert []))) w :=
    AnyZ.keys_gives (ρ := keysA_ren) { keysA with } Fence.wide _ trivial rfl (by omega) kb mb es.size _ w hbl (by simpa using hkb) ⟨es, clock, hb, Ft, Nat.le_refl _, rfl⟩
  have cS := AnyZ.sorted_in sortedA Fence.wide 5 trivial trivial trivial trivial rfl (by omega) (sortsA _) (enters_of Tryz.func62 (by kernel_rfl) rfl) 63 #[.pointer (some ⟨kb, 0, none⟩)] trivial (enters_of Tryz.func63 (by kernel_rfl) rfl) _ _ (by simp only [maxLen]; omega) (by omega) w hseq
  have h : Calls Tryz.prog 36 #[.func (.func 63) #[] #[.pointer (some ⟨kb, 0, none⟩)]] w _ := callsIn_wide.1 cS
  refine h.mono ?_
  rintro e w' ⟨v, ss, rfl, hS, hrow, hnil, hbw⟩
  have hSn := hS.trans hperm
  rw [sort_keys hSn hs, show ss.length = ns.length from hSn.length_eq] at hrow
  refine ⟨v, rfl, ?_⟩
  have hform : ∃ A c, v = .slice A ns.length c := by
    rcases hrow.2 with ⟨h1, h2⟩ | ⟨g, cap, cur, h1, _⟩
    · exact ⟨none, 0, by rw [h1, h2]⟩
    · exact ⟨_, cap, h1⟩
  obtain ⟨A, c, rfl⟩ := hform
  exact ⟨A, c, rfl, Sat.later H hrow hbw⟩
end Go.Proofs.YtgfdmhjjlajmgaaGreatDoor
namespace Go.Proofs.YtgfdmhjjlajmgaaGreatDoor
open Go.RowKit Go.Cg
set_option linter.unusedVariables false
set_option linter.unusedSimpArgs false
set_option maxRecDepth 8000
set_option synthInstance.maxHeartbeats 1000000
set_option synthInstance.maxSize 1000000
open Go.Cg.Dk (Fl Fs Nm crashed tornRest tornAll)
theorem crashU_ct (w : World) (fr : List Res) (db mb room used : Nat) (ops : Int) (armed : Nat) (kA : Option Addr) (kn kc : Nat) (fs : Fs) (t : Tbl) (A : Option Addr) (c : Nat) (k : List Bool) (ok : SlOk fr 1 A k.length c (bools k)) (hris : Dk.rising fs) (hsyn : ∀ p ∈ fs, p.2.syn.length ≤ p.2.now.length) (hlen : ∀ p ∈ fs, p.2.now.length ≤ 17592186044416) (hnam : ∀ p ∈ t, p.1.length ≤ 24) (hcnt : fs.length ≤ 4398046511104) (hT : Tied t fs) (hus0 : Dk.used fs ≤ 1099511627776) (H : Sat w (blk db (.cells #[.map (some mb), .int .i64 ((room : Nat) : Int), .int .i64 ((used : Nat) : Int), .int .i64 ops, .int .i64 ((armed : Nat) : Int), .slice kA kn kc, .int .u32 (dnI false)] 63) :: mp (nms) (mkP) mb (tmap t) :: filesR t fs :: fr)) :
    Rt Tryz.prog 60 #[.pointer (some ⟨db, 0, none⟩), .slice A k.length c] w fun v w' => v = .tuple #[] ∧ Sat w' (blk db (.cells #[.map (some mb), .int .i64 ((room : Nat) : Int), .int .i64 ((Dk.used (tornAll fs k) : Nat) : Int), .int .i64 ops, .int .i64 0, .slice kA kn kc, .int .u32 (dnI true)] 63) :: mp (nms) (mkP) mb (tmap t) :: filesR t (tornAll fs k) :: fr) := by
  refine en2 Tryz.func60 rfl Tryz.ntmps60 rfl fun a S => ?_
  obtain ⟨ns, hns⟩ : ∃ ns, ns = fs.map (·.1) := ⟨_, rfl⟩
  refine sb ?_
  refine r_box (c := #[.slice A k.length c]) S H rfl rfl rfl rfl rfl rfl fun a w b1 S H => ?_
  refine sn ?_
  refine r_seq ?_
  refine sr 4 S H (by omega) fun a w S H => ?_
  refine r_condF S rfl ?_
  refine wp_skip ?_
  refine x_then ?_
  refine sr 8 S H t0 fun a w S H => ?_
  refine sb ?_
  refine r_y S H (y_makeFunc (vs := #[.pointer (some ⟨b1, 0, none⟩)]) S rfl rfl) rfl rfl rfl fun a S => ?_
  refine rs 1 S H t0 fun a w S H => ?_
  refine sb ?_
  refine rn 4 S H t0 fun a w S H => ?_
  refine r_call (args := #[.map (some mb)]) S rfl rfl Tryz.call37 (keys_ct (H := H) _ _ mb) rfl rfl rfl fun v a w hR S => ?_
  obtain ⟨kb4, rfl, H⟩ := hR
  refine r_call (args := #[.func (.func 63) #[] #[.pointer (some ⟨kb4, 0, none⟩)]]) S rfl rfl Tryz.call36 (sorted_ct (H := (pk [0, 3, 1, 2, 4] 5 H)) _ _ kb4 mb t ns (hns ▸ hT) (hns ▸ List.pairwise_map.2 hris) (by rw [hns]; simp; omega) hnam) rfl rfl rfl fun v a w hR S => ?_
  obtain ⟨A5, c6, rfl, H⟩ := hR
  refine rs 2 S H t0 fun a w S H => ?_
  refine r_block ?_
  rw [← Dk.crashed_zero fs k] at H
  refine r_loop (ι := Nat × Nat × List Bool × Option Addr × Nat) (fun ⟨i, u, r, Ay, cy⟩ a w => Slots a 53 [(0, .pointer (some ⟨db, 0, none⟩)), (4, .func (.func 84) #[] #[.pointer (some ⟨b1, 0, none⟩)]), (24, .slice A5 ns.length c6), (25, .int .i64 ((ns.length : Nat) : Int)), (26, .int .i64 ((i : Nat) : Int)), (53, undef)] ∧ Sat w (row 9 1 (.slice A5 ns.length c6) ns.length (strs ns) :: blk kb4 (.cells #[.map (some mb)] 53) :: blk db (.cells #[.map (some mb), .int .i64 ((room : Nat) : Int), .int .i64 ((u : Nat) : Int), .int .i64 ops, .int .i64 0, .slice kA kn kc, .int .u32 (dnI true)] 63) :: mp (nms) (mkP) mb (tmap t) :: filesR t (crashed fs k i) :: blk b1 (.cells #[.slice Ay r.length cy] 47) :: fr) ∧ (i ≤ fs.length ∧ u = Dk.used (tornAll (fs.take i) k) ∧ r = tornRest (fs.take i) k ∧ SlOk fr 1 Ay r.length cy (bools r))) (fun ⟨i, u, r, Ay, cy⟩ => fs.length - i) (0, 0, k, A, c) ⟨S.sub ⟨rfl, rfl, rfl, rfl, rfl, rfl, trivial⟩, pk [0, 1, 4, 2, 5, 3] 6 H, ⟨Nat.zero_le _, (Dk.used_zero fs k).symm, (Dk.tornRest_zero fs k).symm, ok⟩⟩ (fun ⟨i, u, r, Ay, cy⟩ a w hI => ?_)
  obtain ⟨S, H, hI⟩ := hI
  obtain ⟨hil, hu, hr, oky⟩ := hI
  refine sr 1 S H t0 fun a w S H => ?_
  refine r_seq ?_
  refine r_test S rfl (fun h27 => ?_) (fun h27 => ?_)
  · skip
    refine wp_skip ?_
    refine x_then ?_
    refine r_seq ?_
    refine r_block ?_
    have hi : i < fs.length := by rw [hns] at h27; simp at h27; omega
    obtain ⟨n, f, hn, hmem, hget, hput, hrest, hus⟩ := Dk.crash_at hris k hi
    obtain ⟨fb, hlk⟩ : ∃ fb, tlook t n = some fb := by
      have h1 : n ∈ t.map (·.1) := hT.mem_iff.1 (List.mem_map.2 ⟨_, hmem, rfl⟩)
      obtain ⟨p, hp, e⟩ := List.mem_map.1 h1
      cases ht : tlook t n with
      | some b => exact ⟨b, rfl⟩
      | none => exact absurd e (tlook_none ht p hp)
    rw [← hr] at hput hrest hus
    obtain ⟨o, r2, hto⟩ : ∃ o r2, Dk.torn f r = (o, r2) := ⟨_, _, rfl⟩
    have hsy : f.syn.length ≤ f.now.length := hsyn _ hmem
    have hln : f.now.length ≤ 17592186044416 := hlen _ hmem
    have hol := (Dk.torn_len r hsy).2
    rw [hto] at hol hput hrest hus
    have hol' : o.length ≤ f.now.length := hol
    have hus' : Dk.used (tornAll (fs.take (i + 1)) k) = u + Dk.sectors o.length := by rw [hus, hu]
    have hub := Dk.used_take hsyn k (i + 1)
    refine sb ?_
    obtain ⟨b7, rfl⟩ := H.rowAt (i := 0) rfl (by first | omega | (simp <;> omega))
    refine r_y S H (y_index S rfl rfl rfl Tryz.underlying31 Tryz.sizeOf9 (by omega) (by omega)) rfl rfl rfl fun a S => ?_
    refine r_y S H (y_loadAt S rfl rfl Tryz.isAgg9 (fun w H => (SlOk.ofRow (i := 0) H rfl).cell w H (strs_at (i := i) (by first | omega | (simp <;> omega))))) rfl rfl rfl fun a S => ?_
    have S := S.retell (v' := str (n)) 29 rfl (by rw [hns, hn])
    refine rs 1 S H t0 fun a w S H => ?_
    refine sb ?_
    refine rn 5 S H t0 fun a w S H => ?_
    refine r_y S H (y_lookup (mkv := mkP) (z := none) 3 (n) S rfl rfl rfl (KeyOk.nm Tryz.underlying53 Tryz.underlying9) Tryz.zeroValue82 rfl) rfl rfl rfl fun a S => ?_
    have S := S.retell (v' := .pointer (some ⟨fb, 0, none⟩)) 35 rfl (by rw [tlook_tmap, hlk]; rfl)
    refine rs 1 S H t0 fun a w S H => ?_
    have H := Sat.fileOut (hT.nodup hris) hget hlk (pk [4, 0, 1, 2, 3, 5] 6 H)
    obtain ⟨A1, c1, B1, e1, H⟩ := H.openFile
    refine sb ?_
    refine rn 2 S H t0 fun a w S H => ?_
    refine r_call (args := #[.pointer (some ⟨fb, 0, none⟩), .func (.func 84) #[] #[.pointer (some ⟨b1, 0, none⟩)]]) S rfl rfl Tryz.call85 (torn_ct (H := (pk [0, 1, 2, 8, 3, 4, 5, 6, 7] 9 H)) _ _ fr (fun _ H => H.drop.drop.drop.drop.drop) fb b1 A1 c1 B1 e1 f Ay cy r oky hsy hln) rfl rfl rfl fun v a w hR S => ?_
    obtain ⟨rfl, A9, c10, okA9, H⟩ := hR
    rw [hto] at H okA9
    replace H : Sat _ (fileR fb ⟨o, o⟩ :: blk b1 (.cells #[.slice A9 r2.length c10] 47) :: filesR (tdel t n) (crashed fs k i) :: row 9 1 (.slice (some ⟨b7, 0, none⟩) ns.length c6) ns.length (strs ns) :: blk kb4 (.cells #[.map (some mb)] 53) :: blk db (.cells #[.map (some mb), .int .i64 ((room : Nat) : Int), .int .i64 ((u : Nat) : Int), .int .i64 ops, .int .i64 0, .slice kA kn kc, .int .u32 (dnI true)] 63) :: mp (nms) (mkP) mb (tmap t) :: fr) := H
    replace okA9 : SlOk fr 1 A9 r2.length c10 (bools r2) := okA9
    obtain ⟨A11, c12, B13, e14, H⟩ := H.openFile
    replace H : Sat _ (blk fb (.cells #[.slice A11 o.length c12, .slice B13 o.length e14] 90) :: row 5 1 (.slice A11 o.length c12) o.length (u8s o) :: row 5 1 (.slice B13 o.length e14) o.length (u8s o) :: blk b1 (.cells #[.slice A9 r2.length c10] 47) :: filesR (tdel t n) (crashed fs k i) :: row 9 1 (.slice (some ⟨b7, 0, none⟩) ns.length c6) ns.length (strs ns) :: blk kb4 (.cells #[.map (some mb)] 53) :: blk db (.cells #[.map (some mb), .int .i64 ((room : Nat) : Int), .int .i64 ((u : Nat) : Int), .int .i64 ops, .int .i64 0, .slice kA kn kc, .int .u32 (dnI true)] 63) :: mp (nms) (mkP) mb (tmap t) :: fr) := H
    refine sn ?_
    refine ha [0, 1, 2, 3, 4, 5, 6, 8] 9 H fun w H HS => ?_
    refine tk 0 S HS fun a S => ?_
    refine tk 1 S HS fun a S => ?_
    refine tk 2 S HS fun a S => ?_
    refine tk 4 S HS fun a S => ?_
    refine tk 5 S HS fun a S => ?_
    refine tk 6 S HS fun a S => ?_
    refine tk 7 S HS fun a S => ?_
    refine tk 8 S HS fun a S => ?_
    refine hmemo [true, true, true, true, true, true, true, true, true, true, false, false, false, false] 4 (fun a w => Slots a 53 [(0, .pointer (some ⟨db, 0, none⟩)), (4, .func (.func 84) #[] #[.pointer (some ⟨b1, 0, none⟩)]), (6, str (n)), (7, .pointer (some ⟨fb, 0, none⟩)), (24, .slice (some ⟨b7, 0, none⟩) ns.length c6), (25, .int .i64 ((ns.length : Nat) : Int)), (26, .int .i64 ((i : Nat) : Int)), (27, .bool (decide (((i : Nat) : Int) < ((ns.length : Nat) : Int)))), (28, .pointer (some ⟨b7, 0 + i * 1, none⟩)), (29, str (n)), (30, .pointer (some ⟨db, 0, none⟩)), (31, .pointer (some ⟨db, 0, none⟩)), (32, .pointer (some ⟨db, 0, none⟩)), (33, .map (some mb)), (34, str (n)), (35, .pointer (some ⟨fb, 0, none⟩)), (36, .pointer (some ⟨fb, 0, none⟩)), (37, .func (.func 84) #[] #[.pointer (some ⟨b1, 0, none⟩)]), (39, .pointer (some ⟨db, 0, none⟩)), (40, .pointer (some ⟨db, 0, none⟩)), (41, .pointer (some ⟨db, 2, none⟩)), (42, .int .i64 ((u : Nat) : Int)), (43, .pointer (some ⟨fb, 0, none⟩)), (44, .pointer (some ⟨fb, 0, none⟩)), (45, .pointer (some ⟨fb, 0, none⟩)), (46, .slice A11 o.length c12), (47, .int .i64 ((o.length : Nat) : Int)), (48, .int .i64 ((Dk.sectors o.length : Nat) : Int)), (53, undef)] ∧ Sat w (blk fb (.cells #[.slice A11 o.length c12, .slice B13 o.length e14] 90) :: row 5 1 (.slice A11 o.length c12) o.length (u8s o) :: row 5 1 (.slice B13 o.length e14) o.length (u8s o) :: blk b1 (.cells #[.slice A9 r2.length c10] 47) :: filesR (tdel t n) (crashed fs k i) :: row 9 1 (.slice (some ⟨b7, 0, none⟩) ns.length c6) ns.length (strs ns) :: blk kb4 (.cells #[.map (some mb)] 53) :: blk db (.cells #[.map (some mb), .int .i64 ((room : Nat) : Int), .int .i64 ((u : Nat) : Int), .int .i64 ops, .int .i64 0, .slice kA kn kc, .int .u32 (dnI true)] 63) :: mp (nms) (mkP) mb (tmap t) :: fr)) ?_ fun K0 => ?_
    · rintro a w ⟨S, H⟩
      have HS : Sat w _ := pk [0, 1, 2, 3, 4, 5, 6, 8] 9 H
      refine tkC 10 S HS (by omega) fun a S => ?_
      refine tk 11 S HS fun a S => ?_
      refine tk 12 S HS fun a S => ?_
      refine h1 13 ?_
      refine rs 1 S H t0 fun a w S H => ?_
      refine hk (pk [0, 1, 2, 3, 4, 5, 6, 8] 9 H) fun HS => ?_
      refine hz ?_
      refine x_blockEnd ?_
      refine x_then ?_
      have H := Sat.fileIn (hT.nodup hris) hlk (Sat.shutFile ⟨o, o⟩ (pk [0, 1, 2, 4, 3, 5, 6, 7, 8] 9 H))
      rw [hput] at H
      replace H : Sat _ (filesR t (crashed fs k (i + 1)) :: blk b1 (.cells #[.slice A9 r2.length c10] 47) :: row 9 1 (.slice (some ⟨b7, 0, none⟩) ns.length c6) ns.length (strs ns) :: blk kb4 (.cells #[.map (some mb)] 53) :: blk db (.cells #[.map (some mb), .int .i64 ((room : Nat) : Int), .int .i64 (((u : Nat) : Int) + ((Dk.sectors o.length : Nat) : Int)), .int .i64 ops, .int .i64 0, .slice kA kn kc, .int .u32 (dnI true)] 63) :: mp (nms) (mkP) mb (tmap t) :: fr) := H
      refine er 2 S H (by omega) fun a w S H => ?_
      refine x_then ?_
      exact ⟨(i + 1, u + Dk.sectors o.length, r2, A9, c10), ⟨S.sub ⟨rfl, rfl, rfl, rfl, rfl, rfl, trivial⟩, pk [2, 3, 4, 5, 0, 1] 6 H, ⟨hi, hus'.symm, hrest.symm, okA9⟩⟩, by show fs.length - (i + 1) < fs.length - i; omega⟩
    refine h2 3 9 ?_ ?_
    · skip
      refine rs 1 S H t0 fun a w S H => ?_
      refine hk (pk [0, 1, 2, 3, 4, 5, 6, 8] 9 H) fun HS => ?_
      refine h1 9 ?_
      refine rs 1 S H (by omega) fun a w S H => ?_
      refine hk (pk [0, 1, 2, 3, 4, 5, 6, 8] 9 H) fun HS => ?_
      exact K0 _ _ ⟨S.sub ⟨rfl, rfl, rfl, rfl, rfl, rfl, rfl, rfl, rfl, rfl, rfl, rfl, rfl, rfl, rfl, rfl, rfl, rfl, rfl, rfl, rfl, rfl, rfl, rfl, rfl, rfl, rfl, rfl, rfl, trivial⟩, H⟩
    · skip
      refine rs 1 S H (by omega) fun a w S H => ?_
      refine hk (pk [0, 1, 2, 3, 4, 5, 6, 8] 9 H) fun HS => ?_
      refine h1 3 ?_
      refine rs 1 S H t0 fun a w S H => ?_
      refine hk (pk [0, 1, 2, 3, 4, 5, 6, 8] 9 H) fun HS => ?_
      exact K0 _ _ ⟨S.sub ⟨rfl, rfl, rfl, rfl, rfl, rfl, rfl, rfl, rfl, rfl, rfl, rfl, rfl, rfl, rfl, rfl, rfl, rfl, rfl, rfl, rfl, rfl, rfl, rfl, rfl, rfl, rfl, rfl, rfl, trivial⟩, H⟩
  refine wp_exit ?_
  refine x_thenExit ?_
  refine x_thenExit ?_
  refine x_blockHere ?_
  refine r_end0 S Tryz.results60 ?_
  have hin : i = fs.length := by rw [hns] at h27; simp at h27; omega
  have e1 : Dk.used (tornAll fs k) = u := by rw [hu, hin, List.take_length]
  rw [hin, Dk.crashed_all] at H
  rw [e1]
  exact ⟨rfl, pk [2, 3, 4] 6 H⟩

theorem crashD_ct (w : World) (fr : List Res) (db mb room used : Nat) (ops : Int) (armed : Nat) (kA : Option Addr) (kn kc : Nat) (fs : Fs) (t : Tbl) (A : Option Addr) (c : Nat) (k : List Bool) (H : Sat w (blk db (.cells #[.map (some mb), .int .i64 ((room : Nat) : Int), .int .i64 ((used : Nat) : Int), .int .i64 ops, .int .i64 ((armed : Nat) : Int), .slice kA kn kc, .int .u32 (dnI true)] 63) :: mp (nms) (mkP) mb (tmap t) :: filesR t fs :: fr)) :
    Rt Tryz.prog 60 #[.pointer (some ⟨db, 0, none⟩), .slice A k.length c] w fun v w' => v = .tuple #[] ∧ Sat w' (blk db (.cells #[.map (some mb), .int .i64 ((room : Nat) : Int), .int .i64 ((used : Nat) : Int), .int .i64 ops, .int .i64 ((armed : Nat) : Int), .slice kA kn kc, .int .u32 (dnI true)] 63) :: mp (nms) (mkP) mb (tmap t) :: filesR t fs :: fr) := by
  refine en2 Tryz.func60 rfl Tryz.ntmps60 rfl fun a S => ?_
  refine sb ?_
  refine r_box (c := #[.slice A k.length c]) S H rfl rfl rfl rfl rfl rfl fun a w b1 S H => ?_
  refine sn ?_
  refine r_seq ?_
  refine sr 4 S H (by omega) fun a w S H => ?_
  refine r_condT S rfl ?_
  refine wp_ret ?_
  refine x_thenRet ?_
  refine r_ret0 S Tryz.results60 ?_
  exact ⟨rfl, H.drop⟩

theorem Tied.nam {t : Tbl} {fs : Fs} (h : Tied t fs) (hn : ∀ p ∈ fs, p.1.length ≤ 24) : ∀ p ∈ t, p.1.length ≤ 24 := by
  intro p hp
  obtain ⟨q, hq, e⟩ := List.mem_map.1 (h.mem_iff.2 (List.mem_map.2 ⟨p, hp, rfl⟩))
  have := hn q hq
  rw [e] at this; exact this
theorem crash_ct (w : World) (fr : List Res) (db mb : Nat) (d : Dk.Disk) (kA : Option Addr) (kc : Nat) (t : Tbl) (A : Option Addr) (c : Nat) (k : List Bool) (ok : SlOk fr 1 A k.length c (bools k)) (hok : d.Ok) (hcnt : d.files.length ≤ 4398046511104) (hT : Tied t d.files) (H : Sat w (dkB db mb d kA kc :: tbR mb t :: filesR t d.files :: fr)) :
    Rt Tryz.prog 60 #[.pointer (some ⟨db, 0, none⟩), .slice A k.length c] w fun v w' => v = .tuple #[] ∧ Sat w' (dkB db mb (d.crash k) kA kc :: tbR mb t :: filesR t (d.crash k).files :: fr) := by
  obtain ⟨files, room, ops, armed, keep, down⟩ := d
  have hu : Dk.used files ≤ 1099511627776 := Nat.le_trans hok.fit hok.room
  cases down with
  | true => exact crashD_ct w fr db mb room (Dk.used files) ops armed kA keep.length kc files t A c k H
  | false => exact crashU_ct w fr db mb room (Dk.used files) ops armed kA keep.length kc files t A c k ok hok.ris hok.syn (fun p hp => Dk.len_le hok (Dk.fget_of_mem hok.ris hp)) (Tied.nam hT hok.nam) hcnt hT hu H
end Go.Proofs.YtgfdmhjjlajmgaaGreatDoor
namespace Go.Proofs.YtgfdmhjjlajmgaaGreatDoor
open Go.RowKit Go.Cg
set_option linter.unusedVariables false
set_option linter.unusedSimpArgs false
set_option maxRecDepth 8000
set_option synthInstance.maxHeartbeats 1000000
set_option synthInstance.maxSize 1000000
open Go.Cg.Dk (Fl Fs Nm)
theorem begins_ct (w : World) (fr : List Res) (db : Nat) (d : Dk.Disk) (hcnt : d.files.length ≤ 4398046511104) (H : Sat w (diskR db d :: fr)) :
    Rt Tryz.prog 35 #[.pointer (some ⟨db, 0, none⟩)] w fun v w' => v = .int .i64 ((d.begin_.err : Nat) : Int) ∧ Sat w' (diskR db d.begin_ :: fr) := by
  refine en1 Tryz.func35 rfl Tryz.ntmps35 rfl fun a S => ?_
  obtain ⟨mb, t, kA, kc, hok, hT, H⟩ := H.openDisk
  have har := hok.armed
  refine sr 1 S H t0 fun a w S H => ?_
  refine sr 4 S H (by omega) fun a w S H => ?_
  refine r_seq ?_
  refine sr 5 S H t0 fun a w S H => ?_
  refine r_test S rfl (fun h11 => ?_) (fun h11 => ?_)
  · skip
    refine sr 8 S H (by omega) fun a w S H => ?_
    have e4 : ((d.armed : Nat) : Int) - 1 = ((d.armed - 1 : Nat) : Int) := by omega
    rw [e4] at H
    refine sr 5 S H t0 fun a w S H => ?_
    refine r_test S rfl (fun h23 => ?_) (fun h23 => ?_)
    · skip
      have h1 : d.armed = 1 := by omega
      have hb := Dk.begin_1 h1
      have hok1 : Dk.Disk.Ok { d with ops := IntKind.i64.wrap (d.ops + 1), armed := 0 } := ⟨hok.ris, hok.syn, hok.fit, hok.room, Nat.zero_le _, hok.nam⟩
      have e5 : d.armed - 1 = 0 := by omega
      rw [e5] at H
      obtain ⟨D, hD⟩ : ∃ D : Dk.Disk, D = { d with ops := IntKind.i64.wrap (d.ops + 1), armed := 0 } := ⟨_, rfl⟩
      obtain ⟨d2, hd2⟩ : ∃ d2 : Dk.Disk, d2 = D.crash d.keep := ⟨_, rfl⟩
      have hb2 : d.begin_ = d2 := by rw [hd2, hD]; exact hb
      refine r_region ?_
      refine rn 5 S H t0 fun a w S H => ?_
      refine r_call (args := #[.pointer (some ⟨db, 0, none⟩), .slice kA d.keep.length kc]) S rfl rfl Tryz.call60 (crash_ct (H := H) _ _ db mb { d with ops := IntKind.i64.wrap (d.ops + 1), armed := 0 } kA kc t _ _ _ (SlOk.ofRow (i := 0) (L := kpR kA kc d.keep :: fr) (H.drop.drop.drop) rfl) hok1 hcnt hT) rfl rfl rfl fun v a w hR S => ?_
      obtain ⟨rfl, H⟩ := hR
      rw [← hD, ← hd2] at H
      have hkk : d2.keep = d.keep := by rw [hd2, Dk.keep_crash, hD]
      refine r_nil ?_
      refine x_then ?_
      refine r_seq ?_
      refine sr 2 S H (by omega) fun a w S H => ?_
      refine r_cond S rfl (fun h31 => ?_) (fun h31 => ?_)
      · skip
        refine sr 1 S H t0 fun a w S H => ?_
        refine wp_ret ?_
        refine x_thenRet ?_
        refine r_ret1 S H Tryz.results35 (ro_tmp S rfl) ?_
        have hTb : Tied t d.begin_.files := by unfold Tied; rw [Dk.names_begin]; exact hT
        have hokb := hok.begin_
        rw [← hkk] at H
        rw [hb2] at hTb hokb ⊢
        exact ⟨by simp [Dk.Disk.err, h31], Sat.shutDisk _ hokb hTb (H)⟩
      refine wp_skip ?_
      refine x_then ?_
      refine sr 1 S H t0 fun a w S H => ?_
      refine wp_ret ?_
      refine r_ret1 S H Tryz.results35 (ro_tmp S rfl) ?_
      have hTb : Tied t d.begin_.files := by unfold Tied; rw [Dk.names_begin]; exact hT
      have hokb := hok.begin_
      rw [← hkk] at H
      rw [hb2] at hTb hokb ⊢
      exact ⟨by simp [Dk.Disk.err, h31], Sat.shutDisk _ hokb hTb (H)⟩
    refine wp_skip ?_
    refine x_then ?_
    refine r_seq ?_
    refine sr 2 S H (by omega) fun a w S H => ?_
    refine r_cond S rfl (fun h31 => ?_) (fun h31 => ?_)
    · skip
      refine sr 1 S H t0 fun a w S H => ?_
      refine wp_ret ?_
      refine x_thenRet ?_
      refine r_ret1 S H Tryz.results35 (ro_tmp S rfl) ?_
      have hb := Dk.begin_2 (d := d) (by omega)
      have hTb : Tied t d.begin_.files := by unfold Tied; rw [Dk.names_begin]; exact hT
      have hokb := hok.begin_
      rw [hb] at hTb hokb ⊢
      exact ⟨by simp [Dk.Disk.err, h31], Sat.shutDisk _ hokb hTb (H)⟩
    refine wp_skip ?_
    refine x_then ?_
    refine sr 1 S H t0 fun a w S H => ?_
    refine wp_ret ?_
    refine r_ret1 S H Tryz.results35 (ro_tmp S rfl) ?_
    have hb := Dk.begin_2 (d := d) (by omega)
    have hTb : Tied t d.begin_.files := by unfold Tied; rw [Dk.names_begin]; exact hT
    have hokb := hok.begin_
    rw [hb] at hTb hokb ⊢
    exact ⟨by simp [Dk.Disk.err, h31], Sat.shutDisk _ hokb hTb (H)⟩
  refine wp_skip ?_
  refine x_then ?_
  refine r_seq ?_
  refine sr 2 S H (by omega) fun a w S H => ?_
  refine r_cond S rfl (fun h31 => ?_) (fun h31 => ?_)
  · skip
    refine sr 1 S H t0 fun a w S H => ?_
    refine wp_ret ?_
    refine x_thenRet ?_
    refine r_ret1 S H Tryz.results35 (ro_tmp S rfl) ?_
    have hb := Dk.begin_0 (d := d) (by omega)
    have hTb : Tied t d.begin_.files := by unfold Tied; rw [Dk.names_begin]; exact hT
    have hokb := hok.begin_
    rw [hb] at hTb hokb ⊢
    exact ⟨by simp [Dk.Disk.err, h31], Sat.shutDisk _ hokb hTb (H)⟩
  refine wp_skip ?_
  refine x_then ?_
  refine sr 1 S H t0 fun a w S H => ?_
  refine wp_ret ?_
  refine r_ret1 S H Tryz.results35 (ro_tmp S rfl) ?_
  have hb := Dk.begin_0 (d := d) (by omega)
  have hTb : Tied t d.begin_.files := by unfold Tied; rw [Dk.names_begin]; exact hT
  have hokb := hok.begin_
  rw [hb] at hTb hokb ⊢
  exact ⟨by simp [Dk.Disk.err, h31], Sat.shutDisk _ hokb hTb (H)⟩

end Go.Proofs.YtgfdmhjjlajmgaaGreatDoor
namespace Go.Proofs.YtgfdmhjjlajmgaaGreatDoor
open Go.RowKit Go.Cg
set_option linter.unusedVariables false
set_option linter.unusedSimpArgs false
set_option maxRecDepth 8000
set_option synthInstance.maxHeartbeats 1000000
set_option synthInstance.maxSize 1000000
open Go.Cg.Dk (Fl Fs Nm)
theorem on_ct (w : World) (fr : List Res) (db : Nat) (d : Dk.Disk) (n : Nm) (hcnt : d.files.length ≤ 4398046511104) (H : Sat w (diskR db d :: fr)) :
    Rt Tryz.prog 41 #[.pointer (some ⟨db, 0, none⟩), str (n)] w fun v w' => ∃ p e mb t kA kc, v = .tuple #[mkP p, .int .i64 ((e : Nat) : Int)] ∧ d.begin_.Ok ∧ Tied t d.begin_.files ∧ OnSays d.begin_ n t p e ∧ Sat w' (dkB db mb d.begin_ kA kc :: tbR mb t :: filesR t d.begin_.files :: kpR kA kc d.begin_.keep :: fr) := by
  refine en2 Tryz.func41 rfl Tryz.ntmps41 rfl fun a S => ?_
  refine sr 2 S H t0 fun a w S H => ?_
  refine r_seq ?_
  refine sb ?_
  refine rn 1 S H t0 fun a w S H => ?_
  refine r_call (args := #[.pointer (some ⟨db, 0, none⟩)]) S rfl rfl Tryz.call35 (begins_ct (H := H) _ _ db d hcnt) rfl rfl rfl fun v a w hR S => ?_
  obtain ⟨rfl, H⟩ := hR
  obtain ⟨D, hD⟩ : ∃ D, D = d.begin_ := ⟨_, rfl⟩
  rw [← hD] at H S
  refine rs 1 S H t0 fun a w S H => ?_
  rcases Bool.eq_false_or_eq_true D.down with hd | hd
  · skip
    have he : ((D.err : Nat) : Int) = 7 := by simp [Dk.Disk.err, hd]
    have S := S.retell (v' := .int .i64 7) 9 rfl (congrArg (Value.int .i64) he)
    have S := S.retell (v' := .int .i64 7) 6 rfl (congrArg (Value.int .i64) he)
    refine sr 2 S H t0 fun a w S H => ?_
    have S := S.retell (v' := .bool true) 11 rfl rfl
    refine r_condT S rfl ?_
    refine sr 3 S H t0 fun a w S H => ?_
    refine wp_ret ?_
    refine x_thenRet ?_
    refine r_ret2 S H Tryz.results41 (ro_tmp S rfl) (ro_tmp S rfl) ?_
    obtain ⟨mb, t, kA, kc, hok, hT, H⟩ := H.openDisk
    rw [← hD]
    exact ⟨none, 7, mb, t, kA, kc, rfl, hok, hT, .inl ⟨hd, rfl, rfl⟩, H⟩
  have he : ((D.err : Nat) : Int) = 0 := by simp [Dk.Disk.err, hd]
  have S := S.retell (v' := .int .i64 0) 9 rfl (congrArg (Value.int .i64) he)
  have S := S.retell (v' := .int .i64 0) 6 rfl (congrArg (Value.int .i64) he)
  refine sr 2 S H t0 fun a w S H => ?_
  have S := S.retell (v' := .bool false) 11 rfl rfl
  refine r_condF S rfl ?_
  refine wp_skip ?_
  refine x_then ?_
  refine r_seq ?_
  obtain ⟨mb, t, kA, kc, hok, hT, H⟩ := H.openDisk
  have har := hok.armed
  refine sb ?_
  refine rn 5 S H t0 fun a w S H => ?_
  refine r_y S H (y_lookup (mkv := mkP) (z := none) 1 (n) S rfl rfl rfl (KeyOk.nm Tryz.underlying53 Tryz.underlying9) Tryz.zeroValue82 rfl) rfl rfl rfl fun a S => ?_
  have S := S.retell (v' := mkP (tlook t n)) 18 rfl (congrArg mkP (tlook_getD t n))
  refine rs 1 S H t0 fun a w S H => ?_
  rcases hl : tlook t n with _ | fb
  · skip
    have S := S.retell (v' := .pointer none) 18 rfl (by rw [hl]; rfl)
    have S := S.retell (v' := .pointer none) 7 rfl (by rw [hl]; rfl)
    refine sr 2 S H t0 fun a w S H => ?_
    refine r_condF S rfl ?_
    refine wp_skip ?_
    refine x_then ?_
    refine sr 2 S H t0 fun a w S H => ?_
    refine wp_ret ?_
    refine r_ret2 S H Tryz.results41 (ro_tmp S rfl) (ro_tmp S rfl) ?_
    rw [← hD]
    have hf : Dk.fget D.files n = none := by
      cases hf : Dk.fget D.files n with
      | none => rfl
      | some f => obtain ⟨fb, h⟩ := hT.look hf; rw [hl] at h; cases h
    exact ⟨none, 4, mb, t, kA, kc, rfl, hok, hT, .inr (.inl ⟨hd, hf, hl, rfl, rfl⟩), H⟩
  have S := S.retell (v' := .pointer (some ⟨fb, 0, none⟩)) 18 rfl (by rw [hl]; rfl)
  have S := S.retell (v' := .pointer (some ⟨fb, 0, none⟩)) 7 rfl (by rw [hl]; rfl)
  refine sr 2 S H t0 fun a w S H => ?_
  refine r_condT S rfl ?_
  refine sr 3 S H t0 fun a w S H => ?_
  refine wp_ret ?_
  refine x_thenRet ?_
  refine r_ret2 S H Tryz.results41 (ro_tmp S rfl) (ro_tmp S rfl) ?_
  rw [← hD]
  have hf : ∃ f, Dk.fget D.files n = some f := by
    cases hf : Dk.fget D.files n with
    | some f => exact ⟨f, rfl⟩
    | none => rw [hT.lookN hf] at hl; cases hl
  obtain ⟨f, hf⟩ := hf
  exact ⟨some fb, 0, mb, t, kA, kc, rfl, hok, hT, .inr (.inr ⟨hd, f, fb, hf, hl, rfl, rfl⟩), H⟩

theorem size_ct (w : World) (fr : List Res) (db : Nat) (d : Dk.Disk) (n : Nm) (hcnt : d.files.length ≤ 4398046511104) (H : Sat w (diskR db d :: fr)) :
    Rt Tryz.prog 50 #[.pointer (some ⟨db, 0, none⟩), str (n)] w fun v w' => v = .tuple #[.int .i64 (((d.size n).2.1 : Nat) : Int), .int .i64 (((d.size n).2.2 : Nat) : Int)] ∧ Sat w' (diskR db (d.size n).1 :: fr) := by
  refine en2 Tryz.func50 rfl Tryz.ntmps50 rfl fun a S => ?_
  refine sr 2 S H t0 fun a w S H => ?_
  refine sb ?_
  refine rn 2 S H t0 fun a w S H => ?_
  refine r_call (args := #[.pointer (some ⟨db, 0, none⟩), str (n)]) S rfl rfl Tryz.call41 (on_ct (H := H) _ _ db d n hcnt) rfl rfl rfl fun v a w hR S => ?_
  obtain ⟨p, e, mb, t, kA, kc, rfl, hok, hT, hon, H⟩ := hR
  have har := hok.armed
  obtain ⟨D, hD⟩ : ∃ D, D = d.begin_ := ⟨_, rfl⟩
  rw [← hD] at hok hT hon H har
  refine rs 5 S H t0 fun a w S H => ?_
  refine r_seq ?_
  rcases hon with ⟨hd, rfl, rfl⟩ | ⟨hd, hf, hl, rfl, rfl⟩ | ⟨hd, f, fb, hf, hl, rfl, rfl⟩
  · skip
    have S := S.retell (v' := .pointer none) 12 rfl rfl
    have S := S.retell (v' := .int .i64 7) 13 rfl rfl
    have S := S.retell (v' := .pointer none) 6 rfl rfl
    have S := S.retell (v' := .int .i64 7) 7 rfl rfl
    refine sr 2 S H t0 fun a w S H => ?_
    have S := S.retell (v' := .bool true) 15 rfl rfl
    refine r_condT S rfl ?_
    refine sr 3 S H t0 fun a w S H => ?_
    refine wp_ret ?_
    refine x_thenRet ?_
    refine r_ret2 S H Tryz.results50 (ro_tmp S rfl) (ro_tmp S rfl) ?_
    have hs : d.size n = (D, 0, 7) := by unfold Dk.Disk.size; rw [← hD]; simp [hd]
    rw [hs]
    exact ⟨rfl, Sat.shutDisk D hok hT (H)⟩
  · skip
    have S := S.retell (v' := .pointer none) 12 rfl rfl
    have S := S.retell (v' := .int .i64 4) 13 rfl rfl
    have S := S.retell (v' := .pointer none) 6 rfl rfl
    have S := S.retell (v' := .int .i64 4) 7 rfl rfl
    refine sr 2 S H t0 fun a w S H => ?_
    have S := S.retell (v' := .bool true) 15 rfl rfl
    refine r_condT S rfl ?_
    refine sr 3 S H t0 fun a w S H => ?_
    refine wp_ret ?_
    refine x_thenRet ?_
    refine r_ret2 S H Tryz.results50 (ro_tmp S rfl) (ro_tmp S rfl) ?_
    have hs : d.size n = (D, 0, 4) := by unfold Dk.Disk.size; rw [← hD]; simp [hd, hf]
    rw [hs]
    exact ⟨rfl, Sat.shutDisk D hok hT (H)⟩
  have S := S.retell (v' := .pointer (some ⟨fb, 0, none⟩)) 12 rfl rfl
  have S := S.retell (v' := .int .i64 0) 13 rfl rfl
  have S := S.retell (v' := .pointer (some ⟨fb, 0, none⟩)) 6 rfl rfl
  have S := S.retell (v' := .int .i64 0) 7 rfl rfl
  have H := Sat.fileOut (hT.nodup hok.ris) hf hl (pk [2, 0, 1, 3] 4 H)
  have hln := Dk.len_le hok hf
  have hsy : f.syn.length ≤ f.now.length := hok.syn _ (Dk.mem_of_fget hf)
  obtain ⟨Af, cf, Bf, ef, H⟩ := H.openFile
  refine sr 2 S H t0 fun a w S H => ?_
  have S := S.retell (v' := .bool false) 15 rfl rfl
  refine r_condF S rfl ?_
  refine wp_skip ?_
  refine x_then ?_
  refine sr 7 S H t0 fun a w S H => ?_
  refine wp_ret ?_
  refine r_ret2 S H Tryz.results50 (ro_tmp S rfl) (ro_tmp S rfl) ?_
  have H := Sat.fileIn (hT.nodup hok.ris) hl (Sat.shutFile f H)
  rw [Dk.fput_same hok.ris hf] at H
  have hs : d.size n = (D, f.now.length, 0) := by unfold Dk.Disk.size; rw [← hD]; simp [hd, hf]
  rw [hs]
  exact ⟨rfl, Sat.shutDisk D hok hT (pk [1, 2, 0, 3] 4 H)⟩

instance {L L' : List Res} (db i : Nat) (d : Dk.Disk) (n : Nm) [hf : FdD L db d i] [hs : St L i (diskR db (d.size n).1) L'] : Cal Tryz.prog L 50 [.pointer (some ⟨db, 0, none⟩), str n] (.tuple #[.int .i64 (((d.size n).2.1 : Nat) : Int), .int .i64 (((d.size n).2.2 : Nat) : Int)]) L' (((d.files.length : Nat) : Int) ≤ 4398046511104) := ⟨Tryz.call50, fun hc w H => disk_at (fun fr H => size_ct w fr db d n (by omega) H) H⟩
theorem sync_ct (w : World) (fr : List Res) (db : Nat) (d : Dk.Disk) (n : Nm) (hcnt : d.files.length ≤ 4398046511104) (H : Sat w (diskR db d :: fr)) :
    Rt Tryz.prog 49 #[.pointer (some ⟨db, 0, none⟩), str (n)] w fun v w' => v = .int .i64 (((d.sync n).2 : Nat) : Int) ∧ Sat w' (diskR db (d.sync n).1 :: fr) := by
  refine en2 Tryz.func49 rfl Tryz.ntmps49 rfl fun a S => ?_
  have hdok := H.diskOk
  refine sr 1 S H t0 fun a w S H => ?_
  refine sb ?_
  refine rn 2 S H t0 fun a w S H => ?_
  refine r_call (args := #[.pointer (some ⟨db, 0, none⟩), str (n)]) S rfl rfl Tryz.call41 (on_ct (H := H) _ _ db d n hcnt) rfl rfl rfl fun v a w hR S => ?_
  obtain ⟨p, e, mb, t, kA, kc, rfl, hok, hT, hon, H⟩ := hR
  have har := hok.armed
  obtain ⟨D, hD⟩ : ∃ D, D = d.begin_ := ⟨_, rfl⟩
  rw [← hD] at hok hT hon H har
  refine rs 5 S H t0 fun a w S H => ?_
  refine r_seq ?_
  rcases hon with ⟨hd, rfl, rfl⟩ | ⟨hd, hf, hl, rfl, rfl⟩ | ⟨hd, f, fb, hf, hl, rfl, rfl⟩
  · skip
    have S := S.retell (v' := .pointer none) 11 rfl rfl
    have S := S.retell (v' := .int .i64 7) 12 rfl rfl
    have S := S.retell (v' := .pointer none) 5 rfl rfl
    have S := S.retell (v' := .int .i64 7) 6 rfl rfl
    refine sr 2 S H t0 fun a w S H => ?_
    have S := S.retell (v' := .bool false) 14 rfl rfl
    refine r_condF S rfl ?_
    refine wp_skip ?_
    refine x_then ?_
    refine sr 2 S H t0 fun a w S H => ?_
    refine wp_ret ?_
    refine r_ret1 S H Tryz.results49 (ro_tmp S rfl) ?_
    have hs : d.sync n = (D, 7) := by unfold Dk.Disk.sync; rw [← hD]; simp [hd]
    rw [hs]
    exact ⟨rfl, Sat.shutDisk D hok hT (H)⟩
  · skip
    have S := S.retell (v' := .pointer none) 11 rfl rfl
    have S := S.retell (v' := .int .i64 4) 12 rfl rfl
    have S := S.retell (v' := .pointer none) 5 rfl rfl
    have S := S.retell (v' := .int .i64 4) 6 rfl rfl
    refine sr 2 S H t0 fun a w S H => ?_
    have S := S.retell (v' := .bool false) 14 rfl rfl
    refine r_condF S rfl ?_
    refine wp_skip ?_
    refine x_then ?_
    refine sr 2 S H t0 fun a w S H => ?_
    refine wp_ret ?_
    refine r_ret1 S H Tryz.results49 (ro_tmp S rfl) ?_
    have hs : d.sync n = (D, 4) := by unfold Dk.Disk.sync; rw [← hD]; simp [hd, hf]
    rw [hs]
    exact ⟨rfl, Sat.shutDisk D hok hT (H)⟩
  have S := S.retell (v' := .pointer (some ⟨fb, 0, none⟩)) 11 rfl rfl
  have S := S.retell (v' := .int .i64 0) 12 rfl rfl
  have S := S.retell (v' := .pointer (some ⟨fb, 0, none⟩)) 5 rfl rfl
  have S := S.retell (v' := .int .i64 0) 6 rfl rfl
  have H := Sat.fileOut (hT.nodup hok.ris) hf hl (pk [2, 0, 1, 3] 4 H)
  have hln := Dk.len_le hok hf
  have hsy : f.syn.length ≤ f.now.length := hok.syn _ (Dk.mem_of_fget hf)
  obtain ⟨Af, cf, Bf, ef, H⟩ := H.openFile
  refine sr 2 S H t0 fun a w S H => ?_
  have S := S.retell (v' := .bool true) 14 rfl rfl
  refine r_condT S rfl ?_
  refine r_region ?_
  refine rn 5 S H t0 fun a w S H => ?_
  refine r_call (args := #[.slice Af f.now.length cf]) S rfl rfl Tryz.call71 (clone8_ct (H := H) _ _ _ _ _ f.now (SlOk.ofRow (i := 1) H rfl) (by omega)) rfl rfl rfl fun v a w hR S => ?_
  obtain ⟨A5, c6, rfl, H⟩ := hR
  refine rn 3 S H t0 fun a w S H => ?_
  refine r_nil ?_
  refine x_then ?_
  refine sr 2 S H t0 fun a w S H => ?_
  refine wp_ret ?_
  refine r_ret1 S H Tryz.results49 (ro_tmp S rfl) ?_
  have H := Sat.fileIn (hT.nodup hok.ris) hl (Sat.shutFile ⟨f.now, f.now⟩ (pk [1, 2, 0, 4, 3, 5, 6, 7] 8 H))
  have hu := Dk.used_fput_old (g := ⟨f.now, f.now⟩) hok.ris hf
  have hu' : Dk.used (Dk.fput D.files n ⟨f.now, f.now⟩) = D.used := by simp only at hu; unfold Dk.Disk.used; omega
  have hok2 := (hdok.sync n)
  have hs : d.sync n = ({ D with files := Dk.fput D.files n ⟨f.now, f.now⟩ }, 0) := by unfold Dk.Disk.sync; rw [← hD]; simp [hd, hf]
  rw [hs] at hok2
  rw [hs]
  exact ⟨rfl, Sat.shutU _ hok2 (hT.put hok.ris hf) (u := D.used) hu'.symm (pk [2, 3, 0, 4] 5 H)⟩

instance {L L' : List Res} (db i : Nat) (d : Dk.Disk) (n : Nm) [hf : FdD L db d i] [hs : St L i (diskR db (d.sync n).1) L'] : Cal Tryz.prog L 49 [.pointer (some ⟨db, 0, none⟩), str n] (.int .i64 (((d.sync n).2 : Nat) : Int)) L' (((d.files.length : Nat) : Int) ≤ 4398046511104) := ⟨Tryz.call49, fun hc w H => disk_at (fun fr H => sync_ct w fr db d n (by omega) H) H⟩
theorem create_ct (w : World) (fr : List Res) (db : Nat) (d : Dk.Disk) (n : Nm) (hcnt : d.files.length ≤ 4398046511104) (H : Sat w (diskR db d :: fr)) :
    Rt Tryz.prog 21 #[.pointer (some ⟨db, 0, none⟩), str (n)] w fun v w' => v = .int .i64 (((d.create n).2 : Nat) : Int) ∧ Sat w' (diskR db (d.create n).1 :: fr) := by
  refine en2 Tryz.func21 rfl Tryz.ntmps21 rfl fun a S => ?_
  have hdok := H.diskOk
  refine sr 1 S H t0 fun a w S H => ?_
  refine r_seq ?_
  refine sb ?_
  refine rn 2 S H t0 fun a w S H => ?_
  refine r_call (args := #[.pointer (some ⟨db, 0, none⟩), str (n)]) S rfl rfl Tryz.call41 (on_ct (H := H) _ _ db d n hcnt) rfl rfl rfl fun v a w hR S => ?_
  obtain ⟨p, e, mb, t, kA, kc, rfl, hok, hT, hon, H⟩ := hR
  have har := hok.armed
  obtain ⟨D, hD⟩ : ∃ D, D = d.begin_ := ⟨_, rfl⟩
  rw [← hD] at hok hT hon H har
  refine rs 5 S H t0 fun a w S H => ?_
  refine r_block ?_
  rcases hon with ⟨hd, rfl, rfl⟩ | ⟨hd, hf, hl, rfl, rfl⟩ | ⟨hd, f, fb, hf, hl, rfl, rfl⟩
  · skip
    have S := S.retell (v' := .pointer none) 11 rfl rfl
    have S := S.retell (v' := .int .i64 7) 12 rfl rfl
    have S := S.retell (v' := .pointer none) 5 rfl rfl
    have S := S.retell (v' := .int .i64 7) 6 rfl rfl
    refine sb ?_
    refine rn 2 S H t0 fun a w S H => ?_
    have S := S.retell (v' := .bool true) 15 rfl rfl
    refine rs 1 S H t0 fun a w S H => ?_
    refine r_condT S rfl ?_
    refine sr 2 S H t0 fun a w S H => ?_
    refine wp_ret ?_
    refine x_blockRet ?_
    refine x_thenRet ?_
    refine r_ret1 S H Tryz.results21 (ro_tmp S rfl) ?_
    have hs : d.create n = (D, 7) := by unfold Dk.Disk.create; rw [← hD]; simp [hd]
    rw [hs]
    exact ⟨rfl, Sat.shutDisk D hok hT (H)⟩
  · skip
    have S := S.retell (v' := .pointer none) 11 rfl rfl
    have S := S.retell (v' := .int .i64 4) 12 rfl rfl
    have S := S.retell (v' := .pointer none) 5 rfl rfl
    have S := S.retell (v' := .int .i64 4) 6 rfl rfl
    refine sb ?_
    refine rn 2 S H t0 fun a w S H => ?_
    have S := S.retell (v' := .bool false) 15 rfl rfl
    refine rs 1 S H t0 fun a w S H => ?_
    refine r_condF S rfl ?_
    refine sr 4 S H (by omega) fun a w S H => ?_
    refine r_cond S rfl (fun h17 => ?_) (fun h17 => ?_)
    · skip
      refine sr 1 S H t0 fun a w S H => ?_
      refine wp_ret ?_
      refine x_blockRet ?_
      refine x_thenRet ?_
      refine r_ret1 S H Tryz.results21 (ro_tmp S rfl) ?_
      have hm : Dk.may n = false := by simpa using h17
      have hs : d.create n = (D, 1) := by unfold Dk.Disk.create; rw [← hD]; simp [hd, hm]
      rw [hs]
      exact ⟨rfl, Sat.shutDisk D hok hT (H)⟩
    refine sb ?_
    refine rn 2 S H t0 fun a w S H => ?_
    have S := S.retell (v' := .bool false) 23 rfl rfl
    refine rs 1 S H t0 fun a w S H => ?_
    refine r_condF S rfl ?_
    refine wp_skip ?_
    refine x_blockEnd ?_
    refine x_then ?_
    refine sb ?_
    refine rn 5 S H t0 fun a w S H => ?_
    refine r_y S H (y_build (vs := #[]) (v := .agg #[.slice none 0 0, .slice none 0 0]) S rfl rfl (fun w => by kernel_rfl)) rfl rfl rfl fun a S => ?_
    refine r_box (c := #[.slice none 0 0, .slice none 0 0]) S H rfl rfl rfl rfl rfl rfl fun a w b1 S H => ?_
    refine r_mapSet (L' := blk b1 (.cells #[.slice none 0 0, .slice none 0 0] 90) :: blk db (.cells #[.map (some mb), .int .i64 ((D.room : Nat) : Int), .int .i64 ((D.used : Nat) : Int), .int .i64 D.ops, .int .i64 ((D.armed : Nat) : Int), .slice kA D.keep.length kc, .int .u32 (dnI D.down)] 63) :: mp (nms) (mkP) mb (tmap (t ++ [(n, b1)])) :: filesR t D.files :: row 4 1 (.slice kA D.keep.length kc) D.keep.length (bools D.keep) :: fr) 2 (n) (some b1) S H rfl rfl rfl rfl (KeyOk.nm Tryz.underlying53 Tryz.underlying9) rfl (by rw [tupd_tmap hl]; rfl) rfl rfl fun w H => ?_
    refine sn ?_
    refine sr 1 S H t0 fun a w S H => ?_
    refine wp_ret ?_
    refine r_ret1 S H Tryz.results21 (ro_tmp S rfl) ?_
    have hm : Dk.may n = true := by simpa using h17
    have H := (pk [0, 3, 1, 2, 4] 5 H)
    have H := ((H.nilRow 5 1).nilRow 5 1)
    have H := pk [2, 0, 1, 3, 4, 5, 6] 7 H
    have H := Sat.fileNew hl (Sat.shutFile (fb := b1) ⟨[], []⟩ H)
    have hu : D.used = Dk.used (Dk.fput D.files n ⟨[], []⟩) := by rw [Dk.used_fput_new hf]; rfl
    have hok2 := (hdok.create n)
    have hs : d.create n = ({ D with files := Dk.fput D.files n ⟨[], []⟩ }, 0) := by unfold Dk.Disk.create; rw [← hD]; simp [hd, hm, hf]
    rw [hs] at hok2
    rw [hs]
    exact ⟨rfl, Sat.shutU _ hok2 (hT.new hf) (u := D.used) hu (pk [1, 2, 0, 3] 4 H)⟩
  have S := S.retell (v' := .pointer (some ⟨fb, 0, none⟩)) 11 rfl rfl
  have S := S.retell (v' := .int .i64 0) 12 rfl rfl
  have S := S.retell (v' := .pointer (some ⟨fb, 0, none⟩)) 5 rfl rfl
  have S := S.retell (v' := .int .i64 0) 6 rfl rfl
  have H := Sat.fileOut (hT.nodup hok.ris) hf hl (pk [2, 0, 1, 3] 4 H)
  have hln := Dk.len_le hok hf
  have hsy : f.syn.length ≤ f.now.length := hok.syn _ (Dk.mem_of_fget hf)
  obtain ⟨Af, cf, Bf, ef, H⟩ := H.openFile
  refine sb ?_
  refine rn 2 S H t0 fun a w S H => ?_
  have S := S.retell (v' := .bool false) 15 rfl rfl
  refine rs 1 S H t0 fun a w S H => ?_
  refine r_condF S rfl ?_
  refine sr 4 S H (by omega) fun a w S H => ?_
  refine r_cond S rfl (fun h17 => ?_) (fun h17 => ?_)
  · skip
    refine sr 1 S H t0 fun a w S H => ?_
    refine wp_ret ?_
    refine x_blockRet ?_
    refine x_thenRet ?_
    refine r_ret1 S H Tryz.results21 (ro_tmp S rfl) ?_
    have hm : Dk.may n = false := by simpa using h17
    have H := Sat.fileIn (hT.nodup hok.ris) hl (Sat.shutFile f H)
    rw [Dk.fput_same hok.ris hf] at H
    have hs : d.create n = (D, 1) := by unfold Dk.Disk.create; rw [← hD]; simp [hd, hm]
    rw [hs]
    exact ⟨rfl, Sat.shutDisk D hok hT (pk [1, 2, 0, 3] 4 H)⟩
  refine sb ?_
  refine rn 2 S H t0 fun a w S H => ?_
  have S := S.retell (v' := .bool true) 23 rfl rfl
  refine rs 1 S H t0 fun a w S H => ?_
  refine r_condT S rfl ?_
  refine sr 1 S H t0 fun a w S H => ?_
  refine wp_ret ?_
  refine x_blockRet ?_
  refine x_thenRet ?_
  refine r_ret1 S H Tryz.results21 (ro_tmp S rfl) ?_
  have hm : Dk.may n = true := by simpa using h17
  have H := Sat.fileIn (hT.nodup hok.ris) hl (Sat.shutFile f H)
  rw [Dk.fput_same hok.ris hf] at H
  have hs : d.create n = (D, 5) := by unfold Dk.Disk.create; rw [← hD]; simp [hd, hm, hf]
  rw [hs]
  exact ⟨rfl, Sat.shutDisk D hok hT (pk [1, 2, 0, 3] 4 H)⟩

instance {L L' : List Res} (db i : Nat) (d : Dk.Disk) (n : Nm) [hf : FdD L db d i] [hs : St L i (diskR db (d.create n).1) L'] : Cal Tryz.prog L 21 [.pointer (some ⟨db, 0, none⟩), str n] (.int .i64 (((d.create n).2 : Nat) : Int)) L' (((d.files.length : Nat) : Int) ≤ 4398046511104) := ⟨Tryz.call21, fun hc w H => disk_at (fun fr H => create_ct w fr db d n (by omega) H) H⟩
theorem gone_ct (w : World) (fr : List Res) (db mb : Nat) (D : Dk.Disk) (kA : Option Addr) (kc : Nat) (t : Tbl) (n : Nm) (hok : D.Ok) (hT : Tied t D.files) (H : Sat w (blk db (.cells #[.map (some mb), .int .i64 ((D.room : Nat) : Int), .int .i64 ((D.used : Nat) : Int), .int .i64 D.ops, .int .i64 ((D.armed : Nat) : Int), .slice kA D.keep.length kc, .int .u32 (dnI D.down)] 63) :: mp (nms) (mkP) mb (tmap t) :: filesR t D.files :: fr)) :
    Rt Tryz.prog 51 #[.pointer (some ⟨db, 0, none⟩), str (n)] w fun v w' => v = .tuple #[] ∧ Sat w' (blk db (.cells #[.map (some mb), .int .i64 ((D.room : Nat) : Int), .int .i64 ((Dk.used (Dk.fdel D.files n) : Nat) : Int), .int .i64 D.ops, .int .i64 ((D.armed : Nat) : Int), .slice kA D.keep.length kc, .int .u32 (dnI D.down)] 63) :: mp (nms) (mkP) mb (tmap (tdel t n)) :: filesR (tdel t n) (Dk.fdel D.files n) :: fr) := by
  refine en2 Tryz.func51 rfl Tryz.ntmps51 rfl fun a S => ?_
  refine sb ?_
  refine rn 5 S H t0 fun a w S H => ?_
  refine r_y S H (y_lookup (mkv := mkP) (z := none) 1 (n) S rfl rfl rfl (KeyOk.nm Tryz.underlying53 Tryz.underlying9) Tryz.zeroValue82 rfl) rfl rfl rfl fun a S => ?_
  have S := S.retell (v' := mkP (tlook t n)) 10 rfl (congrArg mkP (tlook_getD t n))
  refine rs 1 S H t0 fun a w S H => ?_
  rcases hl : tlook t n with _ | fb
  · skip
    have S := S.retell (v' := .pointer none) 10 rfl (by rw [hl]; rfl)
    have S := S.retell (v' := .pointer none) 4 rfl (by rw [hl]; rfl)
    have hf : Dk.fget D.files n = none := by
      cases hf : Dk.fget D.files n with
      | none => rfl
      | some f => obtain ⟨fb, h⟩ := hT.look hf; rw [hl] at h; cases h
    refine sr 2 S H t0 fun a w S H => ?_
    refine r_condF S rfl ?_
    refine wp_skip ?_
    refine r_end0 S Tryz.results51 ?_
    rw [tdel_none hl, Dk.fdel_none hf]
    exact ⟨rfl, H⟩
  have S := S.retell (v' := .pointer (some ⟨fb, 0, none⟩)) 10 rfl (by rw [hl]; rfl)
  have S := S.retell (v' := .pointer (some ⟨fb, 0, none⟩)) 4 rfl (by rw [hl]; rfl)
  obtain ⟨f, hf⟩ : ∃ f, Dk.fget D.files n = some f := by
    cases hf : Dk.fget D.files n with
    | some f => exact ⟨f, rfl⟩
    | none => rw [hT.lookN hf] at hl; cases hl
  have H := Sat.fileOut (hT.nodup hok.ris) hf hl (pk [2, 0, 1] 3 H)
  have hln := Dk.len_le hok hf
  have hsy : f.syn.length ≤ f.now.length := hok.syn _ (Dk.mem_of_fget hf)
  obtain ⟨Af, cf, Bf, ef, H⟩ := H.openFile
  have hu1 := Dk.used_fdel hok.ris hf
  have hu2 : D.used = Dk.used D.files := rfl
  have hfit := hok.fit
  have hroom := hok.room
  refine sr 2 S H t0 fun a w S H => ?_
  refine r_condT S rfl ?_
  refine r_seq ?_
  refine ha [0, 1, 2, 3, 5] 6 H fun w H HS => ?_
  refine tk 0 S HS fun a S => ?_
  refine tk 1 S HS fun a S => ?_
  refine tk 2 S HS fun a S => ?_
  refine tk 4 S HS fun a S => ?_
  refine tk 5 S HS fun a S => ?_
  refine tk 6 S HS fun a S => ?_
  refine tk 7 S HS fun a S => ?_
  refine tk 8 S HS fun a S => ?_
  refine hmemo [true, true, true, true, true, true, true, true, true, true, false, false, false, false] 4 (fun a w => Slots a 31 [(0, .pointer (some ⟨db, 0, none⟩)), (1, str (n)), (13, .pointer (some ⟨db, 0, none⟩)), (16, .int .i64 ((D.used : Nat) : Int)), (22, .int .i64 ((Dk.sectors f.now.length : Nat) : Int)), (31, undef)] ∧ Sat w (blk fb (.cells #[.slice Af f.now.length cf, .slice Bf f.syn.length ef] 90) :: row 5 1 (.slice Af f.now.length cf) f.now.length (u8s f.now) :: row 5 1 (.slice Bf f.syn.length ef) f.syn.length (u8s f.syn) :: filesR (tdel t n) D.files :: blk db (.cells #[.map (some mb), .int .i64 ((D.room : Nat) : Int), .int .i64 ((D.used : Nat) : Int), .int .i64 D.ops, .int .i64 ((D.armed : Nat) : Int), .slice kA D.keep.length kc, .int .u32 (dnI D.down)] 63) :: mp (nms) (mkP) mb (tmap t) :: fr)) ?_ fun K0 => ?_
  · rintro a w ⟨S, H⟩
    have HS : Sat w _ := pk [0, 1, 2, 3, 5] 6 H
    refine tkC 10 S HS (by omega) fun a S => ?_
    refine tk 11 S HS fun a S => ?_
    refine tk 12 S HS fun a S => ?_
    refine h1 13 ?_
    refine rs 1 S H t0 fun a w S H => ?_
    refine hk (pk [0, 1, 2, 3, 5] 6 H) fun HS => ?_
    refine hz ?_
    refine x_then ?_
    refine r_region ?_
    refine rn 5 S H t0 fun a w S H => ?_
    refine r_mapDel (l' := tmap (tdel t n)) (L' := blk fb (.cells #[.slice Af f.now.length cf, .slice Bf f.syn.length ef] 90) :: row 5 1 (.slice Af f.now.length cf) f.now.length (u8s f.now) :: row 5 1 (.slice Bf f.syn.length ef) f.syn.length (u8s f.syn) :: filesR (tdel t n) D.files :: blk db (.cells #[.map (some mb), .int .i64 ((D.room : Nat) : Int), .int .i64 (((D.used : Nat) : Int) - ((Dk.sectors f.now.length : Nat) : Int)), .int .i64 D.ops, .int .i64 ((D.armed : Nat) : Int), .slice kA D.keep.length kc, .int .u32 (dnI D.down)] 63) :: mp (nms) (mkP) mb (tmap (tdel t n)) :: fr) 5 (n) S H rfl rfl rfl (KeyOk.nm Tryz.underlying53 Tryz.underlying9) rfl (nodup_tmap (hT.nodup hok.ris)) (tmap_del t n) rfl rfl rfl fun w H => ?_
    refine r_nil ?_
    refine r_end0 S Tryz.results51 ?_
    have e1 : (((D.used : Nat) : Int) - ((Dk.sectors f.now.length : Nat) : Int)) = ((Dk.used (Dk.fdel D.files n) : Nat) : Int) := by omega
    rw [e1] at H
    have H := pk [4, 5, 3] 6 H
    have H := pk [2, 0, 1] 3 H
    have H := Sat.fileGone H
    exact ⟨rfl, pk [1, 2, 0] 3 H⟩
  refine h2 3 9 ?_ ?_
  · skip
    refine rs 1 S H t0 fun a w S H => ?_
    refine hk (pk [0, 1, 2, 3, 5] 6 H) fun HS => ?_
    refine h1 9 ?_
    refine rs 1 S H (by omega) fun a w S H => ?_
    refine hk (pk [0, 1, 2, 3, 5] 6 H) fun HS => ?_
    exact K0 _ _ ⟨S.sub ⟨rfl, rfl, rfl, rfl, rfl, rfl, trivial⟩, H⟩
  · skip
    refine rs 1 S H (by omega) fun a w S H => ?_
    refine hk (pk [0, 1, 2, 3, 5] 6 H) fun HS => ?_
    refine h1 3 ?_
    refine rs 1 S H t0 fun a w S H => ?_
    refine hk (pk [0, 1, 2, 3, 5] 6 H) fun HS => ?_
    exact K0 _ _ ⟨S.sub ⟨rfl, rfl, rfl, rfl, rfl, rfl, trivial⟩, H⟩

theorem remove_ct (w : World) (fr : List Res) (db : Nat) (d : Dk.Disk) (n : Nm) (hcnt : d.files.length ≤ 4398046511104) (H : Sat w (diskR db d :: fr)) :
    Rt Tryz.prog 31 #[.pointer (some ⟨db, 0, none⟩), str (n)] w fun v w' => v = .int .i64 (((d.remove n).2 : Nat) : Int) ∧ Sat w' (diskR db (d.remove n).1 :: fr) := by
  refine en2 Tryz.func31 rfl Tryz.ntmps31 rfl fun a S => ?_
  refine sr 1 S H t0 fun a w S H => ?_
  refine sb ?_
  refine rn 2 S H t0 fun a w S H => ?_
  refine r_call (args := #[.pointer (some ⟨db, 0, none⟩), str (n)]) S rfl rfl Tryz.call41 (on_ct (H := H) _ _ db d n hcnt) rfl rfl rfl fun v a w hR S => ?_
  obtain ⟨p, e, mb, t, kA, kc, rfl, hok, hT, hon, H⟩ := hR
  have har := hok.armed
  obtain ⟨D, hD⟩ : ∃ D, D = d.begin_ := ⟨_, rfl⟩
  rw [← hD] at hok hT hon H har
  refine rs 5 S H t0 fun a w S H => ?_
  refine r_seq ?_
  rcases hon with ⟨hd, rfl, rfl⟩ | ⟨hd, hf, hl, rfl, rfl⟩ | ⟨hd, f, fb, hf, hl, rfl, rfl⟩
  · skip
    have S := S.retell (v' := .pointer none) 11 rfl rfl
    have S := S.retell (v' := .int .i64 7) 12 rfl rfl
    have S := S.retell (v' := .pointer none) 5 rfl rfl
    have S := S.retell (v' := .int .i64 7) 6 rfl rfl
    refine sr 2 S H t0 fun a w S H => ?_
    have S := S.retell (v' := .bool false) 14 rfl rfl
    refine r_condF S rfl ?_
    refine wp_skip ?_
    refine x_then ?_
    refine sr 2 S H t0 fun a w S H => ?_
    refine wp_ret ?_
    refine r_ret1 S H Tryz.results31 (ro_tmp S rfl) ?_
    have hs : d.remove n = (D, 7) := by unfold Dk.Disk.remove; rw [← hD]; simp [hd]
    rw [hs]
    exact ⟨rfl, Sat.shutDisk D hok hT (H)⟩
  · skip
    have S := S.retell (v' := .pointer none) 11 rfl rfl
    have S := S.retell (v' := .int .i64 4) 12 rfl rfl
    have S := S.retell (v' := .pointer none) 5 rfl rfl
    have S := S.retell (v' := .int .i64 4) 6 rfl rfl
    refine sr 2 S H t0 fun a w S H => ?_
    have S := S.retell (v' := .bool false) 14 rfl rfl
    refine r_condF S rfl ?_
    refine wp_skip ?_
    refine x_then ?_
    refine sr 2 S H t0 fun a w S H => ?_
    refine wp_ret ?_
    refine r_ret1 S H Tryz.results31 (ro_tmp S rfl) ?_
    have hs : d.remove n = (D, 4) := by unfold Dk.Disk.remove; rw [← hD]; simp [hd, hf]
    rw [hs]
    exact ⟨rfl, Sat.shutDisk D hok hT (H)⟩
  have S := S.retell (v' := .pointer (some ⟨fb, 0, none⟩)) 11 rfl rfl
  have S := S.retell (v' := .int .i64 0) 12 rfl rfl
  have S := S.retell (v' := .pointer (some ⟨fb, 0, none⟩)) 5 rfl rfl
  have S := S.retell (v' := .int .i64 0) 6 rfl rfl
  refine sr 2 S H t0 fun a w S H => ?_
  have S := S.retell (v' := .bool true) 14 rfl rfl
  refine r_condT S rfl ?_
  refine r_region ?_
  refine rn 2 S H t0 fun a w S H => ?_
  refine r_call (args := #[.pointer (some ⟨db, 0, none⟩), str (n)]) S rfl rfl Tryz.call51 (gone_ct (H := H) _ _ db mb D kA kc t n hok hT) rfl rfl rfl fun v a w hR S => ?_
  obtain ⟨rfl, H⟩ := hR
  refine r_nil ?_
  refine x_then ?_
  refine sr 2 S H t0 fun a w S H => ?_
  refine wp_ret ?_
  refine r_ret1 S H Tryz.results31 (ro_tmp S rfl) ?_
  have hs : d.remove n = ({ D with files := Dk.fdel D.files n }, 0) := by unfold Dk.Disk.remove; rw [← hD]; simp [hd, hf]
  rw [hs]
  exact ⟨rfl, Sat.shutU _ (hok.del n) (hT.del n) (u := Dk.used (Dk.fdel D.files n)) rfl (H)⟩

instance {L L' : List Res} (db i : Nat) (d : Dk.Disk) (n : Nm) [hf : FdD L db d i] [hs : St L i (diskR db (d.remove n).1) L'] : Cal Tryz.prog L 31 [.pointer (some ⟨db, 0, none⟩), str n] (.int .i64 (((d.remove n).2 : Nat) : Int)) L' (((d.files.length : Nat) : Int) ≤ 4398046511104) := ⟨Tryz.call31, fun hc w H => disk_at (fun fr H => remove_ct w fr db d n (by omega) H) H⟩
end Go.Proofs.YtgfdmhjjlajmgaaGreatDoor
namespace Go.Proofs.YtgfdmhjjlajmgaaGreatDoor
open Go.RowKit Go.Cg
set_option linter.unusedVariables false
set_option linter.unusedSimpArgs false
set_option maxRecDepth 8000
set_option synthInstance.maxHeartbeats 1000000
set_option synthInstance.maxSize 1000000
open Go.Cg.Dk (Fl Fs Nm)
theorem sec_mono {a b : Nat} (h : a ≤ b) : Dk.sectors a ≤ Dk.sectors b := Nat.div_le_div_right (by omega)
theorem writes_ct (w : World) (fr : List Res) (db mb : Nat) (D : Dk.Disk) (kA : Option Addr) (kc : Nat) (fb : Nat) (f : Fl) (Af : Option Addr) (cf : Nat) (Bf : Option Addr) (ef : Nat) (A : Option Addr) (c : Nat) (b : List UInt8) (ok : SlOk fr 1 A b.length c (u8s b)) (hfit : D.used ≤ D.room) (hroom : D.room ≤ 1099511627776) (hln : f.now.length ≤ 17592186044416) (hbl : b.length ≤ 17592186044416) (H : Sat w (blk db (.cells #[.map (some mb), .int .i64 ((D.room : Nat) : Int), .int .i64 ((D.used : Nat) : Int), .int .i64 D.ops, .int .i64 ((D.armed : Nat) : Int), .slice kA D.keep.length kc, .int .u32 (dnI D.down)] 63) :: blk fb (.cells #[.slice Af f.now.length cf, .slice Bf f.syn.length ef] 90) :: row 5 1 (.slice Af f.now.length cf) f.now.length (u8s f.now) :: fr)) :
    Rt Tryz.prog 43 #[.pointer (some ⟨db, 0, none⟩), .pointer (some ⟨fb, 0, none⟩), .int .i64 ((f.now.length : Nat) : Int), .slice A b.length c] w fun v w' => ∃ e u now A' c', v = .int .i64 ((e : Nat) : Int) ∧ Wrote D f b e u now ∧ Sat w' (blk db (.cells #[.map (some mb), .int .i64 ((D.room : Nat) : Int), .int .i64 ((u : Nat) : Int), .int .i64 D.ops, .int .i64 ((D.armed : Nat) : Int), .slice kA D.keep.length kc, .int .u32 (dnI D.down)] 63) :: fiB fb ⟨now, f.syn⟩ A' c' Bf ef :: byR A' c' now :: fr) := by
  refine en4 Tryz.func43 rfl Tryz.ntmps43 rfl fun a S => ?_
  have hm := sec_mono (Nat.le_add_right f.now.length b.length)
  have hm2 : Dk.sectors (f.now.length + b.length) ≤ f.now.length + b.length + 1 := by unfold Dk.sectors; omega
  refine sr 1 S H t0 fun a w S H => ?_
  refine r_seq ?_
  refine sb ?_
  refine rn 3 S H t0 fun a w S H => ?_
  refine scO 6 S H (fun _ => t0) fun a w S H => ?_
  refine sn ?_
  refine r_cond S rfl (fun h21 => ?_) (fun h21 => ?_)
  · skip
    exfalso; simp at h21; omega
  refine wp_skip ?_
  refine x_then ?_
  refine sb ?_
  refine rn 9 S H (by omega) fun a w S H => ?_
  refine r_y S H (y_max S rfl rfl rfl) rfl rfl rfl fun a S => ?_
  have S := S.retell (v' := .int .i64 (((f.now.length + b.length) : Nat) : Int)) 31 rfl (int_eq (by omega))
  refine rs 1 S H t0 fun a w S H => ?_
  refine qr 10 S H (by omega) fun a w S H => ?_
  refine r_seq ?_
  refine qr 11 S H (by omega) fun a w S H => ?_
  refine r_test S rfl (fun h51 => ?_) (fun h51 => ?_)
  · skip
    refine sr 1 S H t0 fun a w S H => ?_
    refine wp_ret ?_
    refine x_thenRet ?_
    refine r_ret1 S H Tryz.results43 (ro_tmp S rfl) ?_
    exact ⟨6, D.used, f.now, Af, cf, rfl, .inl ⟨by omega, rfl, rfl, rfl⟩, H⟩
  refine wp_skip ?_
  refine x_then ?_
  refine sr 9 S H (by omega) fun a w S H => ?_
  refine r_seq ?_
  refine ha [0] 3 H fun w H HS => ?_
  refine tk 0 S HS fun a S => ?_
  refine tk 1 S HS fun a S => ?_
  refine tk 2 S HS fun a S => ?_
  refine tk 3 S HS fun a S => ?_
  refine tk 5 S HS fun a S => ?_
  refine tk 6 S HS fun a S => ?_
  refine tk 7 S HS fun a S => ?_
  refine tk 8 S HS fun a S => ?_
  refine hmemo [true, true, true, true, true, true, true, true, true, true, true, true, true, false, false, false] 3 (fun a w => ∃ A1 : Option Addr, ∃ c2 : Nat, Slots a 83 [(1, .pointer (some ⟨fb, 0, none⟩)), (2, .int .i64 ((f.now.length : Nat) : Int)), (3, .slice A b.length c), (8, .int .i64 0), (60, .pointer (some ⟨fb, 0, none⟩)), (72, .slice A1 ((f.now ++ List.replicate b.length 0).length) c2), (83, undef)] ∧ Sat w (blk db (.cells #[.map (some mb), .int .i64 ((D.room : Nat) : Int), .int .i64 (((D.used : Nat) : Int) + (((Dk.sectors (f.now.length + b.length) : Nat) : Int) - ((Dk.sectors f.now.length : Nat) : Int))), .int .i64 D.ops, .int .i64 ((D.armed : Nat) : Int), .slice kA D.keep.length kc, .int .u32 (dnI D.down)] 63) :: blk fb (.cells #[.slice Af f.now.length cf, .slice Bf f.syn.length ef] 90) :: row 5 1 (.slice A1 ((f.now ++ List.replicate b.length 0).length) c2) ((f.now ++ List.replicate b.length 0).length) (u8s (f.now ++ List.replicate b.length 0)) :: fr)) ?_ fun K0 => ?_
  · rintro a w ⟨A1, c2, S, H⟩
    have HS : Sat w _ := pk [0] 3 H
    refine tk 13 S HS fun a S => ?_
    refine tk 14 S HS fun a S => ?_
    refine h1 15 ?_
    refine rs 1 S H t0 fun a w S H => ?_
    refine hk (pk [0] 3 H) fun HS => ?_
    refine hz ?_
    refine x_then ?_
    rcases Nat.eq_zero_or_pos b.length with hb0 | hb0
    · skip
      refine sb ?_
      refine rn 5 S H t0 fun a w S H => ?_
      refine r_y S H (y_sliceL (k := f.now.length) S rfl rfl rfl Tryz.underlying41 Tryz.sizeOf5 (by first | omega | (simp <;> omega)) (by first | omega | (simp <;> omega))) rfl rfl rfl fun a S => ?_
      refine rn 1 S H t0 fun a w S H => ?_
      refine r_y S H (y_copy0 S rfl rfl rfl Tryz.underlying41 (by kernel_rfl) (by first | omega | (simp <;> omega))) rfl rfl rfl fun a S => ?_
      refine sn ?_
      refine sr 1 S H t0 fun a w S H => ?_
      refine wp_ret ?_
      refine r_ret1 S H Tryz.results43 (ro_tmp S rfl) ?_
      have eu : ((D.used : Nat) : Int) + (((Dk.sectors (f.now.length + b.length) : Nat) : Int) - ((Dk.sectors f.now.length : Nat) : Int)) = ((D.used + (Dk.sectors (f.now.length + b.length) - Dk.sectors f.now.length) : Nat) : Int) := by omega
      rw [eu] at H
      have ex : f.now ++ List.replicate b.length 0 = f.now ++ b := by simp [List.eq_nil_of_length_eq_zero hb0]
      have el : (f.now ++ List.replicate b.length 0).length = (f.now ++ b).length := by simp
      rw [el, ex] at H
      exact ⟨0, _, f.now ++ b, _, _, rfl, .inr ⟨by omega, rfl, rfl, rfl⟩, H⟩
    have hcap := (SlOk.ofRow (i := 2) H rfl).le
    obtain ⟨bn, rfl⟩ := H.rowAt (i := 2) rfl (by simp; omega)
    refine sb ?_
    refine rn 5 S H t0 fun a w S H => ?_
    refine r_y S H (y_sliceRow2 (k := f.now.length) S rfl rfl rfl Tryz.underlying41 Tryz.sizeOf5 rfl (by simp at hcap ⊢; omega)) rfl rfl rfl fun a S => ?_
    refine rn 1 S H t0 fun a w S H => ?_
    refine r_copy (L' := blk db (.cells #[.map (some mb), .int .i64 ((D.room : Nat) : Int), .int .i64 (((D.used : Nat) : Int) + (((Dk.sectors (f.now.length + b.length) : Nat) : Int) - ((Dk.sectors f.now.length : Nat) : Int))), .int .i64 D.ops, .int .i64 ((D.armed : Nat) : Int), .slice kA D.keep.length kc, .int .u32 (dnI D.down)] 63) :: blk fb (.cells #[.slice (some ⟨bn, 0, none⟩) ((f.now ++ List.replicate b.length 0).length) c2, .slice Bf f.syn.length ef] 90) :: row 5 1 (.slice (some ⟨bn, 0, none⟩) ((f.now ++ List.replicate b.length 0).length) c2) ((f.now ++ List.replicate b.length 0).length) (u8s ((f.now ++ List.replicate b.length 0).take f.now.length ++ b.take (min b.length ((f.now ++ List.replicate b.length 0).length - f.now.length)) ++ (f.now ++ List.replicate b.length 0).drop (f.now.length + min b.length ((f.now ++ List.replicate b.length 0).length - f.now.length)))) :: fr) 2 S H rfl rfl rfl Tryz.underlying41 (by kernel_rfl) (((ok.more _).more _).more _) (one_u8s _) rfl (by first | omega | (simp <;> omega)) (by rw [copy8]; rfl) rfl rfl rfl fun a w S H => ?_
    refine sn ?_
    refine sr 1 S H t0 fun a w S H => ?_
    refine wp_ret ?_
    refine r_ret1 S H Tryz.results43 (ro_tmp S rfl) ?_
    have eu : ((D.used : Nat) : Int) + (((Dk.sectors (f.now.length + b.length) : Nat) : Int) - ((Dk.sectors f.now.length : Nat) : Int)) = ((D.used + (Dk.sectors (f.now.length + b.length) - Dk.sectors f.now.length) : Nat) : Int) := by omega
    rw [eu] at H
    have ex : (f.now ++ List.replicate b.length 0).take f.now.length ++ b.take (min b.length ((f.now ++ List.replicate b.length 0).length - f.now.length)) ++ (f.now ++ List.replicate b.length 0).drop (f.now.length + min b.length ((f.now ++ List.replicate b.length 0).length - f.now.length)) = f.now ++ b := by simp
    have el : (f.now ++ List.replicate b.length 0).length = (f.now ++ b).length := by simp
    rw [ex, el] at H
    exact ⟨0, _, f.now ++ b, _, _, rfl, .inr ⟨by omega, rfl, rfl, rfl⟩, H⟩
  refine h2 4 9 ?_ ?_
  · skip
    refine rs 1 S H t0 fun a w S H => ?_
    refine hk (pk [0] 3 H) fun HS => ?_
    refine h1 9 ?_
    refine rs 1 S H t0 fun a w S H => ?_
    refine hk (pk [0] 3 H) fun HS => ?_
    refine tk 10 S HS fun a S => ?_
    refine tkC 11 S HS (by omega) fun a S => ?_
    refine h1 12 ?_
    refine r_extend (m := b.length) (xs' := u8s (f.now ++ List.replicate b.length 0)) (km := (f.now ++ List.replicate b.length 0).length) (L' := fun A5 c6 => blk db (.cells #[.map (some mb), .int .i64 ((D.room : Nat) : Int), .int .i64 (((D.used : Nat) : Int) + (((Dk.sectors (f.now.length + b.length) : Nat) : Int) - ((Dk.sectors f.now.length : Nat) : Int))), .int .i64 D.ops, .int .i64 ((D.armed : Nat) : Int), .slice kA D.keep.length kc, .int .u32 (dnI D.down)] 63) :: blk fb (.cells #[.slice Af f.now.length cf, .slice Bf f.syn.length ef] 90) :: row 5 1 (.slice A5 ((f.now ++ List.replicate b.length 0).length) c6) ((f.now ++ List.replicate b.length 0).length) (u8s (f.now ++ List.replicate b.length 0)) :: fr) 2 S H rfl rfl rfl rfl el41 Tryz.underlying3 rfl rfl (by first | omega | (simp <;> omega)) (by simp only [maxLen]; first | omega | (simp <;> omega)) (by first | omega | (simp <;> omega)) (by simp) (by simp [u8s]) (fun _ _ => rfl) rfl rfl rfl fun a w A5 c6 S H => ?_
    refine sn ?_
    refine hk (pk [0] 3 H) fun HS => ?_
    exact K0 _ _ ⟨_, _, S.sub ⟨rfl, rfl, rfl, rfl, rfl, rfl, rfl, trivial⟩, H⟩
  · skip
    refine rs 1 S H t0 fun a w S H => ?_
    refine hk (pk [0] 3 H) fun HS => ?_
    refine tk 10 S HS fun a S => ?_
    refine tkC 11 S HS (by omega) fun a S => ?_
    refine h1 4 ?_
    refine rs 1 S H t0 fun a w S H => ?_
    refine hk (pk [0] 3 H) fun HS => ?_
    refine h1 12 ?_
    refine r_extend (m := b.length) (xs' := u8s (f.now ++ List.replicate b.length 0)) (km := (f.now ++ List.replicate b.length 0).length) (L' := fun A7 c8 => blk db (.cells #[.map (some mb), .int .i64 ((D.room : Nat) : Int), .int .i64 (((D.used : Nat) : Int) + (((Dk.sectors (f.now.length + b.length) : Nat) : Int) - ((Dk.sectors f.now.length : Nat) : Int))), .int .i64 D.ops, .int .i64 ((D.armed : Nat) : Int), .slice kA D.keep.length kc, .int .u32 (dnI D.down)] 63) :: blk fb (.cells #[.slice Af f.now.length cf, .slice Bf f.syn.length ef] 90) :: row 5 1 (.slice A7 ((f.now ++ List.replicate b.length 0).length) c8) ((f.now ++ List.replicate b.length 0).length) (u8s (f.now ++ List.replicate b.length 0)) :: fr) 2 S H rfl rfl rfl rfl el41 Tryz.underlying3 rfl rfl (by first | omega | (simp <;> omega)) (by simp only [maxLen]; first | omega | (simp <;> omega)) (by first | omega | (simp <;> omega)) (by simp) (by simp [u8s]) (fun _ _ => rfl) rfl rfl rfl fun a w A7 c8 S H => ?_
    refine sn ?_
    refine hk (pk [0] 3 H) fun HS => ?_
    exact K0 _ _ ⟨_, _, S.sub ⟨rfl, rfl, rfl, rfl, rfl, rfl, rfl, trivial⟩, H⟩

theorem append_ct (w : World) (fr : List Res) (db : Nat) (d : Dk.Disk) (n : Nm) (hcnt : d.files.length ≤ 4398046511104) (A : Option Addr) (c : Nat) (b : List UInt8) (ok : SlOk fr 1 A b.length c (u8s b)) (hbl : b.length ≤ 17592186044416) (H : Sat w (diskR db d :: fr)) :
    Rt Tryz.prog 22 #[.pointer (some ⟨db, 0, none⟩), str (n), .slice A b.length c] w fun v w' => v = .int .i64 (((d.append n b).2 : Nat) : Int) ∧ Sat w' (diskR db (d.append n b).1 :: fr) := by
  refine en3 Tryz.func22 rfl Tryz.ntmps22 rfl fun a S => ?_
  have hdok := H.diskOk
  refine sr 1 S H t0 fun a w S H => ?_
  refine sb ?_
  refine rn 2 S H t0 fun a w S H => ?_
  refine r_call (args := #[.pointer (some ⟨db, 0, none⟩), str (n)]) S rfl rfl Tryz.call41 (on_ct (H := H) _ _ db d n hcnt) rfl rfl rfl fun v a w hR S => ?_
  obtain ⟨p, e, mb, t, kA, kc, rfl, hok, hT, hon, H⟩ := hR
  have har := hok.armed
  obtain ⟨D, hD⟩ : ∃ D, D = d.begin_ := ⟨_, rfl⟩
  rw [← hD] at hok hT hon H har
  refine rs 5 S H t0 fun a w S H => ?_
  refine r_seq ?_
  rcases hon with ⟨hd, rfl, rfl⟩ | ⟨hd, hf, hl, rfl, rfl⟩ | ⟨hd, f, fb, hf, hl, rfl, rfl⟩
  · skip
    have S := S.retell (v' := .pointer none) 13 rfl rfl
    have S := S.retell (v' := .int .i64 7) 14 rfl rfl
    have S := S.retell (v' := .pointer none) 7 rfl rfl
    have S := S.retell (v' := .int .i64 7) 8 rfl rfl
    refine sr 2 S H t0 fun a w S H => ?_
    have S := S.retell (v' := .bool true) 16 rfl rfl
    refine r_condT S rfl ?_
    refine sr 2 S H t0 fun a w S H => ?_
    refine wp_ret ?_
    refine x_thenRet ?_
    refine r_ret1 S H Tryz.results22 (ro_tmp S rfl) ?_
    have hs : d.append n b = (D, 7) := by unfold Dk.Disk.append; rw [← hD]; simp [hd]
    rw [hs]
    exact ⟨rfl, Sat.shutDisk D hok hT (H)⟩
  · skip
    have S := S.retell (v' := .pointer none) 13 rfl rfl
    have S := S.retell (v' := .int .i64 4) 14 rfl rfl
    have S := S.retell (v' := .pointer none) 7 rfl rfl
    have S := S.retell (v' := .int .i64 4) 8 rfl rfl
    refine sr 2 S H t0 fun a w S H => ?_
    have S := S.retell (v' := .bool true) 16 rfl rfl
    refine r_condT S rfl ?_
    refine sr 2 S H t0 fun a w S H => ?_
    refine wp_ret ?_
    refine x_thenRet ?_
    refine r_ret1 S H Tryz.results22 (ro_tmp S rfl) ?_
    have hs : d.append n b = (D, 4) := by unfold Dk.Disk.append; rw [← hD]; simp [hd, hf]
    rw [hs]
    exact ⟨rfl, Sat.shutDisk D hok hT (H)⟩
  have S := S.retell (v' := .pointer (some ⟨fb, 0, none⟩)) 13 rfl rfl
  have S := S.retell (v' := .int .i64 0) 14 rfl rfl
  have S := S.retell (v' := .pointer (some ⟨fb, 0, none⟩)) 7 rfl rfl
  have S := S.retell (v' := .int .i64 0) 8 rfl rfl
  have H := Sat.fileOut (hT.nodup hok.ris) hf hl (pk [2, 0, 1, 3] 4 H)
  have hln := Dk.len_le hok hf
  have hsy : f.syn.length ≤ f.now.length := hok.syn _ (Dk.mem_of_fget hf)
  obtain ⟨Af, cf, Bf, ef, H⟩ := H.openFile
  refine sr 2 S H t0 fun a w S H => ?_
  have S := S.retell (v' := .bool false) 16 rfl rfl
  refine r_condF S rfl ?_
  refine wp_skip ?_
  refine x_then ?_
  refine sb ?_
  refine rn 8 S H t0 fun a w S H => ?_
  refine r_call (args := #[.pointer (some ⟨db, 0, none⟩), .pointer (some ⟨fb, 0, none⟩), .int .i64 ((f.now.length : Nat) : Int), .slice A b.length c]) S rfl rfl Tryz.call43 (writes_ct (H := (pk [4, 0, 1, 2, 3, 5, 6] 7 H)) _ _ db mb D kA kc fb f Af cf Bf ef _ _ b (ok.via fun _ H => H.drop.drop.drop.drop) hok.fit hok.room hln hbl) rfl rfl rfl fun v a w hR S => ?_
  obtain ⟨e2, u, nw, A', c', rfl, hwr, H⟩ := hR
  refine rs 1 S H t0 fun a w S H => ?_
  refine wp_ret ?_
  refine r_ret1 S H Tryz.results22 (ro_tmp S rfl) ?_
  rcases hwr with ⟨h1, rfl, rfl, rfl⟩ | ⟨h1, rfl, rfl, rfl⟩
  · skip
    have H := Sat.fileIn (hT.nodup hok.ris) hl (Sat.shutFile ⟨f.now, f.syn⟩ (pk [1, 2, 3, 4, 0, 5, 6] 7 H))
    have hff : (⟨f.now, f.syn⟩ : Fl) = f := rfl
    rw [hff, Dk.fput_same hok.ris hf] at H
    have hs : d.append n b = (D, 6) := by unfold Dk.Disk.append; rw [← hD]; simp [hd, hf, h1]
    rw [hs]
    exact ⟨rfl, Sat.shutDisk D hok hT (pk [1, 2, 0, 3] 4 H)⟩
  · skip
    have H := Sat.fileIn (hT.nodup hok.ris) hl (Sat.shutFile ⟨f.now ++ b, f.syn⟩ (pk [1, 2, 3, 4, 0, 5, 6] 7 H))
    have hu := Dk.used_fput_old (g := ⟨f.now ++ b, f.syn⟩) hok.ris hf
    have hmo := sec_mono (Nat.le_add_right f.now.length b.length)
    have hu' : D.used + (Dk.sectors (f.now.length + b.length) - Dk.sectors f.now.length) = Dk.used (Dk.fput D.files n ⟨f.now ++ b, f.syn⟩) := by simp only [List.length_append] at hu; unfold Dk.Disk.used; omega
    have hs : d.append n b = ({ D with files := Dk.fput D.files n ⟨f.now ++ b, f.syn⟩ }, 0) := by unfold Dk.Disk.append; rw [← hD]; simp [hd, hf, h1]
    have hok2 := hdok.append n b
    rw [hs] at hok2
    rw [hs]
    exact ⟨rfl, Sat.shutU _ hok2 (hT.put hok.ris hf) (u := D.used + (Dk.sectors (f.now.length + b.length) - Dk.sectors f.now.length)) hu' (pk [1, 2, 0, 3] 4 H)⟩

theorem readAt_ct (w : World) (fr : List Res) (db : Nat) (d : Dk.Disk) (n : Nm) (hcnt : d.files.length ≤ 4398046511104) (i k : Int) (hi : -4611686018427387904 ≤ i ∧ i ≤ 4611686018427387904) (hk : -4611686018427387904 ≤ k ∧ k ≤ 4611686018427387904) (H : Sat w (diskR db d :: fr)) :
    Rt Tryz.prog 89 #[.pointer (some ⟨db, 0, none⟩), str (n), .int .i64 i, .int .i64 k] w fun v w' => ∃ A c, v = .tuple #[.slice A (d.readAt n i k).2.1.length c, .int .i64 (((d.readAt n i k).2.2 : Nat) : Int)] ∧ Sat w' (diskR db (d.readAt n i k).1 :: row 5 1 (.slice A (d.readAt n i k).2.1.length c) (d.readAt n i k).2.1.length (u8s (d.readAt n i k).2.1) :: fr) := by
  refine en4 Tryz.func89 rfl Tryz.ntmps89 rfl fun a S => ?_
  refine sr 2 S H t0 fun a w S H => ?_
  refine sb ?_
  refine rn 2 S H t0 fun a w S H => ?_
  refine r_call (args := #[.pointer (some ⟨db, 0, none⟩), str (n)]) S rfl rfl Tryz.call41 (on_ct (H := H) _ _ db d n hcnt) rfl rfl rfl fun v a w hR S => ?_
  obtain ⟨p, e, mb, t, kA, kc, rfl, hok, hT, hon, H⟩ := hR
  have har := hok.armed
  obtain ⟨D, hD⟩ : ∃ D, D = d.begin_ := ⟨_, rfl⟩
  rw [← hD] at hok hT hon H har
  refine rs 5 S H t0 fun a w S H => ?_
  refine r_seq ?_
  refine r_block ?_
  rcases hon with ⟨hd, rfl, rfl⟩ | ⟨hd, hf, hl, rfl, rfl⟩ | ⟨hd, f, fb, hf, hl, rfl, rfl⟩
  · skip
    have S := S.retell (v' := .pointer none) 16 rfl rfl
    have S := S.retell (v' := .int .i64 7) 17 rfl rfl
    have S := S.retell (v' := .pointer none) 10 rfl rfl
    have S := S.retell (v' := .int .i64 7) 11 rfl rfl
    refine sb ?_
    refine rn 2 S H t0 fun a w S H => ?_
    have S := S.retell (v' := .bool true) 20 rfl rfl
    refine rs 1 S H t0 fun a w S H => ?_
    refine r_condT S rfl ?_
    refine sr 3 S H t0 fun a w S H => ?_
    refine wp_ret ?_
    refine x_blockRet ?_
    refine x_thenRet ?_
    refine r_ret2 S H Tryz.results89 (ro_tmp S rfl) (ro_tmp S rfl) ?_
    have hs : d.readAt n i k = (D, [], 7) := by unfold Dk.Disk.readAt; rw [← hD]; simp [hd]
    rw [hs]
    refine ⟨none, 0, rfl, ?_⟩
    have H := Sat.shutDisk D hok hT (H)
    have H := H.nilRow 5 1
    exact pk [1, 0] 2 H
  · skip
    have S := S.retell (v' := .pointer none) 16 rfl rfl
    have S := S.retell (v' := .int .i64 4) 17 rfl rfl
    have S := S.retell (v' := .pointer none) 10 rfl rfl
    have S := S.retell (v' := .int .i64 4) 11 rfl rfl
    refine sb ?_
    refine rn 2 S H t0 fun a w S H => ?_
    have S := S.retell (v' := .bool true) 20 rfl rfl
    refine rs 1 S H t0 fun a w S H => ?_
    refine r_condT S rfl ?_
    refine sr 3 S H t0 fun a w S H => ?_
    refine wp_ret ?_
    refine x_blockRet ?_
    refine x_thenRet ?_
    refine r_ret2 S H Tryz.results89 (ro_tmp S rfl) (ro_tmp S rfl) ?_
    have hs : d.readAt n i k = (D, [], 4) := by unfold Dk.Disk.readAt; rw [← hD]; simp [hd, hf]
    rw [hs]
    refine ⟨none, 0, rfl, ?_⟩
    have H := Sat.shutDisk D hok hT (H)
    have H := H.nilRow 5 1
    exact pk [1, 0] 2 H
  have S := S.retell (v' := .pointer (some ⟨fb, 0, none⟩)) 16 rfl rfl
  have S := S.retell (v' := .int .i64 0) 17 rfl rfl
  have S := S.retell (v' := .pointer (some ⟨fb, 0, none⟩)) 10 rfl rfl
  have S := S.retell (v' := .int .i64 0) 11 rfl rfl
  have H := Sat.fileOut (hT.nodup hok.ris) hf hl (pk [2, 0, 1, 3] 4 H)
  have hln := Dk.len_le hok hf
  have hsy : f.syn.length ≤ f.now.length := hok.syn _ (Dk.mem_of_fget hf)
  obtain ⟨Af, cf, Bf, ef, H⟩ := H.openFile
  refine sb ?_
  refine rn 2 S H t0 fun a w S H => ?_
  have S := S.retell (v' := .bool false) 20 rfl rfl
  refine rs 1 S H t0 fun a w S H => ?_
  refine r_condF S rfl ?_
  refine sb ?_
  refine rn 3 S H t0 fun a w S H => ?_
  refine scO 1 S H (fun _ => t0) fun a w S H => ?_
  refine rn 1 S H t0 fun a w S H => ?_
  refine scO 6 S H (fun _ => t0) fun a w S H => ?_
  refine rn 1 S H t0 fun a w S H => ?_
  refine scO 8 S H (fun h => by simp only [Bool.or_eq_false_iff, Bool.and_eq_true, decide_eq_true_eq, decide_eq_false_iff_not] at h; omega) fun a w S H => ?_
  refine rs 1 S H t0 fun a w S H => ?_
  refine r_cond S rfl (fun h22 => ?_) (fun h22 => ?_)
  · skip
    simp only [Bool.or_eq_true, decide_eq_true_eq] at h22
    refine sr 2 S H t0 fun a w S H => ?_
    refine wp_ret ?_
    refine x_blockRet ?_
    refine x_thenRet ?_
    refine r_ret2 S H Tryz.results89 (ro_tmp S rfl) (ro_tmp S rfl) ?_
    have H := Sat.fileIn (hT.nodup hok.ris) hl (Sat.shutFile f H)
    rw [Dk.fput_same hok.ris hf] at H
    have hs : d.readAt n i k = (D, [], 1) := by unfold Dk.Disk.readAt; rw [← hD]; simp only; rw [if_neg (by simp [hd]), hf]; simp only; rw [if_neg (by omega)]
    rw [hs]
    refine ⟨none, 0, rfl, ?_⟩
    have H := Sat.shutDisk D hok hT (pk [1, 2, 0, 3] 4 H)
    have H := H.nilRow 5 1
    exact pk [1, 0] 2 H
  simp only [Bool.or_eq_false_iff, decide_eq_false_iff_not] at h22
  have hcap := (SlOk.ofRow (i := 1) H rfl).le
  refine wp_skip ?_
  refine x_blockEnd ?_
  refine x_then ?_
  refine sb ?_
  refine rn 8 S H (by omega) fun a w S H => ?_
  refine r_y S H (y_sliceLH (k := i.toNat) (k' := (i + k).toNat) S rfl rfl rfl rfl Tryz.underlying41 Tryz.sizeOf5 (by omega) (by omega) (by omega) (by omega)) rfl rfl rfl fun a S => ?_
  refine r_call (args := #[.slice (shift Af (i.toNat * 1) (decide (cf = i.toNat))) ((i + k).toNat - i.toNat) (cf - i.toNat)]) S rfl rfl Tryz.call71 (clone8_ct (H := H) _ _ _ _ _ ((f.now.drop i.toNat).take ((i + k).toNat - i.toNat)) ((SlOk.ofRow (i := 1) H rfl).part8 i.toNat ((i + k).toNat) (by first | omega | (simp <;> omega)) (by first | omega | (simp <;> omega))) (by simp; omega)) rfl rfl rfl fun v a w hR S => ?_
  obtain ⟨A1, c2, rfl, H⟩ := hR
  refine rs 2 S H t0 fun a w S H => ?_
  refine wp_ret ?_
  refine r_ret2 S H Tryz.results89 (ro_tmp S rfl) (ro_tmp S rfl) ?_
  have H := Sat.fileIn (hT.nodup hok.ris) hl (Sat.shutFile f (pk [1, 2, 3, 4, 0, 5, 6, 7] 8 H))
  rw [Dk.fput_same hok.ris hf] at H
  have ek : (i + k).toNat - i.toNat = k.toNat := by omega
  rw [ek] at H
  have hs : d.readAt n i k = (D, (f.now.drop i.toNat).take k.toNat, 0) := by unfold Dk.Disk.readAt; rw [← hD]; simp only; rw [if_neg (by simp [hd]), hf]; simp only; rw [if_pos (by omega)]
  rw [hs]
  rw [ek]
  have H := (pk [1, 0, 2, 3, 4] 5 H)
  have H := pk [2, 3, 1, 4, 0] 5 H
  have H := Sat.shutDisk D hok hT H
  exact ⟨_, _, rfl, H⟩

theorem rename_ct (w : World) (fr : List Res) (db : Nat) (d : Dk.Disk) (n m : Nm) (hcnt : d.files.length ≤ 4398046511104) (H : Sat w (diskR db d :: fr)) :
    Rt Tryz.prog 56 #[.pointer (some ⟨db, 0, none⟩), str (n), str (m)] w fun v w' => v = .int .i64 (((d.rename n m).2 : Nat) : Int) ∧ Sat w' (diskR db (d.rename n m).1 :: fr) := by
  refine en3 Tryz.func56 rfl Tryz.ntmps56 rfl fun a S => ?_
  have hdok := H.diskOk
  refine sr 1 S H t0 fun a w S H => ?_
  refine sb ?_
  refine rn 2 S H t0 fun a w S H => ?_
  refine r_call (args := #[.pointer (some ⟨db, 0, none⟩), str (n)]) S rfl rfl Tryz.call41 (on_ct (H := H) _ _ db d n hcnt) rfl rfl rfl fun v a w hR S => ?_
  obtain ⟨p, e, mb, t, kA, kc, rfl, hok, hT, hon, H⟩ := hR
  have har := hok.armed
  obtain ⟨D, hD⟩ : ∃ D, D = d.begin_ := ⟨_, rfl⟩
  rw [← hD] at hok hT hon H har
  refine rs 5 S H t0 fun a w S H => ?_
  refine r_seq ?_
  refine r_block ?_
  rcases hon with ⟨hd, rfl, rfl⟩ | ⟨hd, hf, hl, rfl, rfl⟩ | ⟨hd, f, fb, hf, hl, rfl, rfl⟩
  · skip
    have S := S.retell (v' := .pointer none) 13 rfl rfl
    have S := S.retell (v' := .int .i64 7) 14 rfl rfl
    have S := S.retell (v' := .pointer none) 7 rfl rfl
    have S := S.retell (v' := .int .i64 7) 8 rfl rfl
    refine sb ?_
    refine rn 2 S H t0 fun a w S H => ?_
    have S := S.retell (v' := .bool true) 17 rfl rfl
    refine rs 1 S H t0 fun a w S H => ?_
    refine r_condT S rfl ?_
    refine sr 2 S H t0 fun a w S H => ?_
    refine wp_ret ?_
    refine x_blockRet ?_
    refine x_thenRet ?_
    refine r_ret1 S H Tryz.results56 (ro_tmp S rfl) ?_
    have hs : d.rename n m = (D, 7) := by unfold Dk.Disk.rename; rw [← hD]; simp [hd]
    rw [hs]
    exact ⟨rfl, Sat.shutDisk D hok hT (H)⟩
  · skip
    have S := S.retell (v' := .pointer none) 13 rfl rfl
    have S := S.retell (v' := .int .i64 4) 14 rfl rfl
    have S := S.retell (v' := .pointer none) 7 rfl rfl
    have S := S.retell (v' := .int .i64 4) 8 rfl rfl
    refine sb ?_
    refine rn 2 S H t0 fun a w S H => ?_
    have S := S.retell (v' := .bool true) 17 rfl rfl
    refine rs 1 S H t0 fun a w S H => ?_
    refine r_condT S rfl ?_
    refine sr 2 S H t0 fun a w S H => ?_
    refine wp_ret ?_
    refine x_blockRet ?_
    refine x_thenRet ?_
    refine r_ret1 S H Tryz.results56 (ro_tmp S rfl) ?_
    have hs : d.rename n m = (D, 4) := by unfold Dk.Disk.rename; rw [← hD]; simp [hd, hf]
    rw [hs]
    exact ⟨rfl, Sat.shutDisk D hok hT (H)⟩
  have S := S.retell (v' := .pointer (some ⟨fb, 0, none⟩)) 13 rfl rfl
  have S := S.retell (v' := .int .i64 0) 14 rfl rfl
  have S := S.retell (v' := .pointer (some ⟨fb, 0, none⟩)) 7 rfl rfl
  have S := S.retell (v' := .int .i64 0) 8 rfl rfl
  refine sb ?_
  refine rn 2 S H t0 fun a w S H => ?_
  have S := S.retell (v' := .bool false) 17 rfl rfl
  refine rs 1 S H t0 fun a w S H => ?_
  refine r_condF S rfl ?_
  refine sr 4 S H (by omega) fun a w S H => ?_
  refine r_cond S rfl (fun h19 => ?_) (fun h19 => ?_)
  · skip
    refine sr 1 S H t0 fun a w S H => ?_
    refine wp_ret ?_
    refine x_blockRet ?_
    refine x_thenRet ?_
    refine r_ret1 S H Tryz.results56 (ro_tmp S rfl) ?_
    have hm : Dk.may m = false := by simpa using h19
    have hs : d.rename n m = (D, 1) := by unfold Dk.Disk.rename; rw [← hD]; simp [hd, hf, hm]
    rw [hs]
    exact ⟨rfl, Sat.shutDisk D hok hT (H)⟩
  refine sr 4 S H t0 fun a w S H => ?_
  refine r_test S rfl (fun h23 => ?_) (fun h23 => ?_)
  · skip
    refine sr 1 S H t0 fun a w S H => ?_
    refine wp_ret ?_
    refine x_blockRet ?_
    refine x_thenRet ?_
    refine r_ret1 S H Tryz.results56 (ro_tmp S rfl) ?_
    have hm : Dk.may m = true := by simpa using h19
    have hnm : n = m := by simpa using h23
    subst hnm
    have hs : d.rename n n = (D, 0) := by unfold Dk.Disk.rename; rw [← hD]; simp [hd, hf, hm]
    rw [hs]
    exact ⟨rfl, Sat.shutDisk D hok hT (H)⟩
  refine wp_skip ?_
  refine x_blockEnd ?_
  refine x_then ?_
  have hnm : n ≠ m := by simpa using h23
  refine sb ?_
  refine rn 2 S H t0 fun a w S H => ?_
  refine r_call (args := #[.pointer (some ⟨db, 0, none⟩), str (m)]) S rfl rfl Tryz.call51 (gone_ct (H := H) _ _ db mb D kA kc t m hok hT) rfl rfl rfl fun v a w hR S => ?_
  obtain ⟨rfl, H⟩ := hR
  refine sn ?_
  have hlm : tlook (tdel (tdel t m) n) m = none := by rw [tlook_tdel, if_neg (Ne.symm hnm), tlook_tdel, if_pos rfl]
  have hgm : Dk.fget (Dk.fdel (Dk.fdel D.files m) n) m = none := by rw [Dk.fget_fdel, if_neg (Ne.symm hnm), Dk.fget_fdel, if_pos rfl]
  refine sb ?_
  refine rn 5 S H t0 fun a w S H => ?_
  refine r_mapDel (l' := tmap (tdel (tdel t m) n)) (L' := blk db (.cells #[.map (some mb), .int .i64 ((D.room : Nat) : Int), .int .i64 ((Dk.used (Dk.fdel D.files m) : Nat) : Int), .int .i64 D.ops, .int .i64 ((D.armed : Nat) : Int), .slice kA D.keep.length kc, .int .u32 (dnI D.down)] 63) :: mp (nms) (mkP) mb (tmap (tdel (tdel t m) n)) :: filesR (tdel t m) (Dk.fdel D.files m) :: row 4 1 (.slice kA D.keep.length kc) D.keep.length (bools D.keep) :: fr) 1 (n) S H rfl rfl rfl (KeyOk.nm Tryz.underlying53 Tryz.underlying9) rfl (nodup_tmap ((hT.del m).nodup (Dk.rising_fdel hok.ris m))) (tmap_del _ n) rfl rfl rfl fun w H => ?_
  refine sn ?_
  refine sb ?_
  refine rn 6 S H t0 fun a w S H => ?_
  refine r_mapSet (L' := blk db (.cells #[.map (some mb), .int .i64 ((D.room : Nat) : Int), .int .i64 ((Dk.used (Dk.fdel D.files m) : Nat) : Int), .int .i64 D.ops, .int .i64 ((D.armed : Nat) : Int), .slice kA D.keep.length kc, .int .u32 (dnI D.down)] 63) :: mp (nms) (mkP) mb (tmap (tdel (tdel t m) n ++ [(m, fb)])) :: filesR (tdel t m) (Dk.fdel D.files m) :: row 4 1 (.slice kA D.keep.length kc) D.keep.length (bools D.keep) :: fr) 1 (m) (some fb) S H rfl rfl rfl rfl (KeyOk.nm Tryz.underlying53 Tryz.underlying9) rfl (by rw [tupd_tmap hlm]; rfl) rfl rfl fun w H => ?_
  refine sn ?_
  refine sr 1 S H t0 fun a w S H => ?_
  refine wp_ret ?_
  refine r_ret1 S H Tryz.results56 (ro_tmp S rfl) ?_
  have hm : Dk.may m = true := by simpa using h19
  have hl2 : tlook (tdel t m) n = some fb := by rw [tlook_tdel, if_neg hnm, hl]
  have hg2 : Dk.fget (Dk.fdel D.files m) n = some f := by rw [Dk.fget_fdel, if_neg hnm, hf]
  have hT2 := hT.del m
  have hr2 := Dk.rising_fdel hok.ris m
  have H := (pk [2, 0, 1, 3] 4 H)
  have H := Sat.fileOut (hT2.nodup hr2) hg2 hl2 H
  have H := pk [1, 0, 2, 3, 4] 5 H
  have H := Sat.fileGone H
  have H := pk [1, 0, 2, 3, 4] 5 H
  have H := Sat.fileNew hlm H
  have ef : Dk.fput (Dk.fdel (Dk.fdel D.files m) n) m f = Dk.fput (Dk.fdel D.files n) m f := by rw [Dk.fdel_comm, Dk.fput_fdel]
  rw [ef] at H
  have hT3 : Tied (tdel (tdel t m) n ++ [(m, fb)]) (Dk.fput (Dk.fdel D.files n) m f) := by rw [← ef]; exact (hT2.del n).new hgm
  have hok2 := hdok.rename n m
  have hu : Dk.used (Dk.fdel D.files m) = Dk.used (Dk.fput (Dk.fdel D.files n) m f) := by rw [← ef, Dk.used_fput_new hgm, Dk.used_fdel hr2 hg2]; omega
  have hs : d.rename n m = ({ D with files := Dk.fput (Dk.fdel D.files n) m f }, 0) := by unfold Dk.Disk.rename; rw [← hD]; simp [hd, hf, hm, hnm]
  rw [hs] at hok2
  rw [hs]
  exact ⟨rfl, Sat.shutU _ hok2 hT3 (u := Dk.used (Dk.fdel D.files m)) hu (pk [1, 2, 0, 3] 4 H)⟩

instance {L L' : List Res} (db i : Nat) (d : Dk.Disk) (n m : Nm) [hf : FdD L db d i] [hs : St L i (diskR db (d.rename n m).1) L'] : Cal Tryz.prog L 56 [.pointer (some ⟨db, 0, none⟩), str n, str m] (.int .i64 (((d.rename n m).2 : Nat) : Int)) L' (((d.files.length : Nat) : Int) ≤ 4398046511104) := ⟨Tryz.call56, fun hc w H => disk_at (fun fr H => rename_ct w fr db d n m (by omega) H) H⟩
theorem list_ct (w : World) (fr : List Res) (db : Nat) (d : Dk.Disk) (hcnt : d.files.length ≤ 4398046511104) (H : Sat w (diskR db d :: fr)) :
    Rt Tryz.prog 15 #[.pointer (some ⟨db, 0, none⟩)] w fun v w' => ∃ A c, v = .tuple #[.slice A d.list.2.1.length c, .int .i64 ((d.list.2.2 : Nat) : Int)] ∧ Sat w' (diskR db d.list.1 :: row 9 1 (.slice A d.list.2.1.length c) d.list.2.1.length (strs d.list.2.1) :: fr) := by
  refine en1 Tryz.func15 rfl Tryz.ntmps15 rfl fun a S => ?_
  refine sr 2 S H t0 fun a w S H => ?_
  refine r_seq ?_
  refine sb ?_
  refine rn 1 S H t0 fun a w S H => ?_
  refine r_call (args := #[.pointer (some ⟨db, 0, none⟩)]) S rfl rfl Tryz.call35 (begins_ct (H := H) _ _ db d hcnt) rfl rfl rfl fun v a w hR S => ?_
  obtain ⟨rfl, H⟩ := hR
  obtain ⟨D, hD⟩ : ∃ D, D = d.begin_ := ⟨_, rfl⟩
  rw [← hD] at H S
  refine rs 1 S H t0 fun a w S H => ?_
  rcases Bool.eq_false_or_eq_true D.down with hd | hd
  · skip
    have he : ((D.err : Nat) : Int) = 7 := by simp [Dk.Disk.err, hd]
    have S := S.retell (v' := .int .i64 7) 6 rfl (congrArg (Value.int .i64) he)
    have S := S.retell (v' := .int .i64 7) 4 rfl (congrArg (Value.int .i64) he)
    refine sr 2 S H t0 fun a w S H => ?_
    have S := S.retell (v' := .bool true) 8 rfl rfl
    refine r_condT S rfl ?_
    refine sr 3 S H t0 fun a w S H => ?_
    refine wp_ret ?_
    refine x_thenRet ?_
    refine r_ret2 S H Tryz.results15 (ro_tmp S rfl) (ro_tmp S rfl) ?_
    have hs : d.list = (D, [], 7) := by unfold Dk.Disk.list; rw [← hD]; simp [hd]
    rw [hs]
    refine ⟨none, 0, rfl, ?_⟩
    have H := H.nilRow 9 1
    exact pk [1, 0] 2 H
  have he : ((D.err : Nat) : Int) = 0 := by simp [Dk.Disk.err, hd]
  have S := S.retell (v' := .int .i64 0) 6 rfl (congrArg (Value.int .i64) he)
  have S := S.retell (v' := .int .i64 0) 4 rfl (congrArg (Value.int .i64) he)
  refine sr 2 S H t0 fun a w S H => ?_
  have S := S.retell (v' := .bool false) 8 rfl rfl
  refine r_condF S rfl ?_
  refine wp_skip ?_
  refine x_then ?_
  obtain ⟨mb, t, kA, kc, hok, hT, H⟩ := H.openDisk
  have har := hok.armed
  refine sb ?_
  refine rn 4 S H t0 fun a w S H => ?_
  refine r_call (args := #[.map (some mb)]) S rfl rfl Tryz.call37 (keys_ct (H := H) _ _ mb) rfl rfl rfl fun v a w hR S => ?_
  obtain ⟨kb3, rfl, H⟩ := hR
  refine r_call (args := #[.func (.func 63) #[] #[.pointer (some ⟨kb3, 0, none⟩)]]) S rfl rfl Tryz.call36 (sorted_ct (H := (pk [0, 2, 1, 3, 4] 5 H)) _ _ kb3 mb t (D.files.map (fun p : Nm × Fl => p.1)) hT (List.pairwise_map.2 hok.ris) (by rw [List.length_map, hD, Dk.len_begin]; omega) (Tied.nam hT hok.nam)) rfl rfl rfl fun v a w hR S => ?_
  obtain ⟨A4, c5, rfl, H⟩ := hR
  refine rs 2 S H t0 fun a w S H => ?_
  refine wp_ret ?_
  refine r_ret2 S H Tryz.results15 (ro_tmp S rfl) (ro_tmp S rfl) ?_
  have hs : d.list = (D, D.files.map (·.1), 0) := by unfold Dk.Disk.list; rw [← hD]; simp [hd]
  rw [hs]
  have H := pk [3, 2, 4, 5, 0] 6 H
  have H := Sat.shutDisk D hok hT H
  exact ⟨_, _, rfl, H⟩

theorem new_ct (w : World) (fr : List Res) (r : Int) (hr : r ≤ 1099511627776) (H : Sat w (fr)) :
    Rt Tryz.prog 12 #[.int .i64 r] w fun v w' => ∃ db, v = .pointer (some ⟨db, 0, none⟩) ∧ Sat w' (diskR db (Dk.fresh r) :: fr) := by
  refine en1 Tryz.func12 rfl Tryz.ntmps12 rfl fun a S => ?_
  refine sr 1 S H t0 fun a w S H => ?_
  refine sb ?_
  refine r_makeMap nms mkP S H rfl rfl rfl rfl fun a w b1 S H => ?_
  refine rn 2 S H t0 fun a w S H => ?_
  refine r_y S H (y_build (vs := #[(0, .map (some b1)), (1, .int .i64 (max r 0))]) (v := .agg #[.map (some b1), .int .i64 (max r 0), .int .i64 0, .int .i64 0, .int .i64 0, .slice none 0 0, .int .u32 0]) S rfl rfl (fun w => by kernel_rfl)) rfl rfl rfl fun a S => ?_
  refine r_box (c := #[.map (some b1), .int .i64 (max r 0), .int .i64 0, .int .i64 0, .int .i64 0, .slice none 0 0, .int .u32 0]) S H rfl rfl rfl rfl rfl rfl fun a w b2 S H => ?_
  refine rs 1 S H t0 fun a w S H => ?_
  refine wp_ret ?_
  refine r_ret1 S H Tryz.results12 (ro_tmp S rfl) ?_
  have e1 : max r 0 = ((r.toNat : Nat) : Int) := by omega
  rw [e1] at H
  have H := (sat_star (M := [])).2 H
  have H := pk [1, 2, 0] 3 H
  have H := H.nilRow 4 1
  have H := pk [1, 2, 3, 0] 4 H
  exact ⟨_, rfl, Sat.shutDisk (t := []) (Dk.fresh r) (Dk.fresh_ok hr) (List.Perm.refl _) H⟩

theorem restart_ct (w : World) (fr : List Res) (db : Nat) (d : Dk.Disk) (H : Sat w (diskR db d :: fr)) :
    Rt Tryz.prog 26 #[.pointer (some ⟨db, 0, none⟩)] w fun v w' => v = .tuple #[] ∧ Sat w' (diskR db d.restart :: fr) := by
  refine en1 Tryz.func26 rfl Tryz.ntmps26 rfl fun a S => ?_
  obtain ⟨mb, t, kA, kc, hok, hT, H⟩ := H.openDisk
  have har := hok.armed
  refine er 4 S H (by omega) fun a w S H => ?_
  refine r_end0 S Tryz.results26 ?_
  exact ⟨rfl, Sat.shutDisk d.restart hok.restart hT H⟩

instance {L L' : List Res} (db i : Nat) (d : Dk.Disk) [hf : FdD L db d i] [hs : St L i (diskR db d.restart) L'] : Cal Tryz.prog L 26 [.pointer (some ⟨db, 0, none⟩)] (.tuple #[]) L' ((0 : Int) ≤ 0) := ⟨Tryz.call26, fun hc w H => disk_at (fun fr H => restart_ct w fr db d H) H⟩
theorem arm_ct (w : World) (fr : List Res) (db : Nat) (d : Dk.Disk) (x : Int) (hx : x ≤ 9223372036854775807) (A : Option Addr) (c : Nat) (k : List Bool) (ok : SlOk fr 1 A k.length c (bools k)) (hk : k.length ≤ 70368744177664) (H : Sat w (diskR db d :: fr)) :
    Rt Tryz.prog 24 #[.pointer (some ⟨db, 0, none⟩), .int .i64 x, .slice A k.length c] w fun v w' => v = .tuple #[] ∧ Sat w' (diskR db (d.arm x k) :: fr) := by
  refine en3 Tryz.func24 rfl Tryz.ntmps24 rfl fun a S => ?_
  obtain ⟨mb, t, kA, kc, hok, hT, H⟩ := H.openDisk
  have har := hok.armed
  refine r_region ?_
  refine rn 5 S H t0 fun a w S H => ?_
  refine r_call (args := #[.slice A k.length c]) S rfl rfl Tryz.call44 (cloneB_ct (H := H) _ _ _ _ _ k ((((ok.more _).more _).more _).more _) (by omega)) rfl rfl rfl fun v a w hR S => ?_
  obtain ⟨A1, c2, rfl, H⟩ := hR
  refine rn 6 S H t0 fun a w S H => ?_
  refine r_nil ?_
  refine r_end0 S Tryz.results24 ?_
  have e1 : max x 0 = ((x.toNat : Nat) : Int) := by omega
  rw [e1] at H
  exact ⟨rfl, Sat.shutDisk (d.arm x k) (hok.arm hx k) hT (pk [1, 2, 3, 0] 5 H)⟩

end Go.Proofs.YtgfdmhjjlajmgaaGreatDoor
namespace Go.Proofs.YtgfdmhjjlajmgaaGreatDoor
open Go.RowKit Go.Cg
set_option linter.unusedVariables false
set_option linter.unusedSimpArgs false
set_option maxRecDepth 8000
set_option synthInstance.maxHeartbeats 1000000
set_option synthInstance.maxSize 1000000
open Go.Cg.Dk (Fl Fs Nm By)
theorem crc_ct (w : World) (fr : List Res) (A : Option Addr) (n c : Nat) (b : By) (ok : SlOk fr 1 A n c (u8s b)) (H : Sat w (fr)) :
    Rt Tryz.prog 94 #[.slice A n c] w fun v w' => v = .int .u32 ((Oc.crc b : Nat) : Int) ∧ Sat w' fr := by
  refine en1 Tryz.func94 rfl Tryz.ntmps94 rfl fun a S => ?_
  obtain rfl := ok.n8
  have hcp := ok.cap
  have hle := ok.le
  simp only [maxLen] at hcp
  refine sr 1 S H t0 fun a w S H => ?_
  refine sr 1 S H t0 fun a w S H => ?_
  refine r_seq ?_
  refine sr 3 S H t0 fun a w S H => ?_
  refine r_block ?_
  refine r_loop (ι := Nat) (fun i a w => Slots a 29 [(2, .int .u32 0), (3, .int .u32 ((Oc.crcFrom (b.take i) : Nat) : Int)), (6, .slice A b.length c), (7, .int .i64 ((b.length : Nat) : Int)), (8, .int .i64 ((i : Nat) : Int)), (29, undef)] ∧ Sat w (fr) ∧ (i ≤ b.length)) (fun i => b.length - i) 0 ⟨S.sub ⟨rfl, rfl, rfl, rfl, rfl, rfl, trivial⟩, H, Nat.zero_le _⟩ (fun i a w hI => ?_)
  obtain ⟨S, H, hI⟩ := hI
  have hil := hI
  have hc0 := Oc.crcFrom_lt (b.take i)
  have hx8 := (b.getD i 0).toNat_lt
  have hcf : (Oc.crcFrom (b.take i) ^^^ (b.getD i 0).toNat) < 4294967296 := Nat.xor_lt_two_pow (n := 32) hc0 (by omega)
  refine sr 1 S H t0 fun a w S H => ?_
  refine r_seq ?_
  refine r_test S rfl (fun h9 => ?_) (fun h9 => ?_)
  · skip
    refine wp_skip ?_
    refine x_then ?_
    refine r_seq ?_
    refine r_block ?_
    refine sb ?_
    obtain ⟨b1, o2, rfl⟩ := ok.addr H (by first | omega | (simp <;> omega))
    refine r_y S H (y_index S rfl rfl rfl Tryz.underlying41 Tryz.sizeOf5 (by omega) (by omega)) rfl rfl rfl fun a S => ?_
    refine r_y S H (y_loadAt S rfl rfl Tryz.isAgg5 (fun w H => ok.cell w H (u8s_at (i := i) (by first | omega | (simp <;> omega))))) rfl rfl rfl fun a S => ?_
    refine rs 1 S H t0 fun a w S H => ?_
    refine sb ?_
    refine rn 3 S H (by omega) fun a w S H => ?_
    refine r_y S H (y_bitop S rfl rfl rfl (fun w => xor32 (Oc.crcFrom (b.take i)) (b.getD i 0).toNat hc0 (by omega) w)) rfl rfl rfl fun a S => ?_
    refine rs 1 S H t0 fun a w S H => ?_
    refine sr 1 S H t0 fun a w S H => ?_
    refine r_block ?_
    refine r_loop (ι := Nat) (fun k a w => Slots a 29 [(2, .int .u32 0), (3, .int .u32 ((Oc.crcBits k (Oc.crcFrom (b.take i) ^^^ (b.getD i 0).toNat) : Nat) : Int)), (5, .int .u8 ((b.getD i 0).toNat : Int)), (6, .slice (some ⟨b1, o2, none⟩) b.length c), (7, .int .i64 ((b.length : Nat) : Int)), (8, .int .i64 ((i : Nat) : Int)), (9, .bool (decide (((i : Nat) : Int) < ((b.length : Nat) : Int)))), (10, .pointer (some ⟨b1, o2 + i * 1, none⟩)), (11, .int .u8 ((b.getD i 0).toNat : Int)), (12, .int .u32 ((Oc.crcFrom (b.take i) : Nat) : Int)), (13, .int .u8 ((b.getD i 0).toNat : Int)), (14, .int .u32 ((b.getD i 0).toNat : Int)), (15, .int .u32 (((Oc.crcFrom (b.take i) ^^^ (b.getD i 0).toNat) : Nat) : Int)), (16, .int .i64 ((k : Nat) : Int)), (29, undef)] ∧ Sat w (fr) ∧ (k ≤ 8)) (fun k => 8 - k) 0 ⟨S.sub ⟨rfl, rfl, rfl, rfl, rfl, rfl, rfl, rfl, rfl, rfl, rfl, rfl, rfl, rfl, rfl, trivial⟩, H, Nat.zero_le _⟩ (fun k a w hI => ?_)
    obtain ⟨S, H, hI⟩ := hI
    have hk8 := hI
    have hcl := Oc.crcBits_lt hcf k
    refine sr 1 S H t0 fun a w S H => ?_
    refine r_seq ?_
    refine r_test S rfl (fun h17 => ?_) (fun h17 => ?_)
    · skip
      refine wp_skip ?_
      refine x_then ?_
      refine r_seq ?_
      refine r_block ?_
      refine r_region ?_
      refine rn 1 S H t0 fun a w S H => ?_
      refine r_y S H (y_bitop S rfl rfl rfl (fun w => half32 _ w)) rfl rfl rfl fun a S => ?_
      refine rn 1 S H t0 fun a w S H => ?_
      refine r_y S H (y_bitop S rfl rfl rfl (fun w => odd32 _ hcl w)) rfl rfl rfl fun a S => ?_
      refine r_y S H (y_un S rfl rfl (fun w => neg32 _ w)) rfl rfl rfl fun a S => ?_
      refine r_y S H (y_bitop S rfl rfl rfl (fun w => poly32 (Oc.crcBits k (Oc.crcFrom (b.take i) ^^^ (b.getD i 0).toNat)) w)) rfl rfl rfl fun a S => ?_
      refine r_y S H (y_bitop S rfl rfl rfl (fun w => xor32 _ _ (by omega) (by split <;> decide) w)) rfl rfl rfl fun a S => ?_
      refine rn 1 S H t0 fun a w S H => ?_
      refine r_nil ?_
      refine x_blockEnd ?_
      refine x_then ?_
      refine er 2 S H (by omega) fun a w S H => ?_
      refine x_then ?_
      exact ⟨(k + 1), ⟨S.sub ⟨rfl, rfl, rfl, rfl, rfl, rfl, rfl, rfl, rfl, rfl, rfl, rfl, rfl, rfl, rfl, trivial⟩, H, (by omega : k + 1 ≤ 8)⟩, by show 8 - (k + 1) < 8 - k; omega⟩
    refine wp_exit ?_
    refine x_thenExit ?_
    refine x_thenExit ?_
    refine x_blockHere ?_
    refine x_blockEnd ?_
    refine x_then ?_
    refine er 2 S H (by omega) fun a w S H => ?_
    refine x_then ?_
    have hk : k = 8 := by omega
    subst hk
    exact ⟨(i + 1), ⟨S.sub ⟨rfl, ((show lk _ _ = some _ from rfl).trans (congrArg (fun x => some (Value.int .u32 x)) (congrArg (fun x : Nat => (x : Int)) (Oc.crcFrom_take (b := b) (i := i) (by omega)).symm))), rfl, rfl, rfl, rfl, trivial⟩, H, (by omega : i + 1 ≤ b.length)⟩, by show b.length - (i + 1) < b.length - i; omega⟩
  refine wp_exit ?_
  refine x_thenExit ?_
  refine x_thenExit ?_
  refine x_blockHere ?_
  refine x_then ?_
  refine sb ?_
  refine rn 1 S H t0 fun a w S H => ?_
  refine r_y S H (y_un S rfl rfl (fun w => not32 _ hc0 w)) rfl rfl rfl fun a S => ?_
  refine rs 1 S H t0 fun a w S H => ?_
  refine wp_ret ?_
  refine r_ret1 S H Tryz.results94 (ro_tmp S rfl) ?_
  have hib : i = b.length := by omega
  rw [hib, List.take_length]
  exact ⟨rfl, H⟩

theorem put_ct (w : World) (fr : List Res) (A : Option Addr) (n0 c : Nat) (b : By) (ok : SlOk fr 1 A n0 c (u8s b)) (size : Int) (n : Nat) (hn : n < 18446744073709551616) (hb : b.length ≤ 17592186044416) (H : Sat w (fr)) :
    Rt Tryz.prog 47 #[.slice A n0 c, .int .i64 size, .int .u64 ((n : Nat) : Int)] w fun v w' => ∃ A' c', v = .slice A' (Oc.put b size n).length c' ∧ Sat w' (row 5 1 (.slice A' (Oc.put b size n).length c') (Oc.put b size n).length (u8s (Oc.put b size n)) :: fr) := by
  refine en3 Tryz.func47 rfl Tryz.ntmps47 rfl fun a S => ?_
  obtain rfl := ok.n8
  obtain ⟨K, hK⟩ : ∃ K, K = (min (max size 0) 8).toNat := ⟨_, rfl⟩
  refine sr 1 S H t0 fun a w S H => ?_
  refine sb ?_
  refine rn 1 S H t0 fun a w S H => ?_
  refine r_call (args := #[.slice A b.length c]) S rfl rfl Tryz.call71 (clone8_ct (H := H) _ _ _ _ _ b ok (by omega)) rfl rfl rfl fun v a w hR S => ?_
  obtain ⟨A5, c6, rfl, H⟩ := hR
  refine rs 1 S H t0 fun a w S H => ?_
  refine r_seq ?_
  refine sb ?_
  refine rn 2 S H t0 fun a w S H => ?_
  refine r_y S H (y_min S rfl rfl rfl) rfl rfl rfl fun a S => ?_
  have S := S.retell (v' := .int .i64 ((K : Nat) : Int)) 12 rfl (int_eq (by omega))
  refine rs 1 S H t0 fun a w S H => ?_
  refine r_block ?_
  refine r_loop (ι := Nat × Option Addr × Nat) (fun ⟨i, A2, c2⟩ a w => Slots a 24 [(2, .int .u64 (((n / 256 ^ i) : Nat) : Int)), (6, .slice none 0 0), (7, .slice A2 ((b ++ Oc.le i n).length) c2), (12, .int .i64 ((K : Nat) : Int)), (13, .int .i64 ((i : Nat) : Int)), (24, undef)] ∧ Sat w (row 5 1 (.slice A2 ((b ++ Oc.le i n).length) c2) ((b ++ Oc.le i n).length) (u8s (b ++ Oc.le i n)) :: fr) ∧ (i ≤ K)) (fun ⟨i, A2, c2⟩ => K - i) (0, A5, c6) ⟨S.sub ⟨(by simp; rfl), rfl, (by simp [Oc.le]; rfl), rfl, rfl, rfl, trivial⟩, (by simpa [Oc.le] using H), Nat.zero_le _⟩ (fun ⟨i, A2, c2⟩ a w hI => ?_)
  obtain ⟨S, H, hI⟩ := hI
  have hik := hI
  have hpn : n / 256 ^ i ≤ n := Nat.div_le_self _ _
  have hll := Oc.le_len i n
  refine sr 1 S H t0 fun a w S H => ?_
  refine r_seq ?_
  refine r_test S rfl (fun h14 => ?_) (fun h14 => ?_)
  · skip
    refine wp_skip ?_
    refine x_then ?_
    refine r_seq ?_
    refine r_block ?_
    refine sb ?_
    refine rn 2 S H t0 fun a w S H => ?_
    refine r_y S H (y_convW S rfl rfl Tryz.underlying50 Tryz.underlying5) rfl rfl rfl fun a S => ?_
    have S := S.retell (v' := .int .u8 (((UInt8.ofNat (n / 256 ^ i % 256)).toNat : Nat) : Int)) 17 rfl (congrArg (Value.int .u8) (by rw [IntKind.wrap_u8']; simp))
    refine r_lit (vs := #[(0, .int .u8 (((UInt8.ofNat (n / 256 ^ i % 256)).toNat : Nat) : Int))]) (cs := u8s [UInt8.ofNat (n / 256 ^ i % 256)]) S H rfl rfl el41 (by kernel_rfl) (by decide) (by rfl) rfl rfl rfl fun a w b7 S H => ?_
    refine r_appendS (L' := fun A8 c9 => row 5 1 (.slice (some ⟨b7, 0, none⟩) 1 1) 1 (u8s [UInt8.ofNat (n / 256 ^ i % 256)]) :: row 5 1 (.slice A8 ((b ++ Oc.le i n).length + 1) c9) ((b ++ Oc.le i n).length + 1) (u8s ((b ++ Oc.le i n) ++ ([UInt8.ofNat (n / 256 ^ i % 256)]))) :: fr) (xs' := u8s ((b ++ Oc.le i n) ++ ([UInt8.ofNat (n / 256 ^ i % 256)]))) 1 S H rfl rfl rfl rfl el41 (SlOk.ofRow (i := 0) H rfl) (one_u8s _) (by simp only [maxLen]; first | omega | (simp <;> omega)) (by first | omega | (simp <;> omega)) (u8s_app (b ++ Oc.le i n) ([UInt8.ofNat (n / 256 ^ i % 256)])) (by first | omega | (simp <;> omega)) (fun _ _ => rfl) rfl rfl rfl fun a w A8 c9 hA8 S H => ?_
    refine rs 1 S H t0 fun a w S H => ?_
    refine r_region ?_
    refine rn 1 S H t0 fun a w S H => ?_
    refine r_y S H (y_bitop S rfl rfl rfl (fun w => byte64 _ w)) rfl rfl rfl fun a S => ?_
    refine rn 1 S H t0 fun a w S H => ?_
    refine r_nil ?_
    refine x_blockEnd ?_
    refine x_then ?_
    refine er 2 S H (by omega) fun a w S H => ?_
    refine x_then ?_
    have ez : b ++ Oc.le i n ++ [UInt8.ofNat (n / 256 ^ i % 256)] = b ++ Oc.le (i + 1) n := by rw [Oc.le_snoc, List.append_assoc]
    have en : (b ++ Oc.le i n).length + 1 = (b ++ Oc.le (i + 1) n).length := by rw [← ez]; simp; try omega
    have H := pk [1] 2 H
    rw [ez] at H
    rw [en] at H S
    exact ⟨(i + 1, A8, c9), ⟨S.sub ⟨((show lk _ _ = some _ from rfl).trans (congrArg (fun x => some (Value.int .u64 x)) (congrArg (fun x : Nat => (x : Int)) (by rw [Nat.div_div_eq_div_mul, Nat.pow_succ])))), rfl, rfl, rfl, rfl, rfl, trivial⟩, H, (by omega : i + 1 ≤ K)⟩, by show K - (i + 1) < K - i; omega⟩
  refine wp_exit ?_
  refine x_thenExit ?_
  refine x_thenExit ?_
  refine x_blockHere ?_
  refine x_then ?_
  refine sr 2 S H t0 fun a w S H => ?_
  refine wp_ret ?_
  refine r_ret1 S H Tryz.results47 (ro_tmp S rfl) ?_
  have hi : i = K := by omega
  have e : Oc.put b size n = b ++ Oc.le i n := by rw [hi, hK]; rfl
  rw [e]
  exact ⟨_, _, rfl, H⟩

end Go.Proofs.YtgfdmhjjlajmgaaGreatDoor
namespace Go.Proofs.YtgfdmhjjlajmgaaGreatDoor
open Go.RowKit Go.Cg
set_option linter.unusedVariables false
set_option linter.unusedSimpArgs false
set_option maxRecDepth 8000
set_option synthInstance.maxHeartbeats 1000000
set_option synthInstance.maxSize 1000000
theorem el177 : Elem Tryz.prog 177 41 1 24 (.slice none 0 0) := ⟨Tryz.underlying177, by kernel_rfl, rfl, by decide⟩
open Go.Cg.Dk (Fl Fs Nm By)
theorem grow_ct (w : World) (fr : List Res) (n : Nat) (hn : n ≤ 17592186044416) (H : Sat w (fr)) :
    Rt Tryz.prog 114 #[.slice none 0 0, .int .i64 ((n : Nat) : Int)] w fun v w' => ∃ A c, v = .slice A 0 c ∧ Sat w' (row 5 1 (.slice A 0 c) 0 (u8s []) :: fr) := by
  refine en2 Tryz.func114 rfl Tryz.ntmps114 rfl fun a S => ?_
  refine sr 1 S H t0 fun a w S H => ?_
  refine r_seq ?_
  refine sr 2 S H t0 fun a w S H => ?_
  refine r_test S rfl (fun h6 => ?_) (fun h6 => ?_)
  · skip
    exfalso; omega
  refine wp_skip ?_
  refine x_then ?_
  refine r_seq ?_
  refine sr 8 S H (by omega) fun a w S H => ?_
  refine sr 2 S H t0 fun a w S H => ?_
  refine r_test S rfl (fun h16 => ?_) (fun h16 => ?_)
  · skip
    have H := H.nilRow 5 1
    refine r_region ?_
    refine rn 3 S H t0 fun a w S H => ?_
    refine r_y S H (y_sliceH (k := 0) S rfl rfl rfl Tryz.underlying41 Tryz.sizeOf5 rfl (by omega)) rfl rfl rfl fun a S => ?_
    have S := S.retell (v' := .slice none 0 0) 20 rfl (by rw [shift0])
    refine rn 1 S H t0 fun a w S H => ?_
    refine r_extend (m := n) (xs' := u8s (([]) ++ List.replicate n 0)) (km := (([]) ++ List.replicate n 0).length) (L' := fun A1 c2 => row 5 1 (.slice A1 ((([]) ++ List.replicate n 0).length) c2) ((([]) ++ List.replicate n 0).length) (u8s (([]) ++ List.replicate n 0)) :: fr) 0 S H rfl rfl rfl rfl el41 Tryz.underlying3 rfl rfl (by first | omega | (simp <;> omega)) (by simp only [maxLen]; first | omega | (simp <;> omega)) (by first | omega | (simp <;> omega)) (by simp) (by simp [u8s]) (fun _ _ => rfl) rfl rfl rfl fun a w A1 c2 S H => ?_
    refine rn 2 S H t0 fun a w S H => ?_
    refine r_y S H (y_sliceH (k := 0) S rfl rfl rfl Tryz.underlying41 Tryz.sizeOf5 rfl (by omega)) rfl rfl rfl fun a S => ?_
    have S := S.retell (v' := .slice A1 0 c2) 25 rfl (by rw [shift0])
    refine rn 1 S H t0 fun a w S H => ?_
    refine r_nil ?_
    refine x_then ?_
    refine sr 2 S H t0 fun a w S H => ?_
    refine wp_ret ?_
    refine r_ret1 S H Tryz.results114 (ro_tmp S rfl) ?_
    exact ⟨_, _, rfl, Sat.cut (H)⟩
  refine wp_skip ?_
  refine x_then ?_
  refine sr 2 S H t0 fun a w S H => ?_
  refine wp_ret ?_
  refine r_ret1 S H Tryz.results114 (ro_tmp S rfl) ?_
  have hn0 : n = 0 := by omega
  exact ⟨none, 0, rfl, H.nilRow _ _⟩

theorem concat_ct (w : World) (fr : List Res) (A : Option Addr) (c : Nat) (l : List Sl) (ds : List By) (ok : SlOk fr 1 A l.length c (sls l)) (hds : SlsOk fr l ds) (hfn : ds.flatten.length ≤ 17592186044416) (hln : l.length ≤ 17592186044416) (H : Sat w (fr)) :
    Rt Tryz.prog 93 #[.slice A l.length c] w fun v w' => ∃ A' c', v = .slice A' ds.flatten.length c' ∧ Sat w' (row 5 1 (.slice A' ds.flatten.length c') ds.flatten.length (u8s ds.flatten) :: fr) := by
  refine en1 Tryz.func93 rfl Tryz.ntmps93 rfl fun a S => ?_
  refine sr 1 S H t0 fun a w S H => ?_
  refine sr 1 S H t0 fun a w S H => ?_
  refine r_seq ?_
  refine sr 3 S H t0 fun a w S H => ?_
  refine r_block ?_
  refine r_loop (ι := Nat) (fun i a w => Slots a 36 [(0, .slice A l.length c), (2, .slice none 0 0), (3, .int .i64 (((ds.take i).flatten.length : Nat) : Int)), (9, .slice A l.length c), (10, .int .i64 ((l.length : Nat) : Int)), (11, .int .i64 ((i : Nat) : Int)), (36, undef)] ∧ Sat w (fr) ∧ (i ≤ l.length)) (fun i => l.length - i) 0 ⟨S.sub ⟨rfl, rfl, (by simp; rfl), rfl, rfl, rfl, rfl, trivial⟩, H, Nat.zero_le _⟩ (fun i a w hI => ?_)
  obtain ⟨S, H, hI⟩ := hI
  have hil := hI
  have hfl := flat_le ds i
  refine sr 1 S H t0 fun a w S H => ?_
  refine r_seq ?_
  refine r_test S rfl (fun h12 => ?_) (fun h12 => ?_)
  · skip
    refine wp_skip ?_
    refine x_then ?_
    refine r_seq ?_
    refine r_block ?_
    refine sb ?_
    obtain ⟨b1, o2, rfl⟩ := ok.addr H (by first | omega | (simp <;> omega))
    refine r_y S H (y_index S rfl rfl rfl Tryz.underlying177 Tryz.sizeOf41 (by omega) (by omega)) rfl rfl rfl fun a S => ?_
    refine r_y S H (y_loadAt S rfl rfl Tryz.isAgg41 (fun w H => ok.cell w H (sls_at (i := i) (by first | omega | (simp <;> omega))))) rfl rfl rfl fun a S => ?_
    obtain ⟨A3, c4, heA3, okA3⟩ := hds.at (i := i) (by omega)
    have S := S.retell (v' := .slice A3 ((ds.getD i []).length) c4) 14 rfl (by rw [heA3])
    refine rs 1 S H t0 fun a w S H => ?_
    have hi : i < ds.length := by have := hds.len; omega
    have ef : (ds.take (i + 1)).flatten.length = (ds.take i).flatten.length + (ds.getD i []).length := by rw [flat_take hi, List.length_append]
    have hfl3 := flat_le ds (i + 1)
    refine sr 5 S H (by omega) fun a w S H => ?_
    refine sr 2 S H t0 fun a w S H => ?_
    refine r_test S rfl (fun h20 => ?_) (fun h20 => ?_)
    · skip
      exfalso; omega
    refine wp_skip ?_
    refine x_blockEnd ?_
    refine x_then ?_
    refine er 2 S H (by omega) fun a w S H => ?_
    refine x_then ?_
    have hi : i < ds.length := by have := hds.len; omega
    have ef : (ds.take (i + 1)).flatten.length = (ds.take i).flatten.length + (ds.getD i []).length := by rw [flat_take hi, List.length_append]
    exact ⟨(i + 1), ⟨S.sub ⟨rfl, rfl, ((show lk _ _ = some _ from rfl).trans (congrArg (fun x => some (Value.int .i64 x)) (by omega))), rfl, rfl, rfl, rfl, trivial⟩, H, (by omega : i + 1 ≤ l.length)⟩, by show l.length - (i + 1) < l.length - i; omega⟩
  refine wp_exit ?_
  refine x_thenExit ?_
  refine x_thenExit ?_
  refine x_blockHere ?_
  refine x_then ?_
  refine sb ?_
  refine rn 1 S H t0 fun a w S H => ?_
  refine r_call (args := #[.slice none 0 0, .int .i64 (((ds.take i).flatten.length : Nat) : Int)]) S rfl rfl Tryz.call114 (grow_ct (H := H) _ _ ((ds.take i).flatten.length) (by omega)) rfl rfl rfl fun v a w hR S => ?_
  obtain ⟨A9, c10, rfl, H⟩ := hR
  refine rs 1 S H t0 fun a w S H => ?_
  refine r_seq ?_
  refine sr 3 S H t0 fun a w S H => ?_
  refine r_block ?_
  refine r_loop (ι := Nat × Option Addr × Nat) (fun ⟨i, A2, c2⟩ a w => Slots a 36 [(2, .slice none 0 0), (6, .slice A2 ((ds.take i).flatten.length) c2), (25, .slice A l.length c), (26, .int .i64 ((l.length : Nat) : Int)), (27, .int .i64 ((i : Nat) : Int)), (36, undef)] ∧ Sat w (row 5 1 (.slice A2 ((ds.take i).flatten.length) c2) ((ds.take i).flatten.length) (u8s ((ds.take i).flatten)) :: fr) ∧ (i ≤ l.length)) (fun ⟨i, A2, c2⟩ => l.length - i) (0, A9, c10) ⟨S.sub ⟨rfl, (by simp; rfl), rfl, rfl, rfl, rfl, trivial⟩, (by simpa using H), Nat.zero_le _⟩ (fun ⟨i, A2, c2⟩ a w hI => ?_)
  obtain ⟨S, H, hI⟩ := hI
  have hil := hI
  have hfl := flat_le ds i
  have hfl2 := flat_le ds (i + 1)
  refine sr 1 S H t0 fun a w S H => ?_
  refine r_seq ?_
  refine r_test S rfl (fun h28 => ?_) (fun h28 => ?_)
  · skip
    refine wp_skip ?_
    refine x_then ?_
    refine r_seq ?_
    refine r_block ?_
    refine sb ?_
    obtain ⟨b11, o12, rfl⟩ := (ok.more _).addr H (by first | omega | (simp <;> omega))
    refine r_y S H (y_index S rfl rfl rfl Tryz.underlying177 Tryz.sizeOf41 (by omega) (by omega)) rfl rfl rfl fun a S => ?_
    refine r_y S H (y_loadAt S rfl rfl Tryz.isAgg41 (fun w H => (ok.more _).cell w H (sls_at (i := i) (by first | omega | (simp <;> omega))))) rfl rfl rfl fun a S => ?_
    obtain ⟨A13, c14, heA13, okA13⟩ := hds.at (i := i) (by omega)
    have S := S.retell (v' := .slice A13 ((ds.getD i []).length) c14) 30 rfl (by rw [heA13])
    refine rs 1 S H t0 fun a w S H => ?_
    have hi : i < ds.length := by have := hds.len; omega
    have ef : (ds.take (i + 1)).flatten.length = (ds.take i).flatten.length + (ds.getD i []).length := by rw [flat_take hi, List.length_append]
    have hfl3 := flat_le ds (i + 1)
    refine r_region ?_
    refine rn 2 S H t0 fun a w S H => ?_
    refine r_appendS (L' := fun A15 c16 => row 5 1 (.slice A15 ((ds.take i).flatten.length + (ds.getD i []).length) c16) ((ds.take i).flatten.length + (ds.getD i []).length) (u8s (((ds.take i).flatten) ++ (ds.getD i []))) :: fr) (xs' := u8s (((ds.take i).flatten) ++ (ds.getD i []))) 0 S H rfl rfl rfl rfl el41 (okA13.more _) (one_u8s _) (by simp only [maxLen]; first | omega | (simp <;> omega)) (by first | omega | (simp <;> omega)) (u8s_app ((ds.take i).flatten) (ds.getD i [])) (by first | omega | (simp <;> omega)) (fun _ _ => rfl) rfl rfl rfl fun a w A15 c16 hA15 S H => ?_
    refine rn 1 S H t0 fun a w S H => ?_
    refine r_nil ?_
    refine x_blockEnd ?_
    refine x_then ?_
    refine er 2 S H (by omega) fun a w S H => ?_
    refine x_then ?_
    have hi : i < ds.length := by have := hds.len; omega
    have ez := (flat_take hi).symm
    have en : (ds.take i).flatten.length + (ds.getD i []).length = (ds.take (i + 1)).flatten.length := by rw [← ez]; simp
    have H := H
    rw [ez] at H
    rw [en] at H S
    exact ⟨(i + 1, A15, c16), ⟨S.sub ⟨rfl, rfl, rfl, rfl, rfl, rfl, trivial⟩, H, (by omega : i + 1 ≤ l.length)⟩, by show l.length - (i + 1) < l.length - i; omega⟩
  refine wp_exit ?_
  refine x_thenExit ?_
  refine x_thenExit ?_
  refine x_blockHere ?_
  refine x_then ?_
  refine sr 2 S H t0 fun a w S H => ?_
  refine wp_ret ?_
  refine r_ret1 S H Tryz.results93 (ro_tmp S rfl) ?_
  have hil2 : i = ds.length := by have := hds.len; omega
  have e : ds.flatten = (ds.take i).flatten := by rw [hil2, List.take_length]
  rw [e]
  exact ⟨_, _, rfl, H⟩

theorem encode_ct (w : World) (fr : List Res) (A : Option Addr) (c : Nat) (b : By) (ok : SlOk fr 1 A b.length c (u8s b)) (hb : b.length ≤ 17592186044416) (H : Sat w (fr)) :
    Rt Tryz.prog 72 #[.slice A b.length c] w fun v w' => ∃ A' c', v = .tuple #[.slice A' (Oc.enc b).1.length c', .int .i64 (((Oc.enc b).2 : Nat) : Int)] ∧ Sat w' (row 5 1 (.slice A' (Oc.enc b).1.length c') (Oc.enc b).1.length (u8s (Oc.enc b).1) :: fr) := by
  refine en1 Tryz.func72 rfl Tryz.ntmps72 rfl fun a S => ?_
  refine sr 2 S H t0 fun a w S H => ?_
  refine r_seq ?_
  refine sr 3 S H t0 fun a w S H => ?_
  refine r_test S rfl (fun h7 => ?_) (fun h7 => ?_)
  · skip
    refine sr 2 S H t0 fun a w S H => ?_
    refine wp_ret ?_
    refine x_thenRet ?_
    refine r_ret2 S H Tryz.results72 (ro_tmp S rfl) (ro_tmp S rfl) ?_
    have e : Oc.enc b = ([], 1) := by unfold Oc.enc; rw [if_pos (by omega)]
    rw [e]
    exact ⟨none, 0, rfl, H.nilRow _ _⟩
  refine wp_skip ?_
  refine x_then ?_
  refine sb ?_
  refine rn 3 S H (by omega) fun a w S H => ?_
  refine r_call (args := #[.slice none 0 0, .int .i64 2, .int .u64 ((b.length : Nat) : Int)]) S rfl rfl Tryz.call47 (put_ct (H := H) _ _ _ _ _ ([]) (SlOk.nil8 _) 2 b.length (by omega) (by simp)) rfl rfl rfl fun v a w hR S => ?_
  obtain ⟨A5, c6, rfl, H⟩ := hR
  refine rn 1 S H t0 fun a w S H => ?_
  refine r_lit (vs := #[(0, .slice A5 ((Oc.put ([]) 2 b.length).length) c6), (1, .slice A b.length c)]) (cs := sls [(A5, (Oc.put ([]) 2 b.length).length, c6), (A, b.length, c)]) S H rfl rfl el177 (by kernel_rfl) (by decide) (by rfl) rfl rfl rfl fun a w b7 S H => ?_
  refine r_call (args := #[.slice (some ⟨b7, 0, none⟩) 2 2]) S rfl rfl Tryz.call93 (concat_ct (H := H) _ _ _ _ ([(A5, (Oc.put ([]) 2 b.length).length, c6), (A, b.length, c)]) [Oc.put [] 2 b.length, b] (SlOk.ofRow (i := 0) H rfl) (.cons (SlOk.ofRow (i := 1) H rfl) (.cons (ok.via fun _ H => H.drop.drop) (.nil _))) (by simp [Oc.put, Oc.le_len]; omega) (by simp)) rfl rfl rfl fun v a w hR S => ?_
  obtain ⟨A8, c9, rfl, H⟩ := hR
  refine rs 1 S H t0 fun a w S H => ?_
  have e2 : ([Oc.put [] 2 b.length, b]).flatten = (Oc.le 2 b.length ++ b) := by simp [Oc.put]; rfl
  rw [e2] at H S
  have hle2 := Oc.le_len 2 b.length
  have hcr := Oc.crc_lt (Oc.le 2 b.length ++ b)
  have hl2 : (Oc.le 2 b.length ++ b).length = 2 + b.length := by simp [hle2]
  refine sb ?_
  refine rn 2 S H t0 fun a w S H => ?_
  refine r_call (args := #[.slice A8 ((Oc.le 2 b.length ++ b).length) c9]) S rfl rfl Tryz.call94 (crc_ct (H := H) _ _ _ _ _ _ (SlOk.ofRow (i := 0) H rfl)) rfl rfl rfl fun v a w hR S => ?_
  obtain ⟨rfl, H⟩ := hR
  refine rn 1 S H (by omega) fun a w S H => ?_
  refine r_call (args := #[.slice A8 ((Oc.le 2 b.length ++ b).length) c9, .int .i64 4, .int .u64 ((Oc.crc (Oc.le 2 b.length ++ b) : Nat) : Int)]) S rfl rfl Tryz.call47 (put_ct (H := H) _ _ _ _ _ (Oc.le 2 b.length ++ b) (SlOk.ofRow (i := 0) H rfl) 4 (Oc.crc (Oc.le 2 b.length ++ b)) (by omega) (by omega)) rfl rfl rfl fun v a w hR S => ?_
  obtain ⟨A14, c15, rfl, H⟩ := hR
  refine rs 2 S H t0 fun a w S H => ?_
  refine wp_ret ?_
  refine r_ret2 S H Tryz.results72 (ro_tmp S rfl) (ro_tmp S rfl) ?_
  have e : Oc.enc b = (Oc.put (Oc.le 2 b.length ++ b) 4 (Oc.crc (Oc.le 2 b.length ++ b)), 0) := by rw [Oc.enc_ok (by omega)]; rfl
  have H := pk [0] 4 H
  rw [e]
  exact ⟨_, _, rfl, H⟩

end Go.Proofs.YtgfdmhjjlajmgaaGreatDoor
namespace Go.Proofs.YtgfdmhjjlajmgaaGreatDoor
open Go.RowKit Go.Cg
set_option linter.unusedVariables false
set_option linter.unusedSimpArgs false
set_option maxRecDepth 8000
set_option synthInstance.maxHeartbeats 1000000
set_option synthInstance.maxSize 1000000
open Go.Cg.Dk (By)
open Go.Shelf
attribute [local go_sem] Oper.semAt_some
/-- what stands behind, first -/
def backs (b : By) : List (Nat × UInt8) := (List.range b.length).reverse.map fun j => (j, b[j]?.getD 0)
theorem len_backs (b : By) : (backs b).length = b.length := by simp [backs]
theorem backs_at {b : By} {q : Nat} (h : q < b.length) : (backs b)[b.length - 1 - q]? = some (q, b[q]?.getD 0) := by
  simp only [backs, List.getElem?_map]
  rw [List.getElem?_reverse (by simp; omega)]
  simp only [List.length_range]
  rw [show b.length - 1 - (b.length - 1 - q) = q from by omega, List.getElem?_range h]; rfl
set_option maxRecDepth 100000 in
set_option maxHeartbeats 2000000 in
theorem back_iter1 (kb blk off c : Nat) (b : By) (Pw : World → Prop) (hPw : ∀ W, Pw W → W.cell? ⟨kb, 0, none⟩ = some (.slice (some ⟨blk, off, none⟩) b.length c) ∧ ∀ j, j < b.length → W.cell? ⟨blk, off + j, none⟩ = some (.int .u8 ((b[j]?.getD 0).toNat : Int))) (hlen : b.length ≤ 17592186044416) :
    Iter Tryz.prog 113 #[.pointer (some ⟨kb, 0, none⟩)] (fun x : Nat × UInt8 => #[.int .i64 (x.1 : Int), .int .u8 (x.2.toNat : Int)]) (backs b) Pw := by
  intro l J W hJP hJG hY h0
  have hJD : ∀ i W, J i W → J i W.drew := fun i W h => hJG i W _ h (Hp.drew W) fun _ _ => rfl
  refine callsIn_of_wp Tryz.func113 rfl trivial ?_ rfl
  simp only [Tryz.ntmps113, List.size_toArray, List.length_cons, List.length_nil, Nat.reduceAdd, Nat.reduceSub, Array.replicate_succ, Array.replicate_zero, List.push_toArray, List.append_toArray, List.nil_append, List.cons_append]
  have hc0 := (hPw W (hJP _ _ h0)).1
  gi_wp2
  gi_loopw [3] (fun i wr => ∃ q : Nat, q ≤ b.length ∧ i = .int .i64 ((q : Int) - 1) ∧ J (b.length - q) wr) (fun i _ => (intOf i + 1).toNat)
  case atStart => exact ⟨b.length, Nat.le_refl _, by simp, by simpa using h0⟩
  case round =>
    obtain ⟨q, hq, rfl, hJs⟩ := hrel
    have hP := hPw wr (hJP _ _ hJs)
    have hcb := hP.1
    cases q with
    | zero =>
      gi_wp2
      go_end0
      exact ⟨⟨_, rfl⟩, by rw [len_backs]; simpa using hJs⟩
    | succ q =>
      have hcx := hP.2 q (by omega)
      obtain ⟨fn, tmps, assign, body, hy, hR⟩ := hY (b.length - (q + 1)) (q, b[q]?.getD 0) wr (by rw [show b.length - (q + 1) = b.length - 1 - q from by omega]; exact backs_at (by omega)) hJs
      dsimp only at hy
      have e1 : ((q + 1 : Nat) : Int) - 1 = (q : Int) := by omega
      rw [e1]
      gi_wp2
      refine hR.mono ?_
      rintro e W3 ⟨rfl, hJ3⟩
      gi_wp2
      go_roundw
      case rel => exact ⟨q, by omega, rfl, by rw [show b.length - q = b.length - (q + 1) + 1 from by omega]; exact hJ3⟩
      case measure => simp [intOf]
set_option maxRecDepth 100000 in
set_option maxHeartbeats 2000000 in
theorem back_iter0 (kb : Nat) (A : Option Addr) (c : Nat) (Pw : World → Prop) (hPw : ∀ W, Pw W → W.cell? ⟨kb, 0, none⟩ = some (.slice A 0 c)) :
    Iter Tryz.prog 113 #[.pointer (some ⟨kb, 0, none⟩)] (fun x : Nat × UInt8 => #[.int .i64 (x.1 : Int), .int .u8 (x.2.toNat : Int)]) (backs []) Pw := by
  intro l J W hJP hJG hY h0
  have hJD : ∀ i W, J i W → J i W.drew := fun i W h => hJG i W _ h (Hp.drew W) fun _ _ => rfl
  refine callsIn_of_wp Tryz.func113 rfl trivial ?_ rfl
  simp only [Tryz.ntmps113, List.size_toArray, List.length_cons, List.length_nil, Nat.reduceAdd, Nat.reduceSub, Array.replicate_succ, Array.replicate_zero, List.push_toArray, List.append_toArray, List.nil_append, List.cons_append]
  have hc0 := hPw W (hJP _ _ h0)
  gi_wp2
  gi_loopw [3] (fun i wr => i = .int .i64 (-1) ∧ J 0 wr) (fun _ _ => 0)
  case atStart => exact ⟨rfl, h0⟩
  case round =>
    obtain ⟨rfl, hJs⟩ := hrel
    gi_wp2
    go_end0
    exact ⟨⟨_, rfl⟩, hJs⟩
theorem back_iter (kb : Nat) (A : Option Addr) (c : Nat) (b : By) (L0 : List Res) (ok : SlOk L0 1 A b.length c (u8s b)) (hlen : b.length ≤ 17592186044416) (w0 : World) (H0 : Sat w0 L0) :
    Iter Tryz.prog 113 #[.pointer (some ⟨kb, 0, none⟩)] (fun x : Nat × UInt8 => #[.int .i64 (x.1 : Int), .int .u8 (x.2.toNat : Int)]) (backs b) (fun W => W.cell? ⟨kb, 0, none⟩ = some (.slice A b.length c) ∧ Sat W L0) := by
  by_cases hb : b = []
  · subst hb
    exact back_iter0 kb A c _ fun W h => h.1
  · obtain ⟨blk, off, e⟩ := ok.addr (sz := 0) H0 (List.length_pos_iff.2 hb)
    subst e
    refine back_iter1 kb blk off c b _ (fun W h => ⟨h.1, fun j hj => ?_⟩) hlen
    have := ok.cell W h.2 (j := j) (v := .int .u8 ((b.getD j 0).toNat : Int)) (by have := u8s_at hj; rwa [Nat.mul_one] at this)
    simpa [List.getD_eq_getElem?_getD] using this
end Go.Proofs.YtgfdmhjjlajmgaaGreatDoor
