/- Laws of the model, walks of functions of the program, and what they rest on. No condition. -/
import Derived.Test.YtoffbmhmocfmnaaGreatDoorKVal
namespace Go.Proofs.YtoffbmhmocfmnaaGreatDoor
open Go.RowKit Go.Cg
set_option linter.unusedVariables false
set_option linter.unusedSimpArgs false
set_option maxRecDepth 8000
set_option synthInstance.maxHeartbeats 1000000
set_option synthInstance.maxSize 1000000
theorem b32_ct (w:World) (fr:List Res) (b:Bool) (H:Sat w (fr)):
    Rt Tryz.prog 73 #[.bool b] w fun v w'=>v=.int .u32 (dnI b)/\Sat w' fr:=by
  refine en1 Tryz.func73 rfl Tryz.ntmps73 rfl fun a S=>?_
  refine sr 1 S H t0 fun a w S H=>?_
  refine r_seq ?_
  refine sr 1 S H t0 fun a w S H=>?_
  refine r_cond S rfl (fun h3=>?_) (fun h3=>?_)
  · skip
    refine sr 1 S H t0 fun a w S H=>?_
    refine wp_ret ?_
    refine x_thenRet ?_
    refine r_ret1 S H Tryz.results73 (ro_tmp S rfl) ?_
    exact ⟨by rw [h3];rfl,H⟩
  refine wp_skip ?_
  refine x_then ?_
  refine sr 1 S H t0 fun a w S H=>?_
  refine wp_ret ?_
  refine r_ret1 S H Tryz.results73 (ro_tmp S rfl) ?_
  exact ⟨by rw [h3];rfl,H⟩

instance {fr:List Res} (b:Bool):Cal Tryz.prog fr 73 [.bool b] (.int .u32 (dnI b)) fr ((0:Int)<=0):=⟨Tryz.call73,fun hc w H=>b32_ct w fr b H⟩
theorem dnI_ne (b:Bool):decide (dnI b≠0)=b:=by cases b<;>rfl
theorem a64_ct {L L':List Res} (b j i:Nat) (c c':List Value) (ty:TypeId) (m x:Int) [hf:FdR L b (blk b (.cells c.toArray ty)) i] [hv:At c j (.int .i64 m)] [hp:Pu c j [.int .i64 (IntKind.i64.wrap (m+x))] c'] [hs:St L i (blk b (.cells c'.toArray ty)) L'] (w:World) (H:Sat w L):Rt Tryz.prog 68 #[.pointer (some ⟨b,j,none⟩),.int .i64 x] w fun v w'=>v=.int .i64 (IntKind.i64.wrap (m+x))/\Sat w' L':=by
  refine en2 Tryz.func68 rfl Tryz.ntmps68 rfl fun a S=>?_
  refine sr 1 S H t0 fun a w S H=>?_
  refine sr 6 S H t0 fun a w S H=>?_
  refine wp_ret (r_ret1 S H Tryz.results68 (ro_tmp S rfl) ⟨rfl,H⟩)
instance {L L':List Res} (b j i:Nat) (c c':List Value) (ty:TypeId) (m x:Int) [hf:FdR L b (blk b (.cells c.toArray ty)) i] [hv:At c j (.int .i64 m)] [hp:Pu c j [.int .i64 (IntKind.i64.wrap (m+x))] c'] [hs:St L i (blk b (.cells c'.toArray ty)) L']:Cal Tryz.prog L 68 [.pointer (some ⟨b,j,none⟩),.int .i64 x] (.int .i64 (IntKind.i64.wrap (m+x))) L' ((0:Int)<=0):=⟨Tryz.call68,fun _ w H=>a64_ct b j i c c' ty m x w H⟩
theorem bload_ct {L:List Res} (b j i:Nat) (c:List Value) (ty:TypeId) (m:Bool) [hf:FdR L b (blk b (.cells c.toArray ty)) i] [hv:At c j (.int .u32 (dnI m))] (w:World) (H:Sat w L):Rt Tryz.prog 57 #[.pointer (some ⟨b,j,none⟩)] w fun v w'=>v=.bool m/\Sat w' L:=by
  refine en1 Tryz.func57 rfl Tryz.ntmps57 rfl fun a S=>?_
  refine sr 1 S H t0 fun a w S H=>?_
  refine sr 6 S H t0 fun a w S H=>?_
  refine wp_ret (r_ret1 S H Tryz.results57 (ro_tmp S rfl) ⟨congrArg Value.bool (dnI_ne m),H⟩)
instance {L:List Res} (b j i:Nat) (c:List Value) (ty:TypeId) (m:Bool) [hf:FdR L b (blk b (.cells c.toArray ty)) i] [hv:At c j (.int .u32 (dnI m))]:Cal Tryz.prog L 57 [.pointer (some ⟨b,j,none⟩)] (.bool m) L ((0:Int)<=0):=⟨Tryz.call57,fun _ w H=>bload_ct b j i c ty m w H⟩
theorem bswap_ct {L L':List Res} (b j i:Nat) (c c':List Value) (ty:TypeId) (m x:Bool) [hf:FdR L b (blk b (.cells c.toArray ty)) i] [hv:At c j (.int .u32 (dnI m))] [hp:Pu c j [.int .u32 (dnI x)] c'] [hs:St L i (blk b (.cells c'.toArray ty)) L'] (w:World) (H:Sat w L):Rt Tryz.prog 49 #[.pointer (some ⟨b,j,none⟩),.bool x] w fun v w'=>v=.bool m/\Sat w' L':=by
  refine en2 Tryz.func49 rfl Tryz.ntmps49 rfl fun a S=>?_
  refine sr 1 S H t0 fun a w S H=>?_
  refine r_seq ?_
  refine ha0 H fun w H HS=>?_
  refine tk 0 S HS fun a S=>?_
  refine tk 1 S HS fun a S=>?_
  refine tk 2 S HS fun a S=>?_
  refine tk 3 S HS fun a S=>?_
  refine h1 4 ?_
  refine rs 1 S H (by omega) fun a w S H=>?_
  refine hk (Sat.nil _) fun HS=>?_
  refine h1 5 ?_
  refine rs 1 S H t0 fun a w S H=>?_
  refine hk (Sat.nil _) fun HS=>?_
  refine tk 6 S HS fun a S=>?_
  refine tk 7 S HS fun a S=>?_
  refine hz ?_
  refine x_then ?_
  refine wp_ret (r_ret1 S H Tryz.results49 (ro_tmp S rfl) ⟨congrArg Value.bool (dnI_ne m),H⟩)
instance {L L':List Res} (b j i:Nat) (c c':List Value) (ty:TypeId) (m x:Bool) [hf:FdR L b (blk b (.cells c.toArray ty)) i] [hv:At c j (.int .u32 (dnI m))] [hp:Pu c j [.int .u32 (dnI x)] c'] [hs:St L i (blk b (.cells c'.toArray ty)) L']:Cal Tryz.prog L 49 [.pointer (some ⟨b,j,none⟩),.bool x] (.bool m) L' ((0:Int)<=0):=⟨Tryz.call49,fun _ w H=>bswap_ct b j i c c' ty m x w H⟩
theorem bstore_ct {L L':List Res} (b j i:Nat) (c c':List Value) (ty:TypeId) (m x:Bool) [hf:FdR L b (blk b (.cells c.toArray ty)) i] [hv:At c j (.int .u32 (dnI m))] [hp:Pu c j [.int .u32 (dnI x)] c'] [hs:St L i (blk b (.cells c'.toArray ty)) L'] (w:World) (H:Sat w L):Rt Tryz.prog 53 #[.pointer (some ⟨b,j,none⟩),.bool x] w fun v w'=>v=.tuple #[]/\Sat w' L':=by
  refine en2 Tryz.func53 rfl Tryz.ntmps53 rfl fun a S=>?_
  refine ha0 H fun w H HS=>?_
  refine tk 0 S HS fun a S=>?_
  refine tk 1 S HS fun a S=>?_
  refine tk 2 S HS fun a S=>?_
  refine tk 3 S HS fun a S=>?_
  refine h1 4 ?_
  refine rs 1 S H (by omega) fun a w S H=>?_
  refine hk (Sat.nil _) fun HS=>?_
  refine h1 5 ?_
  refine rs 1 S H t0 fun a w S H=>?_
  refine hk (Sat.nil _) fun HS=>?_
  refine hz ?_
  exact r_end0 S Tryz.results53 ⟨rfl,H⟩
instance {L L':List Res} (b j i:Nat) (c c':List Value) (ty:TypeId) (m x:Bool) [hf:FdR L b (blk b (.cells c.toArray ty)) i] [hv:At c j (.int .u32 (dnI m))] [hp:Pu c j [.int .u32 (dnI x)] c'] [hs:St L i (blk b (.cells c'.toArray ty)) L']:Cal Tryz.prog L 53 [.pointer (some ⟨b,j,none⟩),.bool x] (.tuple #[]) L' ((0:Int)<=0):=⟨Tryz.call53,fun _ w H=>bstore_ct b j i c c' ty m x w H⟩
theorem down_ct {L:List Res} (db i:Nat) (c:List Value) (m:Bool) [hf:FdR L db (blk db (.cells c.toArray 71)) i] [hv:At c 6 (.int .u32 (dnI m))] (w:World) (H:Sat w L):Rt Tryz.prog 32 #[.pointer (some ⟨db,0,none⟩)] w fun v w'=>v=.bool m/\Sat w' L:=by
  refine en1 Tryz.func32 rfl Tryz.ntmps32 rfl fun a S=>?_
  refine sr 1 S H t0 fun a w S H=>?_
  refine sr 5 S H (by omega) fun a w S H=>?_
  refine wp_ret (r_ret1 S H Tryz.results32 (ro_tmp S rfl) ⟨rfl,H⟩)
instance {L:List Res} (db i:Nat) (c:List Value) (m:Bool) [hf:FdR L db (blk db (.cells c.toArray 71)) i] [hv:At c 6 (.int .u32 (dnI m))]:Cal Tryz.prog L 32 [.pointer (some ⟨db,0,none⟩)] (.bool m) L ((0:Int)<=0):=⟨Tryz.call32,fun _ w H=>down_ct db i c m w H⟩
theorem sectors_ct (w:World) (fr:List Res) (n:Nat) (hn:n<=9223372036854775000) (H:Sat w (fr)):
    Rt Tryz.prog 52 #[.int .i64 ((n:Nat):Int)] w fun v w'=>v=.int .i64 ((Dk.sectors n:Nat):Int)/\Sat w' fr:=by
  refine en1 Tryz.func52 rfl Tryz.ntmps52 rfl fun a S=>?_
  refine sr 1 S H t0 fun a w S H=>?_
  refine sb ?_
  refine rn 3 S H (by omega) fun a w S H=>?_
  refine r_y S H (y_quoN S rfl rfl rfl (by omega) (by omega) (wdivi64 (by omega) (by omega) (by omega))) rfl rfl rfl fun a S=>?_
  refine rs 1 S H t0 fun a w S H=>?_
  refine wp_ret ?_
  refine r_ret1 S H Tryz.results52 (ro_tmp S rfl) ?_
  exact ⟨congrArg (Value.int .i64) (by unfold Dk.sectors;omega),H⟩

instance {fr:List Res} (n:Nat):Cal Tryz.prog fr 52 [.int .i64 ((n:Nat):Int)] (.int .i64 ((Dk.sectors n:Nat):Int)) fr (((n:Nat):Int)<=9223372036854775000):=⟨Tryz.call52,fun hc w H=>sectors_ct w fr n (by omega) H⟩
theorem may_ct (w:World) (fr:List Res) (n:List UInt8) (H:Sat w (fr)):
    Rt Tryz.prog 47 #[str (n)] w fun v w'=>v=.bool (Dk.may n)/\Sat w' fr:=by
  refine en1 Tryz.func47 rfl Tryz.ntmps47 rfl fun a S=>?_
  refine sr 1 S H t0 fun a w S H=>?_
  refine sb ?_
  refine rn 3 S H t0 fun a w S H=>?_
  refine scA 2 S H (fun _=>t0) fun a w S H=>?_
  refine rs 1 S H t0 fun a w S H=>?_
  refine wp_ret ?_
  refine r_ret1 S H Tryz.results47 (ro_tmp S rfl) ?_
  exact ⟨congrArg Value.bool (by unfold Dk.may;rw [Bool.eq_iff_iff];simp;omega),H⟩

instance {fr:List Res} (n:List UInt8):Cal Tryz.prog fr 47 [str n] (.bool (Dk.may n)) fr ((0:Int)<=0):=⟨Tryz.call47,fun hc w H=>may_ct w fr n H⟩
end Go.Proofs.YtoffbmhmocfmnaaGreatDoor
