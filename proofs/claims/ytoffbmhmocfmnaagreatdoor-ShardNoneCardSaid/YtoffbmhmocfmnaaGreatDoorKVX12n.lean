/- Walks of functions of the program, over slots and resources. No condition. -/
import Derived.Test.YtoffbmhmocfmnaaGreatDoorKVax
namespace Go.Proofs.YtoffbmhmocfmnaaGreatDoor
open Go.RowKit Go.Cg
set_option linter.unusedVariables false
set_option linter.unusedSimpArgs false
set_option maxRecDepth 8000
set_option synthInstance.maxHeartbeats 1000000
set_option synthInstance.maxSize 1000000
open Go.Cg.Dk (By Nm)
open Go.Cg.Rn (R Bd)
open Go.Cg.Tr (E)
open Go.Cg.Sh (Cur Sw)
theorem law_none (w:World) (fr:List Res) (hl:Laid fr) (n:Int) (A:Option Addr) (c:Nat) (es:List E) (ok:SlOk fr 3 A es.length c (ecells es)) (hes:Sh.E32 es) (a1:Int) (H:Sat w (fr)):
    Rt Tryz.prog 4 #[.agg #[.int .i64 n,.slice A es.length c],.int .i64 a1] w fun v w'=>v=.bool true/\Sat w' fr:=by
  refine en2 Tryz.func4 rfl Tryz.ntmps4 rfl fun a S=>?_
  have hcap:=ok.le
  have hmax:c<=9223372036854775807:=ok.cap
  refine sb ?_
  refine r_box (c:=#[.int .i64 n,.slice A es.length c]) S H rfl rfl rfl rfl rfl rfl fun a w b1 S H=>?_
  refine rs 1 S H t0 fun a w S H=>?_
  refine sb ?_
  refine r_call (args:=#[]) S rfl rfl Tryz.call10 (shown_ct (H:=H) _ _ (hl.via fun _ H=>H.drop)) rfl rfl rfl fun v a w hR S=>?_
  obtain ⟨rfl,H⟩:=hR
  refine rs 1 S H t0 fun a w S H=>?_
  refine sb ?_
  refine rn 1 S H t0 fun a w S H=>?_
  refine r_call (args:=#[.agg #[.int .i64 n,.slice A es.length c]]) S rfl rfl Tryz.call11 (few_ct (H:=H) _ _ n A c es (ok.more _) (hes)) rfl rfl rfl fun v a w hR S=>?_
  obtain ⟨A6,c7,rfl,H⟩:=hR
  obtain ⟨f0,f60,fl,fg,fsub⟩:=Tr.few_facts (n:=n) (es:=es)
  have fe:Sh.E32 (Tr.few n es).2:=fun e he=>hes e (fsub e he)
  obtain ⟨gn,hgn⟩:∃y,y=(Tr.few n es).1:=⟨_,rfl⟩
  obtain ⟨gl,hgl⟩:∃y,y=(Tr.few n es).2:=⟨_,rfl⟩
  rw [<-hgl] at S H fl fg fe
  rw [<-hgn] at S f0 f60 fg
  have HI_okg:=Sat.only (pk [0] 2 H)
  have okg:=SlOk.ofRow (i:=0) HI_okg rfl
  refine rs 1 S H t0 fun a w S H=>?_
  refine sb ?_
  refine rn 1 S H t0 fun a w S H=>?_
  refine r_y S H (y_bitop S rfl rfl rfl (fun w=>maskL 2 4 3 (by decide) (by decide) (by decide) a1 w)) rfl rfl rfl fun a S=>?_
  obtain ⟨m,hm⟩:∃x:Nat,((x:Nat):Int)=a1%4:=⟨(a1%4).toNat,by omega⟩
  have S:=S.retell (v':=.int .i64 ((m:Nat):Int)) 21 rfl (by rw [hm])
  have hmb:m<=3:=by omega
  refine rs 1 S H t0 fun a w S H=>?_
  refine sb ?_
  refine r_call (args:=#[.int .i64 10000]) S rfl rfl Tryz.call12 (new_ct (H:=H) _ _ 10000 (by omega)) rfl rfl rfl fun v a w hR S=>?_
  obtain ⟨db9,rfl,H⟩:=hR
  obtain ⟨d1,d2,d3,d4,d5,d6,w5,e1,e2,e3,e4,e5,e6,e7,k1,k2,k3,k4,k5,k6⟩:=Sh.none12_plan fe f0 f60 fg fl (m:=m) (by omega)
  refine rs 1 S H t0 fun a w S H=>?_
  refine r_seq ?_
  refine sb ?_
  refine rn 5 S H t0 fun a w S H=>?_
  refine r_call (args:=#[.pointer (some ⟨db9,0,none⟩),.agg #[.int .i64 (gn),.slice A6 (gl.length) c7],.int .i64 4,.int .i64 5]) S rfl rfl Tryz.call13 (build_ct (H:=H) _ _ (hl.via fun _ H=>H.drop.drop) db9 gn A6 c7 gl (okg.via fun _ H=>Sat.only (pk [0] 2 H)) fe 4 5 (Dk.fresh 10000) (by show 0<=_;omega) (by decide)) rfl rfl rfl fun v a w hR S=>?_
  obtain ⟨rfl,H,hcB⟩:=hR
  rw [e1] at S H
  dsimp only at S H
  refine rn 1 S H t0 fun a w S H=>?_
  have S:=S.retell (v':=.bool false) 29 rfl rfl
  refine rn 4 S H t0 fun a w S H=>?_
  refine r_call (args:=#[.int .i64 ((m:Nat):Int)]) S rfl rfl Tryz.call19 (shname_ct (H:=H) _ _ (hl.via fun _ H=>H.drop.drop.drop) m (by omega)) rfl rfl rfl fun v a w hR S=>?_
  obtain ⟨rfl,H⟩:=hR
  refine r_call (args:=#[.pointer (some ⟨db9,0,none⟩),str ((Sh.sname m))]) S rfl rfl Tryz.call18 (remove_ct (H:=H) _ _ db9 d1 (Sh.sname m) (by omega)) rfl rfl rfl fun v a w hR S=>?_
  obtain ⟨rfl,H⟩:=hR
  rw [e2] at S H
  dsimp only at S H
  refine rn 1 S H t0 fun a w S H=>?_
  have S:=S.retell (v':=.bool false) 36 rfl rfl
  refine rs 1 S H t0 fun a w S H=>?_
  refine r_condF S rfl ?_
  refine wp_skip ?_
  refine x_then ?_
  refine sb ?_
  refine rn 2 S H t0 fun a w S H=>?_
  refine r_call (args:=#[.pointer (some ⟨db9,0,none⟩),.int .i64 ((m:Nat):Int)]) S rfl rfl Tryz.call16 (shread_ct (H:=H) _ _ (hl.via fun _ H=>H.drop.drop) db9 m d2 (by omega) (by omega)) rfl rfl rfl fun v a w hR S=>?_
  obtain ⟨A10,c11,rfl,H⟩:=hR
  rw [e3] at S H
  dsimp only at S H
  refine rs 5 S H t0 fun a w S H=>?_
  refine sb ?_
  refine rn 3 S H t0 fun a w S H=>?_
  refine r_call (args:=#[.pointer (some ⟨db9,0,none⟩),.int .i64 (gn),.int .i64 4]) S rfl rfl Tryz.call14 (newsweep_ct (H:=(pk [1,0,2,3] 4 H)) _ _ (hl.via fun _ H=>H.drop.drop.drop) db9 gn 4 d3 (by omega)) rfl rfl rfl fun v a w hR S=>?_
  obtain ⟨z12,rfl,H⟩:=hR
  rw [e4] at S H
  replace H:Sat _ (diskR db9 d4::row 61 3 (.slice A10 ([].length) c11) ([].length) (ecells ([]))::row 61 3 (.slice A6 (gl.length) c7) (gl.length) (ecells (gl))::blk b1 (.cells #[.int .i64 (gn),.slice A6 (gl.length) c7] 24)::fr):=H.drop
  have S:=S.retell (v':=.tuple #[.pointer none,.int .i64 4]) 48 rfl rfl
  refine rs 5 S H t0 fun a w S H=>?_
  refine sb ?_
  refine rn 4 S H t0 fun a w S H=>?_
  refine r_call (args:=#[.pointer (some ⟨db9,0,none⟩),.int .i64 (gn),.int .i64 ((m:Nat):Int)]) S rfl rfl Tryz.call14 (newsweep_ct (H:=H) _ _ (hl.via fun _ H=>H.drop.drop.drop) db9 gn ((m:Nat):Int) d4 (by omega)) rfl rfl rfl fun v a w hR S=>?_
  obtain ⟨z13,rfl,H⟩:=hR
  rw [e5] at S H
  replace H:Sat _ (diskR db9 d5::row 61 3 (.slice A10 ([].length) c11) ([].length) (ecells ([]))::row 61 3 (.slice A6 (gl.length) c7) (gl.length) (ecells (gl))::blk b1 (.cells #[.int .i64 (gn),.slice A6 (gl.length) c7] 24)::fr):=H.drop
  have S:=S.retell (v':=.tuple #[.pointer (w5.map fun _=>⟨z13,0,none⟩),.int .i64 (((if m=0 then 1 else 0:Nat)):Int)]) 56 rfl rfl
  refine rs 5 S H t0 fun a w S H=>?_
  refine sb ?_
  refine rn 1 S H t0 fun a w S H=>?_
  refine r_call (args:=#[.pointer (some ⟨db9,0,none⟩),.int .i64 4]) S rfl rfl Tryz.call16 (shread_ct (H:=H) _ _ (hl.via fun _ H=>H.drop.drop.drop) db9 4 d5 (by omega) (by omega)) rfl rfl rfl fun v a w hR S=>?_
  obtain ⟨A14,c15,rfl,H⟩:=hR
  rw [e6] at S H
  dsimp only at S H
  refine rs 5 S H t0 fun a w S H=>?_
  refine sb ?_
  refine rn 1 S H t0 fun a w S H=>?_
  refine r_call (args:=#[.pointer (some ⟨db9,0,none⟩),.int .i64 (-1),.int .i64 4]) S rfl rfl Tryz.call14 (newsweep_ct (H:=(pk [1,0,2,3,4] 5 H)) _ _ (hl.via fun _ H=>H.drop.drop.drop.drop) db9 (-1) 4 d6 (by omega)) rfl rfl rfl fun v a w hR S=>?_
  obtain ⟨z16,rfl,H⟩:=hR
  rw [e7] at S H
  replace H:Sat _ (diskR db9 d6::row 61 3 (.slice A14 ([].length) c15) ([].length) (ecells ([]))::row 61 3 (.slice A10 ([].length) c11) ([].length) (ecells ([]))::row 61 3 (.slice A6 (gl.length) c7) (gl.length) (ecells (gl))::blk b1 (.cells #[.int .i64 (gn),.slice A6 (gl.length) c7] 24)::fr):=H.drop
  have S:=S.retell (v':=.tuple #[.pointer none,.int .i64 1]) 66 rfl rfl
  refine rs 5 S H t0 fun a w S H=>?_
  rcases Nat.eq_zero_or_pos m with hm0 | hm0
  · skip
    have S:=S.retell (v':=.int .i64 1) 12 rfl (by rw [hm0];rfl)
    refine sb ?_
    refine rn 4 S H t0 fun a w S H=>?_
    have S:=S.retell (v':=.bool true) 72 rfl rfl
    refine rn 4 S H t0 fun a w S H=>?_
    have S:=S.retell (v':=.bool true) 76 rfl rfl
    refine rn 4 S H t0 fun a w S H=>?_
    have S:=S.retell (v':=.bool true) 80 rfl (by rw [decide_eq_true (by omega)])
    refine rn 3 S H t0 fun a w S H=>?_
    have S:=S.retell (v':=.bool true) 83 rfl rfl
    refine rn 13 S H t0 fun a w S H=>?_
    have S:=S.retell (v':=.bool true) 96 rfl rfl
    refine rn 4 S H t0 fun a w S H=>?_
    have S:=S.retell (v':=.bool true) 100 rfl rfl
    refine rs 2 S H t0 fun a w S H=>?_
    refine wp_ret ?_
    refine r_ret1 S H Tryz.results4 (ro_tmp S rfl) ?_
    exact ⟨rfl,H.drop.drop.drop.drop.drop⟩
  have S:=S.retell (v':=.int .i64 0) 12 rfl (by rw [if_neg (by omega)];rfl)
  refine sb ?_
  refine rn 4 S H t0 fun a w S H=>?_
  have S:=S.retell (v':=.bool true) 72 rfl rfl
  refine rn 4 S H t0 fun a w S H=>?_
  have S:=S.retell (v':=.bool true) 76 rfl rfl
  refine rn 4 S H t0 fun a w S H=>?_
  have S:=S.retell (v':=.bool false) 80 rfl (by rw [decide_eq_false (by omega)])
  refine rn 7 S H t0 fun a w S H=>?_
  have S:=S.retell (v':=.bool true) 87 rfl (by rw [decide_eq_true (by omega)])
  refine rn 3 S H t0 fun a w S H=>?_
  have S:=S.retell (v':=.bool true) 90 rfl rfl
  refine rn 6 S H t0 fun a w S H=>?_
  have S:=S.retell (v':=.bool true) 96 rfl rfl
  refine rn 4 S H t0 fun a w S H=>?_
  have S:=S.retell (v':=.bool true) 100 rfl rfl
  refine rs 2 S H t0 fun a w S H=>?_
  refine wp_ret ?_
  refine r_ret1 S H Tryz.results4 (ro_tmp S rfl) ?_
  exact ⟨rfl,H.drop.drop.drop.drop.drop⟩

end Go.Proofs.YtoffbmhmocfmnaaGreatDoor
