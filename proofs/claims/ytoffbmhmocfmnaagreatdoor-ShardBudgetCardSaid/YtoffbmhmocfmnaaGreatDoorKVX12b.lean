/- Walks of functions of the program, over slots and resources. No condition. -/
import Derived.Test.YtoffbmhmocfmnaaGreatDoorKVax
namespace Go.Proofs.YtoffbmhmocfmnaaGreatDoor
open Go.RowKit Go.Cg
set_option linter.unusedVariables false
set_option linter.unusedSimpArgs false
set_option maxRecDepth 8000
set_option synthInstance.maxHeartbeats 1000000
set_option synthInstance.maxSize 1000000
open Go.Cg.Dk (By Nm)
open Go.Cg.Rn (R Bd)
open Go.Cg.Tr (E)
open Go.Cg.Sh (Cur Sw)
theorem law_budget (w:World) (fr:List Res) (hl:Laid fr) (n:Int) (A:Option Addr) (c:Nat) (es:List E) (ok:SlOk fr 3 A es.length c (ecells es)) (hes:Sh.E32 es) (a1 a2 a3:Int) (H:Sat w (fr)):
    Rt Tryz.prog 5 #[.agg #[.int .i64 n,.slice A es.length c],.int .i64 a1,.int .i64 a2,.int .i64 a3] w fun v w'=>v=.bool true/\Sat w' fr:=by
  refine en4 Tryz.func5 rfl Tryz.ntmps5 rfl fun a S=>?_
  have hcap:=ok.le
  have hmax:c<=9223372036854775807:=ok.cap
  refine sb ?_
  refine r_box (c:=#[.int .i64 n,.slice A es.length c]) S H rfl rfl rfl rfl rfl rfl fun a w b1 S H=>?_
  refine rs 1 S H t0 fun a w S H=>?_
  refine sb ?_
  refine r_call (args:=#[]) S rfl rfl Tryz.call10 (shown_ct (H:=H) _ _ (hl.via fun _ H=>H.drop)) rfl rfl rfl fun v a w hR S=>?_
  obtain ⟨rfl,H⟩:=hR
  refine rs 1 S H t0 fun a w S H=>?_
  refine sb ?_
  refine rn 1 S H t0 fun a w S H=>?_
  refine r_call (args:=#[.agg #[.int .i64 n,.slice A es.length c]]) S rfl rfl Tryz.call11 (few_ct (H:=H) _ _ n A c es (ok.more _) (hes)) rfl rfl rfl fun v a w hR S=>?_
  obtain ⟨A6,c7,rfl,H⟩:=hR
  obtain ⟨f0,f60,fl,fg,fsub⟩:=Tr.few_facts (n:=n) (es:=es)
  have fe:Sh.E32 (Tr.few n es).2:=fun e he=>hes e (fsub e he)
  obtain ⟨gn,hgn⟩:∃y,y=(Tr.few n es).1:=⟨_,rfl⟩
  obtain ⟨gl,hgl⟩:∃y,y=(Tr.few n es).2:=⟨_,rfl⟩
  rw [<-hgl] at S H fl fg fe
  rw [<-hgn] at S f0 f60 fg
  have HI_okg:=Sat.only (pk [0] 2 H)
  have okg:=SlOk.ofRow (i:=0) HI_okg rfl
  refine rs 1 S H t0 fun a w S H=>?_
  refine sb ?_
  refine rn 1 S H t0 fun a w S H=>?_
  refine r_y S H (y_bitop S rfl rfl rfl (fun w=>maskL 16 65536 65535 (by decide) (by decide) (by decide) a1 w)) rfl rfl rfl fun a S=>?_
  refine r_y S H (y_remN S rfl rfl rfl (by omega) (by omega)) rfl rfl rfl fun a S=>?_
  refine r_y S H (y_add S rfl rfl rfl (wi64 (by omega) (by omega))) rfl rfl rfl fun a S=>?_
  obtain ⟨sh,hsh⟩:∃y:Int,y=1+a1%65536%12:=⟨_,rfl⟩
  have S:=S.retell (v':=.int .i64 sh) 23 rfl (by rw [hsh])
  refine rs 1 S H t0 fun a w S H=>?_
  refine sb ?_
  refine r_call (args:=#[.int .i64 10000]) S rfl rfl Tryz.call12 (new_ct (H:=H) _ _ 10000 (by omega)) rfl rfl rfl fun v a w hR S=>?_
  obtain ⟨db9,rfl,H⟩:=hR
  refine rs 1 S H t0 fun a w S H=>?_
  refine sb ?_
  refine r_call (args:=#[.int .i64 10000]) S rfl rfl Tryz.call12 (new_ct (H:=H) _ _ 10000 (by omega)) rfl rfl rfl fun v a w hR S=>?_
  obtain ⟨db11,rfl,H⟩:=hR
  have hp:Oc.part gn sh=true:=Sh.part_few f0 f60 (by omega) (by omega)
  obtain ⟨p1,hp1⟩:∃y:Int,y=1+a2%65536%50:=⟨_,rfl⟩
  obtain ⟨p2,hp2⟩:∃y:Int,y=1+a3%65536%50:=⟨_,rfl⟩
  obtain ⟨c1,e1,r1⟩:=Sh.is_rd Sh.is10 fe hp fg fl (b:=p1) (by omega)
  obtain ⟨d1,e2,r2⟩:=Sh.is_rd Sh.is10 fe hp fg fl (b:=p2) (by omega)
  refine rs 1 S H t0 fun a w S H=>?_
  refine r_seq ?_
  refine sb ?_
  refine rn 11 S H t0 fun a w S H=>?_
  refine r_y S H (y_bitop S rfl rfl rfl (fun w=>maskL 16 65536 65535 (by decide) (by decide) (by decide) a2 w)) rfl rfl rfl fun a S=>?_
  refine r_y S H (y_remN S rfl rfl rfl (by omega) (by omega)) rfl rfl rfl fun a S=>?_
  refine r_y S H (y_add S rfl rfl rfl (wi64 (by omega) (by omega))) rfl rfl rfl fun a S=>?_
  have S:=S.retell (v':=.int .i64 p1) 39 rfl (by rw [hp1])
  refine r_call (args:=#[.pointer (some ⟨db9,0,none⟩),.agg #[.int .i64 (gn),.slice A6 (gl.length) c7],.int .i64 sh,.int .i64 p1]) S rfl rfl Tryz.call13 (build_ct (H:=(pk [1,0,2,3] 4 H)) _ _ (hl.via fun _ H=>H.drop.drop.drop) db9 gn A6 c7 gl (okg.via fun _ H=>Sat.only (pk [1] 3 H)) fe sh p1 (Dk.fresh 10000) (by show 0<=_;omega) (by omega)) rfl rfl rfl fun v a w hR S=>?_
  obtain ⟨rfl,H,hcB⟩:=hR
  rw [e1] at S H
  dsimp only at S H
  refine rn 1 S H t0 fun a w S H=>?_
  have S:=S.retell (v':=.bool false) 41 rfl rfl
  refine rn 6 S H t0 fun a w S H=>?_
  refine r_y S H (y_bitop S rfl rfl rfl (fun w=>maskL 16 65536 65535 (by decide) (by decide) (by decide) a3 w)) rfl rfl rfl fun a S=>?_
  refine r_y S H (y_remN S rfl rfl rfl (by omega) (by omega)) rfl rfl rfl fun a S=>?_
  refine r_y S H (y_add S rfl rfl rfl (wi64 (by omega) (by omega))) rfl rfl rfl fun a S=>?_
  have S:=S.retell (v':=.int .i64 p2) 50 rfl (by rw [hp2])
  refine r_call (args:=#[.pointer (some ⟨db11,0,none⟩),.agg #[.int .i64 (gn),.slice A6 (gl.length) c7],.int .i64 sh,.int .i64 p2]) S rfl rfl Tryz.call13 (build_ct (H:=(pk [1,0,2,3] 4 H)) _ _ (hl.via fun _ H=>H.drop.drop.drop) db11 gn A6 c7 gl (okg.via fun _ H=>Sat.only (pk [1] 3 H)) fe sh p2 (Dk.fresh 10000) (by show 0<=_;omega) (by omega)) rfl rfl rfl fun v a w hR S=>?_
  obtain ⟨rfl,H,hcB⟩:=hR
  rw [e2] at S H
  dsimp only at S H
  refine rn 1 S H t0 fun a w S H=>?_
  have S:=S.retell (v':=.bool false) 52 rfl rfl
  refine rs 1 S H t0 fun a w S H=>?_
  refine r_condF S rfl ?_
  refine wp_skip ?_
  refine x_then ?_
  refine r_seq ?_
  refine sr 1 S H t0 fun a w S H=>?_
  refine r_block ?_
  refine r_loop (ι:=Nat×Dk.Disk×Dk.Disk) (fun ⟨i,ca,da⟩ a w=>Slots a 91 [(1,.int .i64 sh),(9,.bool true),(10,.pointer (some ⟨db9,0,none⟩)),(11,.pointer (some ⟨db11,0,none⟩)),(12,.int .i64 ((i:Nat):Int)),(91,undef)]/\Sat w (blk b1 (.cells #[.int .i64 (gn),.slice A6 (gl.length) c7] 24)::row 61 3 (.slice A6 (gl.length) c7) (gl.length) (ecells (gl))::diskR db9 ca::diskR db11 da::fr)/\((i:Int)<=sh/\Sh.Rd12 gn sh gl ca/\Sh.Rd12 gn sh gl da)) (fun ⟨i,ca,da⟩=>sh.toNat - i) (0,c1,d1) ⟨S.sub ⟨rfl,rfl,rfl,rfl,rfl,rfl,trivial⟩,pk [3,2,1,0] 4 H,⟨by omega,r1,r2⟩⟩ (fun ⟨i,ca,da⟩ a w hI=>?_)
  obtain ⟨S,H,hI⟩:=hI
  obtain ⟨hish,hC,hD⟩:=hI
  have cC:=hC.cnt
  have cD:=hD.cnt
  refine r_seq ?_
  refine sr 3 S H t0 fun a w S H=>?_
  refine r_test S rfl (fun h56=>?_) (fun h56=>?_)
  · skip
    refine wp_skip ?_
    refine x_then ?_
    refine r_seq ?_
    refine r_block ?_
    obtain ⟨cb,ea,ta⟩:=hC.read fe (j:=i) (by omega)
    obtain ⟨db_,eb,tb⟩:=hD.read fe (j:=i) (by omega)
    refine sb ?_
    refine rn 2 S H t0 fun a w S H=>?_
    refine r_call (args:=#[.pointer (some ⟨db9,0,none⟩),.int .i64 ((i:Nat):Int)]) S rfl rfl Tryz.call16 (shread_ct (H:=(pk [2,0,1,3] 4 H)) _ _ (hl.via fun _ H=>H.drop.drop.drop) db9 i ca (by omega) (by omega)) rfl rfl rfl fun v a w hR S=>?_
    obtain ⟨A12,c13,rfl,H⟩:=hR
    rw [ea] at S H
    dsimp only at S H
    refine rs 5 S H t0 fun a w S H=>?_
    refine sb ?_
    refine rn 2 S H t0 fun a w S H=>?_
    refine r_call (args:=#[.pointer (some ⟨db11,0,none⟩),.int .i64 ((i:Nat):Int)]) S rfl rfl Tryz.call16 (shread_ct (H:=(pk [4,0,1,2,3] 5 H)) _ _ (hl.via fun _ H=>H.drop.drop.drop.drop) db11 i da (by omega) (by omega)) rfl rfl rfl fun v a w hR S=>?_
    obtain ⟨A14,c15,rfl,H⟩:=hR
    rw [eb] at S H
    dsimp only at S H
    refine rs 5 S H t0 fun a w S H=>?_
    refine sb ?_
    refine rn 2 S H t0 fun a w S H=>?_
    have S:=S.retell (v':=.bool false) 72 rfl rfl
    refine rn 3 S H t0 fun a w S H=>?_
    have S:=S.retell (v':=.bool false) 75 rfl rfl
    refine rn 4 S H t0 fun a w S H=>?_
    refine r_call (args:=#[.slice A12 ((Sh.edgesOf gn sh gl i).length) c13,.slice A14 ((Sh.edgesOf gn sh gl i).length) c15]) S rfl rfl Tryz.call20 (alike_ct (H:=H) _ _ _ _ _ (Sh.edgesOf gn sh gl i) (SlOk.ofRow (i:=2) H rfl) _ _ _ (Sh.edgesOf gn sh gl i) (SlOk.ofRow (i:=0) H rfl)) rfl rfl rfl fun v a w hR S=>?_
    obtain ⟨rfl,H⟩:=hR
    have S:=S.retell (v':=.bool true) 80 rfl (by simp)
    refine rs 2 S H t0 fun a w S H=>?_
    refine r_condF S rfl ?_
    refine wp_skip ?_
    refine x_blockEnd ?_
    refine x_then ?_
    refine er 3 S H (by omega) fun a w S H=>?_
    refine x_then ?_
    have H:=pk [4,5,3,1] 6 H
    exact ⟨(i+1,cb,db_),⟨S.sub ⟨rfl,rfl,rfl,rfl,rfl,rfl,trivial⟩,H,⟨by omega,ta,tb⟩⟩,by show sh.toNat - (i+1) < sh.toNat - i;omega⟩
  refine wp_exit ?_
  refine x_thenExit ?_
  refine x_thenExit ?_
  refine x_blockHere ?_
  refine x_then ?_
  refine sb ?_
  refine rn 3 S H t0 fun a w S H=>?_
  refine r_call (args:=#[.pointer (some ⟨db9,0,none⟩)]) S rfl rfl Tryz.call21 (dused_ct (H:=(pk [2,0,1,3] 4 H)) _ _ db9 ca) rfl rfl rfl fun v a w hR S=>?_
  obtain ⟨rfl,H⟩:=hR
  refine rn 1 S H t0 fun a w S H=>?_
  refine r_call (args:=#[.pointer (some ⟨db11,0,none⟩)]) S rfl rfl Tryz.call21 (dused_ct (H:=(pk [3,0,1,2] 4 H)) _ _ db11 da) rfl rfl rfl fun v a w hR S=>?_
  obtain ⟨rfl,H⟩:=hR
  refine rn 1 S H t0 fun a w S H=>?_
  have S:=S.retell (v':=.bool true) 89 rfl (by rw [decide_eq_true (by have:=hC.used_eq hD;omega)])
  refine rs 2 S H t0 fun a w S H=>?_
  refine wp_ret ?_
  refine r_ret1 S H Tryz.results5 (ro_tmp S rfl) ?_
  exact ⟨rfl,H.drop.drop.drop.drop⟩

end Go.Proofs.YtoffbmhmocfmnaaGreatDoor
