/- Walks of functions of the program, over slots and resources. No condition. -/
import Derived.Test.YtoffbmhmocfmnaaGreatDoorKVax
namespace Go.Proofs.YtoffbmhmocfmnaaGreatDoor
open Go.RowKit Go.Cg
set_option linter.unusedVariables false
set_option linter.unusedSimpArgs false
set_option maxRecDepth 8000
set_option synthInstance.maxHeartbeats 1000000
set_option synthInstance.maxSize 1000000
open Go.Cg.Dk (By Nm)
open Go.Cg.Rn (R Bd)
open Go.Cg.Tr (E)
open Go.Cg.Sh (Cur Sw)
theorem law_tells (w:World) (fr:List Res) (hl:Laid fr) (n:Int) (A:Option Addr) (c:Nat) (es:List E) (ok:SlOk fr 3 A es.length c (ecells es)) (hes:Sh.E32 es) (a1 a2:Int) (H:Sat w (fr)):
    Rt Tryz.prog 8 #[.agg #[.int .i64 n,.slice A es.length c],.int .i64 a1,.int .i64 a2] w fun v w'=>v=.bool true/\Sat w' fr:=by
  refine en3 Tryz.func8 rfl Tryz.ntmps8 rfl fun a S=>?_
  have hcap:=ok.le
  have hmax:c<=9223372036854775807:=ok.cap
  refine sb ?_
  refine r_box (c:=#[.int .i64 n,.slice A es.length c]) S H rfl rfl rfl rfl rfl rfl fun a w b1 S H=>?_
  refine rs 1 S H t0 fun a w S H=>?_
  refine sb ?_
  refine r_call (args:=#[]) S rfl rfl Tryz.call10 (shown_ct (H:=H) _ _ (hl.via fun _ H=>H.drop)) rfl rfl rfl fun v a w hR S=>?_
  obtain ⟨rfl,H⟩:=hR
  refine rs 1 S H t0 fun a w S H=>?_
  refine sb ?_
  refine rn 1 S H t0 fun a w S H=>?_
  refine r_call (args:=#[.agg #[.int .i64 n,.slice A es.length c]]) S rfl rfl Tryz.call11 (few_ct (H:=H) _ _ n A c es (ok.more _) (hes)) rfl rfl rfl fun v a w hR S=>?_
  obtain ⟨A6,c7,rfl,H⟩:=hR
  obtain ⟨f0,f60,fl,fg,fsub⟩:=Tr.few_facts (n:=n) (es:=es)
  have fe:Sh.E32 (Tr.few n es).2:=fun e he=>hes e (fsub e he)
  obtain ⟨gn,hgn⟩:∃y,y=(Tr.few n es).1:=⟨_,rfl⟩
  obtain ⟨gl,hgl⟩:∃y,y=(Tr.few n es).2:=⟨_,rfl⟩
  rw [<-hgl] at S H fl fg fe
  rw [<-hgn] at S f0 f60 fg
  have HI_okg:=Sat.only (pk [0] 2 H)
  have okg:=SlOk.ofRow (i:=0) HI_okg rfl
  refine rs 1 S H t0 fun a w S H=>?_
  refine sb ?_
  refine rn 1 S H t0 fun a w S H=>?_
  refine r_y S H (y_bitop S rfl rfl rfl (fun w=>maskL 16 65536 65535 (by decide) (by decide) (by decide) a1 w)) rfl rfl rfl fun a S=>?_
  refine r_y S H (y_remN S rfl rfl rfl (by omega) (by omega)) rfl rfl rfl fun a S=>?_
  refine r_y S H (y_add S rfl rfl rfl (wi64 (by omega) (by omega))) rfl rfl rfl fun a S=>?_
  obtain ⟨sh,hsh⟩:∃y:Int,y=1+a1%65536%12:=⟨_,rfl⟩
  have S:=S.retell (v':=.int .i64 sh) 31 rfl (by rw [hsh])
  refine rs 1 S H t0 fun a w S H=>?_
  refine sb ?_
  refine rn 1 S H t0 fun a w S H=>?_
  refine r_y S H (y_bitop S rfl rfl rfl (fun w=>maskL 16 65536 65535 (by decide) (by decide) (by decide) a2 w)) rfl rfl rfl fun a S=>?_
  refine r_y S H (y_remN S rfl rfl rfl (by omega) (by omega)) rfl rfl rfl fun a S=>?_
  refine r_y S H (y_add S rfl rfl rfl (wi64 (by omega) (by omega))) rfl rfl rfl fun a S=>?_
  obtain ⟨bq,hbq⟩:∃y:Int,y=1+a2%65536%50:=⟨_,rfl⟩
  have S:=S.retell (v':=.int .i64 bq) 35 rfl (by rw [hbq])
  refine rs 1 S H t0 fun a w S H=>?_
  refine sb ?_
  refine r_call (args:=#[.int .i64 10000]) S rfl rfl Tryz.call12 (new_ct (H:=H) _ _ 10000 (by omega)) rfl rfl rfl fun v a w hR S=>?_
  obtain ⟨db9,rfl,H⟩:=hR
  have hp:Oc.part gn sh=true:=Sh.part_few f0 f60 (by omega) (by omega)
  obtain ⟨d1,d2,d3,ns,w0,e1,e2,hns,e3,hT0,k1,k2,k3,k4⟩:=Sh.tells12_plan fe hp fg fl (b:=bq) (by omega) (by omega)
  refine rs 1 S H t0 fun a w S H=>?_
  refine r_seq ?_
  refine sb ?_
  refine rn 7 S H t0 fun a w S H=>?_
  refine r_call (args:=#[.pointer (some ⟨db9,0,none⟩),.agg #[.int .i64 (gn),.slice A6 (gl.length) c7],.int .i64 sh,.int .i64 bq]) S rfl rfl Tryz.call13 (build_ct (H:=H) _ _ (hl.via fun _ H=>H.drop.drop) db9 gn A6 c7 gl (okg.via fun _ H=>Sat.only (pk [0] 2 H)) fe sh bq (Dk.fresh 10000) (by show 0<=_;omega) (by omega)) rfl rfl rfl fun v a w hR S=>?_
  obtain ⟨rfl,H,hcB⟩:=hR
  rw [e1] at S H
  dsimp only at S H
  refine rn 1 S H t0 fun a w S H=>?_
  have S:=S.retell (v':=.bool false) 45 rfl rfl
  refine rs 1 S H t0 fun a w S H=>?_
  refine r_condF S rfl ?_
  refine wp_skip ?_
  refine x_then ?_
  refine sb ?_
  refine rn 1 S H t0 fun a w S H=>?_
  refine r_call (args:=#[.pointer (some ⟨db9,0,none⟩),.slice none 0 0]) S rfl rfl Tryz.call27 (crashed_ct (H:=H) _ _ db9 d1 (by omega) _ _ ([]) (okNil _)) rfl rfl rfl fun v a w hR S=>?_
  obtain ⟨rfl,H⟩:=hR
  refine sn ?_
  refine sr 2 S H (by omega) fun a w S H=>?_
  refine sb ?_
  refine rn 1 S H t0 fun a w S H=>?_
  refine r_call (args:=#[.pointer (some ⟨db9,0,none⟩)]) S rfl rfl Tryz.call23 (list_ct (H:=H) _ _ db9 (Dk.Disk.restart (Dk.Disk.crash ([]) d1)) (by omega)) rfl rfl rfl fun v a w hR S=>?_
  obtain ⟨A10,c11,rfl,H⟩:=hR
  rw [e2] at S H
  dsimp only at S H
  refine rs 5 S H t0 fun a w S H=>?_
  refine r_seq ?_
  refine sb ?_
  refine rn 2 S H t0 fun a w S H=>?_
  have S:=S.retell (v':=.bool false) 57 rfl rfl
  refine rn 5 S H t0 fun a w S H=>?_
  have S:=S.retell (v':=.bool false) 62 rfl (by rw [decide_eq_false (by omega)])
  refine rs 1 S H t0 fun a w S H=>?_
  refine r_condF S rfl ?_
  refine wp_skip ?_
  refine x_then ?_
  refine sb ?_
  refine rn 4 S H t0 fun a w S H=>?_
  refine r_call (args:=#[.pointer (some ⟨db9,0,none⟩),.int .i64 (gn),.int .i64 sh]) S rfl rfl Tryz.call14 (newsweep_ct (H:=H) _ _ (hl.via fun _ H=>H.drop.drop.drop) db9 gn sh d2 (by omega)) rfl rfl rfl fun v a w hR S=>?_
  obtain ⟨z12,rfl,H⟩:=hR
  rw [e3] at S H
  replace H:Sat _ (swR db9 z12 w0::diskR db9 d3::row 9 1 (.slice A10 (ns.length) c11) (ns.length) (strs ns)::row 61 3 (.slice A6 (gl.length) c7) (gl.length) (ecells (gl))::blk b1 (.cells #[.int .i64 (gn),.slice A6 (gl.length) c7] 24)::fr):=H
  have S:=S.retell (v':=.tuple #[.pointer (some ⟨z12,0,none⟩),.int .i64 0]) 69 rfl rfl
  refine rs 5 S H t0 fun a w S H=>?_
  refine r_seq ?_
  refine sb ?_
  refine rn 2 S H t0 fun a w S H=>?_
  have S:=S.retell (v':=.bool false) 73 rfl rfl
  refine rs 4 S H t0 fun a w S H=>?_
  refine r_condF S rfl ?_
  refine wp_skip ?_
  refine x_then ?_
  refine r_seq ?_
  refine sr 1 S H t0 fun a w S H=>?_
  refine r_block ?_
  refine r_loop (ι:=Nat×Dk.Disk×Sw) (fun ⟨i,dd,ww⟩ a w=>Slots a 157 [(1,.int .i64 sh),(3,.pointer (some ⟨b1,0,none⟩)),(7,.bool true),(8,.pointer (some ⟨db9,0,none⟩)),(11,.pointer (some ⟨z12,0,none⟩)),(13,.int .i64 ((i:Nat):Int)),(157,undef)]/\Sat w (blk b1 (.cells #[.int .i64 (gn),.slice A6 (gl.length) c7] 24)::row 61 3 (.slice A6 (gl.length) c7) (gl.length) (ecells (gl))::swR db9 z12 ww::diskR db9 dd::fr)/\((i:Int)<=sh/\Sh.Sw12 gn sh gl i dd ww)) (fun ⟨i,dd,ww⟩=>sh.toNat - i) (0,d3,w0) ⟨S.sub ⟨rfl,rfl,rfl,rfl,rfl,rfl,rfl,trivial⟩,pk [4,3,0,1] 5 H,⟨by omega,hT0⟩⟩ (fun ⟨i,dd,ww⟩ a w hI=>?_)
  obtain ⟨S,H,hI⟩:=hI
  obtain ⟨hish,hT⟩:=hI
  have cT:=hT.rd.cnt
  refine r_seq ?_
  refine sr 3 S H t0 fun a w S H=>?_
  refine r_test S rfl (fun h80=>?_) (fun h80=>?_)
  · skip
    refine wp_skip ?_
    refine x_then ?_
    refine r_seq ?_
    refine r_block ?_
    obtain ⟨da,ea,ta⟩:=hT.read fe (j:=i) (by omega)
    obtain ⟨dq,wb,eb,tb⟩:=ta.next fe hp fg (by omega)
    have ca:=ta.rd.cnt
    refine sb ?_
    refine rn 2 S H t0 fun a w S H=>?_
    refine r_call (args:=#[.pointer (some ⟨db9,0,none⟩),.int .i64 ((i:Nat):Int)]) S rfl rfl Tryz.call16 (shread_ct (H:=(pk [3,0,1,2] 4 H)) _ _ (hl.via fun _ H=>H.drop.drop.drop) db9 i dd (by omega) (by omega)) rfl rfl rfl fun v a w hR S=>?_
    obtain ⟨A13,c14,rfl,H⟩:=hR
    rw [ea] at S H
    dsimp only at S H
    refine rs 5 S H t0 fun a w S H=>?_
    refine sb ?_
    refine rn 1 S H t0 fun a w S H=>?_
    refine r_call (args:=#[.pointer (some ⟨z12,0,none⟩)]) S rfl rfl Tryz.call15 (snext_ct (H:=(pk [4,1,0,2,3] 5 H)) _ _ db9 z12 ww da (by omega)) rfl rfl rfl fun v a w hR S=>?_
    obtain ⟨A15,c16,rfl,H⟩:=hR
    rw [eb] at S H
    dsimp only at S H
    refine rs 7 S H t0 fun a w S H=>?_
    refine sb ?_
    refine rn 2 S H t0 fun a w S H=>?_
    have S:=S.retell (v':=.bool false) 96 rfl rfl
    refine rn 5 S H t0 fun a w S H=>?_
    refine r_call (args:=#[.agg #[.int .i64 (gn),.slice A6 (gl.length) c7],.int .i64 sh,.int .i64 ((i:Nat):Int)]) S rfl rfl Tryz.call29 (eshard_ct (H:=H) _ _ gn A6 c7 gl (okg.via fun _ H=>Sat.only (pk [5] 6 H)) fe (by omega) sh i hp fg) rfl rfl rfl fun v a w hR S=>?_
    obtain ⟨A17,c18,rfl,H⟩:=hR
    refine r_call (args:=#[.slice A13 ((Sh.edgesOf gn sh gl i).length) c14,.slice A17 ((Sh.edgesOf gn sh gl i).length) c18]) S rfl rfl Tryz.call20 (alike_ct (H:=H) _ _ _ _ _ (Sh.edgesOf gn sh gl i) (SlOk.ofRow (i:=4) H rfl) _ _ _ (Sh.edgesOf gn sh gl i) (SlOk.ofRow (i:=0) H rfl)) rfl rfl rfl fun v a w hR S=>?_
    obtain ⟨rfl,H⟩:=hR
    have S:=S.retell (v':=.bool true) 103 rfl (by simp)
    refine rn 9 S H t0 fun a w S H=>?_
    have S:=S.retell (v':=.bool false) 112 rfl rfl
    refine rn 6 S H t0 fun a w S H=>?_
    refine r_call (args:=#[.agg #[.int .i64 (gn),.slice A6 (gl.length) c7],.int .i64 sh,.int .i64 ((i:Nat):Int)]) S rfl rfl Tryz.call30 (ewin_ct (H:=H) _ _ gn A6 c7 gl (okg.via fun _ H=>Sat.only (pk [6] 7 H)) fe (by omega) sh i hp fg) rfl rfl rfl fun v a w hR S=>?_
    obtain ⟨A19,c20,rfl,H⟩:=hR
    refine r_call (args:=#[.slice A15 ((Sh.winOf gn sh gl i).length) c16,.slice A19 ((Sh.winOf gn sh gl i).length) c20]) S rfl rfl Tryz.call20 (alike_ct (H:=H) _ _ _ _ _ (Sh.winOf gn sh gl i) (SlOk.ofRow (i:=2) H rfl) _ _ _ (Sh.winOf gn sh gl i) (SlOk.ofRow (i:=0) H rfl)) rfl rfl rfl fun v a w hR S=>?_
    obtain ⟨rfl,H⟩:=hR
    have S:=S.retell (v':=.bool true) 120 rfl (by simp)
    refine rs 2 S H t0 fun a w S H=>?_
    refine r_condF S rfl ?_
    refine wp_skip ?_
    refine x_blockEnd ?_
    refine x_then ?_
    refine er 3 S H (by omega) fun a w S H=>?_
    refine x_then ?_
    have H:=pk [6,7,3,4] 8 H
    exact ⟨(i+1,dq,wb),⟨S.sub ⟨rfl,rfl,rfl,rfl,rfl,rfl,rfl,trivial⟩,H,⟨by omega,tb⟩⟩,by show sh.toNat - (i+1) < sh.toNat - i;omega⟩
  refine wp_exit ?_
  refine x_thenExit ?_
  refine x_thenExit ?_
  refine x_blockHere ?_
  refine x_then ?_
  have ez:=hT.end_ (by omega)
  refine sb ?_
  refine rn 1 S H t0 fun a w S H=>?_
  refine r_call (args:=#[.pointer (some ⟨z12,0,none⟩)]) S rfl rfl Tryz.call15 (snext_ct (H:=(pk [2,3,0,1] 4 H)) _ _ db9 z12 ww dd (by omega)) rfl rfl rfl fun v a w hR S=>?_
  obtain ⟨A21,c22,rfl,H⟩:=hR
  rw [ez] at S H
  dsimp only at S H
  simp only [List.length_nil,List.length_cons,Nat.zero_add] at S H
  refine rs 7 S H t0 fun a w S H=>?_
  refine sb ?_
  refine rn 1 S H t0 fun a w S H=>?_
  refine r_call (args:=#[.pointer (some ⟨z12,0,none⟩)]) S rfl rfl Tryz.call15 (snext_ct (H:=(pk [1,2,0,3,4] 5 H)) _ _ db9 z12 ww dd (by omega)) rfl rfl rfl fun v a w hR S=>?_
  obtain ⟨A23,c24,rfl,H⟩:=hR
  rw [ez] at S H
  dsimp only at S H
  simp only [List.length_nil,List.length_cons,Nat.zero_add] at S H
  refine rs 7 S H t0 fun a w S H=>?_
  refine sb ?_
  refine rn 5 S H t0 fun a w S H=>?_
  have S:=S.retell (v':=.bool true) 139 rfl rfl
  refine rn 8 S H t0 fun a w S H=>?_
  have S:=S.retell (v':=.bool true) 147 rfl rfl
  refine rn 8 S H t0 fun a w S H=>?_
  have S:=S.retell (v':=.bool true) 155 rfl rfl
  refine rs 2 S H t0 fun a w S H=>?_
  refine wp_ret ?_
  refine r_ret1 S H Tryz.results8 (ro_tmp S rfl) ?_
  exact ⟨rfl,H.drop.drop.drop.drop.drop.drop⟩

end Go.Proofs.YtoffbmhmocfmnaaGreatDoor
