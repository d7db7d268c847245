/- Walks of functions of the program, over slots and resources. No condition. -/
import Derived.Test.YtoffbmhmocfmnaaGreatDoorKVax
namespace Go.Proofs.YtoffbmhmocfmnaaGreatDoor
open Go.RowKit Go.Cg
set_option linter.unusedVariables false
set_option linter.unusedSimpArgs false
set_option maxRecDepth 8000
set_option synthInstance.maxHeartbeats 1000000
set_option synthInstance.maxSize 1000000
open Go.Cg.Dk (By Nm)
open Go.Cg.Rn (R Bd)
open Go.Cg.Tr (E)
open Go.Cg.Sh (Cur Sw)
theorem law_all (w:World) (fr:List Res) (hl:Laid fr) (n:Int) (A:Option Addr) (c:Nat) (es:List E) (ok:SlOk fr 3 A es.length c (ecells es)) (hes:Sh.E32 es) (a1:Int) (H:Sat w (fr)):
    Rt Tryz.prog 3 #[.agg #[.int .i64 n,.slice A es.length c],.int .i64 a1] w fun v w'=>v=.bool true/\Sat w' fr:=by
  refine en2 Tryz.func3 rfl Tryz.ntmps3 rfl fun a S=>?_
  have hcap:=ok.le
  have hmax:c<=9223372036854775807:=ok.cap
  refine sb ?_
  refine r_box (c:=#[.int .i64 n,.slice A es.length c]) S H rfl rfl rfl rfl rfl rfl fun a w b1 S H=>?_
  refine rs 1 S H t0 fun a w S H=>?_
  refine sb ?_
  refine r_call (args:=#[]) S rfl rfl Tryz.call10 (shown_ct (H:=H) _ _ (hl.via fun _ H=>H.drop)) rfl rfl rfl fun v a w hR S=>?_
  obtain ⟨rfl,H⟩:=hR
  refine rs 1 S H t0 fun a w S H=>?_
  refine sb ?_
  refine rn 1 S H t0 fun a w S H=>?_
  refine r_call (args:=#[.agg #[.int .i64 n,.slice A es.length c]]) S rfl rfl Tryz.call11 (few_ct (H:=H) _ _ n A c es (ok.more _) (hes)) rfl rfl rfl fun v a w hR S=>?_
  obtain ⟨A6,c7,rfl,H⟩:=hR
  obtain ⟨f0,f60,fl,fg,fsub⟩:=Tr.few_facts (n:=n) (es:=es)
  have fe:Sh.E32 (Tr.few n es).2:=fun e he=>hes e (fsub e he)
  obtain ⟨gn,hgn⟩:∃y,y=(Tr.few n es).1:=⟨_,rfl⟩
  obtain ⟨gl,hgl⟩:∃y,y=(Tr.few n es).2:=⟨_,rfl⟩
  rw [<-hgl] at S H fl fg fe
  rw [<-hgn] at S f0 f60 fg
  have HI_okg:=Sat.only (pk [0] 2 H)
  have okg:=SlOk.ofRow (i:=0) HI_okg rfl
  refine rs 1 S H t0 fun a w S H=>?_
  refine sb ?_
  refine rn 1 S H t0 fun a w S H=>?_
  refine r_y S H (y_bitop S rfl rfl rfl (fun w=>maskL 16 65536 65535 (by decide) (by decide) (by decide) a1 w)) rfl rfl rfl fun a S=>?_
  refine r_y S H (y_remN S rfl rfl rfl (by omega) (by omega)) rfl rfl rfl fun a S=>?_
  refine r_y S H (y_add S rfl rfl rfl (wi64 (by omega) (by omega))) rfl rfl rfl fun a S=>?_
  obtain ⟨sh,hsh⟩:∃y:Int,y=1+a1%65536%60:=⟨_,rfl⟩
  have S:=S.retell (v':=.int .i64 sh) 24 rfl (by rw [hsh])
  refine rs 1 S H t0 fun a w S H=>?_
  refine sb ?_
  refine r_call (args:=#[.int .i64 10000]) S rfl rfl Tryz.call12 (new_ct (H:=H) _ _ 10000 (by omega)) rfl rfl rfl fun v a w hR S=>?_
  obtain ⟨db9,rfl,H⟩:=hR
  have hp:Oc.part gn sh=true:=Sh.part_few f0 f60 (by omega) (by omega)
  obtain ⟨d1,d3,w0,e1,e3,hT0,k1⟩:=Sh.all12_plan fe hp fg fl (by omega)
  refine rs 1 S H t0 fun a w S H=>?_
  refine r_seq ?_
  refine sb ?_
  refine rn 6 S H t0 fun a w S H=>?_
  refine r_call (args:=#[.pointer (some ⟨db9,0,none⟩),.agg #[.int .i64 (gn),.slice A6 (gl.length) c7],.int .i64 sh,.int .i64 10]) S rfl rfl Tryz.call13 (build_ct (H:=H) _ _ (hl.via fun _ H=>H.drop.drop) db9 gn A6 c7 gl (okg.via fun _ H=>Sat.only (pk [0] 2 H)) fe sh 10 (Dk.fresh 10000) (by show 0<=_;omega) (by decide)) rfl rfl rfl fun v a w hR S=>?_
  obtain ⟨rfl,H,hcB⟩:=hR
  rw [e1] at S H
  dsimp only at S H
  refine rn 1 S H t0 fun a w S H=>?_
  have S:=S.retell (v':=.bool false) 33 rfl rfl
  refine rs 1 S H t0 fun a w S H=>?_
  refine r_condF S rfl ?_
  refine wp_skip ?_
  refine x_then ?_
  refine sb ?_
  refine rn 4 S H t0 fun a w S H=>?_
  refine r_call (args:=#[.pointer (some ⟨db9,0,none⟩),.int .i64 (gn),.int .i64 sh]) S rfl rfl Tryz.call14 (newsweep_ct (H:=H) _ _ (hl.via fun _ H=>H.drop.drop) db9 gn sh d1 (by omega)) rfl rfl rfl fun v a w hR S=>?_
  obtain ⟨z10,rfl,H⟩:=hR
  rw [e3] at S H
  replace H:Sat _ (swR db9 z10 w0::diskR db9 d3::row 61 3 (.slice A6 (gl.length) c7) (gl.length) (ecells (gl))::blk b1 (.cells #[.int .i64 (gn),.slice A6 (gl.length) c7] 24)::fr):=H
  have S:=S.retell (v':=.tuple #[.pointer (some ⟨z10,0,none⟩),.int .i64 0]) 40 rfl rfl
  refine rs 5 S H t0 fun a w S H=>?_
  refine r_seq ?_
  refine sb ?_
  refine rn 2 S H t0 fun a w S H=>?_
  have S:=S.retell (v':=.bool false) 44 rfl rfl
  refine rs 4 S H t0 fun a w S H=>?_
  refine r_condF S rfl ?_
  refine wp_skip ?_
  refine x_then ?_
  refine sb ?_
  refine rn 2 S H t0 fun a w S H=>?_
  refine r_y S H (y_build (vs:=#[(0,.int .i64 (gn))]) (v:=.agg #[.int .i64 (gn),.slice none 0 0]) S rfl rfl (fun w=>by kernel_rfl)) rfl rfl rfl fun a S=>?_
  refine r_alloc S H rfl Tryz.zeroValue24 rfl rfl rfl rfl fun a w b11 S H=>?_
  replace H:Sat _ (blk b11 (.cells #[.int .i64 0,.slice none 0 0] 24)::swR db9 z10 w0::diskR db9 d3::row 61 3 (.slice A6 (gl.length) c7) (gl.length) (ecells (gl))::blk b1 (.cells #[.int .i64 (gn),.slice A6 (gl.length) c7] 24)::fr):=H
  refine rs 1 S H t0 fun a w S H=>?_
  refine r_seq ?_
  refine sr 1 S H t0 fun a w S H=>?_
  refine r_block ?_
  have H:=H.nilRow 61 3
  refine r_loop (ι:=Nat×Dk.Disk×Sw×Option Addr×Nat) (fun ⟨i,dd,ww,Ao,co⟩ a w=>Slots a 106 [(1,.int .i64 sh),(2,.pointer (some ⟨b1,0,none⟩)),(5,.bool true),(6,.pointer (some ⟨db9,0,none⟩)),(7,.pointer (some ⟨z10,0,none⟩)),(9,.pointer (some ⟨b11,0,none⟩)),(10,.int .i64 ((i:Nat):Int)),(106,undef)]/\Sat w (blk b1 (.cells #[.int .i64 (gn),.slice A6 (gl.length) c7] 24)::row 61 3 (.slice A6 (gl.length) c7) (gl.length) (ecells (gl))::blk b11 (.cells #[.int .i64 (gn),.slice Ao ((Sh.wcat gn sh gl i).length) co] 24)::row 61 3 (.slice Ao ((Sh.wcat gn sh gl i).length) co) ((Sh.wcat gn sh gl i).length) (ecells (Sh.wcat gn sh gl i))::swR db9 z10 ww::diskR db9 dd::fr)/\((i:Int)<=sh/\Sh.Sw12 gn sh gl i dd ww)) (fun ⟨i,dd,ww,Ao,co⟩=>sh.toNat - i) (0,d3,w0,none,0) ⟨S.sub ⟨rfl,rfl,rfl,rfl,rfl,rfl,rfl,rfl,trivial⟩,pk [5,4,1,0,2,3] 6 H,⟨by omega,hT0⟩⟩ (fun ⟨i,dd,ww,Ao,co⟩ a w hI=>?_)
  obtain ⟨S,H,hI⟩:=hI
  obtain ⟨hish,hT⟩:=hI
  have cT:=hT.rd.cnt
  have hwl:=Sh.wcat_len fe hp fg (i:=i) (by omega)
  refine r_seq ?_
  refine sr 3 S H t0 fun a w S H=>?_
  refine r_test S rfl (fun h54=>?_) (fun h54=>?_)
  · skip
    refine wp_skip ?_
    refine x_then ?_
    refine r_seq ?_
    refine r_block ?_
    obtain ⟨dq,wb,eb,tb⟩:=hT.next fe hp fg (by omega)
    have hw2:=Sh.wcat_len fe hp fg (i:=i+1) (by omega)
    rw [Sh.wcat_succ,List.length_append] at hw2
    refine sb ?_
    refine rn 1 S H t0 fun a w S H=>?_
    refine r_call (args:=#[.pointer (some ⟨z10,0,none⟩)]) S rfl rfl Tryz.call15 (snext_ct (H:=(pk [4,5,0,1,2,3] 6 H)) _ _ db9 z10 ww dd (by omega)) rfl rfl rfl fun v a w hR S=>?_
    obtain ⟨A12,c13,rfl,H⟩:=hR
    rw [eb] at S H
    dsimp only at S H
    refine rs 7 S H t0 fun a w S H=>?_
    refine r_seq ?_
    refine sb ?_
    refine rn 5 S H t0 fun a w S H=>?_
    have S:=S.retell (v':=.bool false) 67 rfl rfl
    refine rs 1 S H t0 fun a w S H=>?_
    refine r_condF S rfl ?_
    refine wp_skip ?_
    refine x_then ?_
    refine r_region ?_
    refine rn 3 S H t0 fun a w S H=>?_
    refine r_appendS (L':=fun A14 c15=>row 61 3 (.slice A12 ((Sh.winOf gn sh gl i).length) c13) ((Sh.winOf gn sh gl i).length) (ecells ((Sh.winOf gn sh gl i)))::swR db9 z10 wb::diskR db9 dq::blk b1 (.cells #[.int .i64 (gn),.slice A6 (gl.length) c7] 24)::row 61 3 (.slice A6 (gl.length) c7) (gl.length) (ecells (gl))::blk b11 (.cells #[.int .i64 (gn),.slice Ao ((Sh.wcat gn sh gl i).length) co] 24)::row 61 3 (.slice A14 ((Sh.wcat gn sh gl i).length+(Sh.winOf gn sh gl i).length) c15) ((Sh.wcat gn sh gl i).length+(Sh.winOf gn sh gl i).length) (ecells ((Sh.wcat gn sh gl i)++(Sh.winOf gn sh gl i)))::fr) (xs':=ecells ((Sh.wcat gn sh gl i)++(Sh.winOf gn sh gl i))) 6 S H rfl rfl rfl rfl el22 (SlOk.ofRow (i:=0) H rfl) (one_ecells _) (by simp only [maxLen];first | omega | (simp<;>omega)) (by first | omega | (simp<;>omega)) (ecells_app (Sh.wcat gn sh gl i) (Sh.winOf gn sh gl i)) (by first | omega | (simp<;>omega)) (fun _ _=>rfl) rfl rfl rfl fun a w A14 c15 hA14 S H=>?_
    refine rn 2 S H t0 fun a w S H=>?_
    refine r_nil ?_
    refine x_blockEnd ?_
    refine x_then ?_
    refine er 3 S H (by omega) fun a w S H=>?_
    refine x_then ?_
    have e:(Sh.wcat gn sh gl (i+1))=(Sh.wcat gn sh gl i)++(Sh.winOf gn sh gl i):=Sh.wcat_succ _ _ _ _
    have el:(Sh.wcat gn sh gl (i+1)).length=(Sh.wcat gn sh gl i).length+(Sh.winOf gn sh gl i).length:=by rw [e];simp
    have H:=pk [3,4,5,6,1,2] 7 H
    rw [<-e,<-el] at H
    exact ⟨(i+1,dq,wb,A14,c15),⟨S.sub ⟨rfl,rfl,rfl,rfl,rfl,rfl,rfl,rfl,trivial⟩,H,⟨by omega,tb⟩⟩,by show sh.toNat - (i+1) < sh.toNat - i;omega⟩
  refine wp_exit ?_
  refine x_thenExit ?_
  refine x_thenExit ?_
  refine x_blockHere ?_
  refine x_then ?_
  refine sb ?_
  refine rn 2 S H t0 fun a w S H=>?_
  refine r_y S H (y_build (vs:=#[(0,.int .i64 (gn))]) (v:=.agg #[.int .i64 (gn),.slice none 0 0]) S rfl rfl (fun w=>by kernel_rfl)) rfl rfl rfl fun a S=>?_
  refine r_alloc S H rfl Tryz.zeroValue24 rfl rfl rfl rfl fun a w b16 S H=>?_
  replace H:Sat _ (blk b16 (.cells #[.int .i64 0,.slice none 0 0] 24)::blk b1 (.cells #[.int .i64 (gn),.slice A6 (gl.length) c7] 24)::row 61 3 (.slice A6 (gl.length) c7) (gl.length) (ecells (gl))::blk b11 (.cells #[.int .i64 (gn),.slice Ao ((Sh.wcat gn sh gl i).length) co] 24)::row 61 3 (.slice Ao ((Sh.wcat gn sh gl i).length) co) ((Sh.wcat gn sh gl i).length) (ecells (Sh.wcat gn sh gl i))::swR db9 z10 ww::diskR db9 dd::fr):=H
  refine rs 1 S H t0 fun a w S H=>?_
  refine r_seq ?_
  refine sr 1 S H t0 fun a w S H=>?_
  refine r_block ?_
  have H:=H.nilRow 61 3
  refine r_loop (ι:=Nat×Dk.Disk×Option Addr×Nat) (fun ⟨j,de,Ap,cp⟩ a w=>Slots a 106 [(1,.int .i64 sh),(2,.pointer (some ⟨b1,0,none⟩)),(5,.bool true),(6,.pointer (some ⟨db9,0,none⟩)),(9,.pointer (some ⟨b11,0,none⟩)),(14,.pointer (some ⟨b16,0,none⟩)),(15,.int .i64 ((j:Nat):Int)),(106,undef)]/\Sat w (blk b1 (.cells #[.int .i64 (gn),.slice A6 (gl.length) c7] 24)::row 61 3 (.slice A6 (gl.length) c7) (gl.length) (ecells (gl))::blk b11 (.cells #[.int .i64 (gn),.slice Ao ((Sh.wcat gn sh gl i).length) co] 24)::row 61 3 (.slice Ao ((Sh.wcat gn sh gl i).length) co) ((Sh.wcat gn sh gl i).length) (ecells (Sh.wcat gn sh gl i))::blk b16 (.cells #[.int .i64 (gn),.slice Ap ((Sh.ocat gn sh gl j).length) cp] 24)::row 61 3 (.slice Ap ((Sh.ocat gn sh gl j).length) cp) ((Sh.ocat gn sh gl j).length) (ecells (Sh.ocat gn sh gl j))::diskR db9 de::fr)/\((j:Int)<=sh/\Sh.Rd12 gn sh gl de)) (fun ⟨j,de,Ap,cp⟩=>sh.toNat - j) (0,dd,none,0) ⟨S.sub ⟨rfl,rfl,rfl,rfl,rfl,rfl,rfl,rfl,trivial⟩,pk [2,3,4,5,1,0,7] 8 H,⟨by omega,hT.rd⟩⟩ (fun ⟨j,de,Ap,cp⟩ a w hI=>?_)
  obtain ⟨S,H,hI⟩:=hI
  obtain ⟨hjsh,hU⟩:=hI
  have cU:=hU.cnt
  have hol:=Sh.ocat_len fe hp fg (i:=j) (by omega)
  refine r_seq ?_
  refine sr 3 S H t0 fun a w S H=>?_
  refine r_test S rfl (fun h79=>?_) (fun h79=>?_)
  · skip
    refine wp_skip ?_
    refine x_then ?_
    refine r_seq ?_
    refine r_block ?_
    obtain ⟨da,ea,ta⟩:=hU.read fe (j:=j) (by omega)
    have ho2:=Sh.ocat_len fe hp fg (i:=j+1) (by omega)
    rw [Sh.ocat_succ,List.length_append] at ho2
    refine sb ?_
    refine rn 2 S H t0 fun a w S H=>?_
    refine r_call (args:=#[.pointer (some ⟨db9,0,none⟩),.int .i64 ((j:Nat):Int)]) S rfl rfl Tryz.call16 (shread_ct (H:=(pk [6,0,1,2,3,4,5] 7 H)) _ _ (hl.via fun _ H=>H.drop.drop.drop.drop.drop.drop) db9 j de (by omega) (by omega)) rfl rfl rfl fun v a w hR S=>?_
    obtain ⟨A17,c18,rfl,H⟩:=hR
    rw [ea] at S H
    dsimp only at S H
    refine rs 5 S H t0 fun a w S H=>?_
    refine r_seq ?_
    refine sr 2 S H t0 fun a w S H=>?_
    have S:=S.retell (v':=.bool false) 89 rfl rfl
    refine r_condF S rfl ?_
    refine wp_skip ?_
    refine x_then ?_
    refine r_region ?_
    refine rn 3 S H t0 fun a w S H=>?_
    refine r_appendS (L':=fun A19 c20=>row 61 3 (.slice A17 ((Sh.edgesOf gn sh gl j).length) c18) ((Sh.edgesOf gn sh gl j).length) (ecells ((Sh.edgesOf gn sh gl j)))::diskR db9 da::blk b1 (.cells #[.int .i64 (gn),.slice A6 (gl.length) c7] 24)::row 61 3 (.slice A6 (gl.length) c7) (gl.length) (ecells (gl))::blk b11 (.cells #[.int .i64 (gn),.slice Ao ((Sh.wcat gn sh gl i).length) co] 24)::row 61 3 (.slice Ao ((Sh.wcat gn sh gl i).length) co) ((Sh.wcat gn sh gl i).length) (ecells (Sh.wcat gn sh gl i))::blk b16 (.cells #[.int .i64 (gn),.slice Ap ((Sh.ocat gn sh gl j).length) cp] 24)::row 61 3 (.slice A19 ((Sh.ocat gn sh gl j).length+(Sh.edgesOf gn sh gl j).length) c20) ((Sh.ocat gn sh gl j).length+(Sh.edgesOf gn sh gl j).length) (ecells ((Sh.ocat gn sh gl j)++(Sh.edgesOf gn sh gl j)))::fr) (xs':=ecells ((Sh.ocat gn sh gl j)++(Sh.edgesOf gn sh gl j))) 7 S H rfl rfl rfl rfl el22 (SlOk.ofRow (i:=0) H rfl) (one_ecells _) (by simp only [maxLen];first | omega | (simp<;>omega)) (by first | omega | (simp<;>omega)) (ecells_app (Sh.ocat gn sh gl j) (Sh.edgesOf gn sh gl j)) (by first | omega | (simp<;>omega)) (fun _ _=>rfl) rfl rfl rfl fun a w A19 c20 hA19 S H=>?_
    refine rn 2 S H t0 fun a w S H=>?_
    refine r_nil ?_
    refine x_blockEnd ?_
    refine x_then ?_
    refine er 3 S H (by omega) fun a w S H=>?_
    refine x_then ?_
    have e:(Sh.ocat gn sh gl (j+1))=(Sh.ocat gn sh gl j)++(Sh.edgesOf gn sh gl j):=Sh.ocat_succ _ _ _ _
    have el:(Sh.ocat gn sh gl (j+1)).length=(Sh.ocat gn sh gl j).length+(Sh.edgesOf gn sh gl j).length:=by rw [e];simp
    have H:=pk [2,3,4,5,6,7,1] 8 H
    rw [<-e,<-el] at H
    exact ⟨(j+1,da,A19,c20),⟨S.sub ⟨rfl,rfl,rfl,rfl,rfl,rfl,rfl,rfl,trivial⟩,H,⟨by omega,ta⟩⟩,by show sh.toNat - (j+1) < sh.toNat - j;omega⟩
  refine wp_exit ?_
  refine x_thenExit ?_
  refine x_thenExit ?_
  refine x_blockHere ?_
  refine x_then ?_
  have hw1:=Sh.wcat_same fe hp fg (i:=i) (by omega)
  have ho1:=Sh.ocat_same fe hp fg (i:=j) (by omega)
  refine sb ?_
  refine rn 4 S H t0 fun a w S H=>?_
  refine r_call (args:=#[.agg #[.int .i64 (gn),.slice Ao ((Sh.wcat gn sh gl i).length) co],.agg #[.int .i64 (gn),.slice A6 (gl.length) c7]]) S rfl rfl Tryz.call17 (same2_ct (H:=H) _ _ gn gn Ao co (Sh.wcat gn sh gl i) (SlOk.ofRow (i:=3) H rfl) (hw1.1) A6 c7 gl (okg.via fun _ H=>Sat.only (pk [1] 7 H)) (fe) (by omega) (by omega)) rfl rfl rfl fun v a w hR S=>?_
  obtain ⟨rfl,H⟩:=hR
  have S:=S.retell (v':=.bool true) 99 rfl (by rw [decide_eq_true ⟨rfl,hw1.2⟩])
  refine rn 4 S H t0 fun a w S H=>?_
  refine r_call (args:=#[.agg #[.int .i64 (gn),.slice Ap ((Sh.ocat gn sh gl j).length) cp],.agg #[.int .i64 (gn),.slice A6 (gl.length) c7]]) S rfl rfl Tryz.call17 (same2_ct (H:=H) _ _ gn gn Ap cp (Sh.ocat gn sh gl j) (SlOk.ofRow (i:=5) H rfl) (ho1.1) A6 c7 gl (okg.via fun _ H=>Sat.only (pk [1] 7 H)) (fe) (by omega) (by omega)) rfl rfl rfl fun v a w hR S=>?_
  obtain ⟨rfl,H⟩:=hR
  have S:=S.retell (v':=.bool true) 104 rfl (by rw [decide_eq_true ⟨rfl,ho1.2⟩])
  refine rs 2 S H t0 fun a w S H=>?_
  refine wp_ret ?_
  refine r_ret1 S H Tryz.results3 (ro_tmp S rfl) ?_
  exact ⟨rfl,H.drop.drop.drop.drop.drop.drop.drop⟩

end Go.Proofs.YtoffbmhmocfmnaaGreatDoor
