/- Walks of functions of the program, over slots and resources. No condition. -/
import Derived.Test.YtoffbmhmocfmnaaGreatDoorKVax
namespace Go.Proofs.YtoffbmhmocfmnaaGreatDoor
open Go.RowKit Go.Cg
set_option linter.unusedVariables false
set_option linter.unusedSimpArgs false
set_option maxRecDepth 8000
set_option synthInstance.maxHeartbeats 1000000
set_option synthInstance.maxSize 1000000
open Go.Cg.Dk (By Nm)
open Go.Cg.Rn (R Bd)
open Go.Cg.Tr (E)
open Go.Cg.Sh (Cur Sw)
theorem law_down (w:World) (fr:List Res) (hl:Laid fr) (n:Int) (A:Option Addr) (c:Nat) (es:List E) (ok:SlOk fr 3 A es.length c (ecells es)) (hes:Sh.E32 es) (a1:Int) (A2:Option Addr) (n2 c2:Nat) (kk:List Bool) (ok2:SlOk fr 1 A2 n2 c2 (bools kk)) (H:Sat w (fr)):
    Rt Tryz.prog 9 #[.agg #[.int .i64 n,.slice A es.length c],.int .i64 a1,.slice A2 n2 c2] w fun v w'=>v=.bool true/\Sat w' fr:=by
  refine en3 Tryz.func9 rfl Tryz.ntmps9 rfl fun a S=>?_
  have hcap:=ok.le
  have hmax:c<=9223372036854775807:=ok.cap
  obtain rfl:n2=kk.length:=by have:=ok2.len;simp at this;omega
  have hcp2:=ok2.le
  have hcq2:=ok2.cap
  simp only [maxLen] at hcq2
  refine sb ?_
  refine r_box (c:=#[.int .i64 n,.slice A es.length c]) S H rfl rfl rfl rfl rfl rfl fun a w b1 S H=>?_
  refine rs 1 S H t0 fun a w S H=>?_
  refine sb ?_
  refine r_call (args:=#[]) S rfl rfl Tryz.call10 (shown_ct (H:=H) _ _ (hl.via fun _ H=>H.drop)) rfl rfl rfl fun v a w hR S=>?_
  obtain ⟨rfl,H⟩:=hR
  refine rs 1 S H t0 fun a w S H=>?_
  refine sb ?_
  refine rn 1 S H t0 fun a w S H=>?_
  refine r_call (args:=#[.agg #[.int .i64 n,.slice A es.length c]]) S rfl rfl Tryz.call11 (few_ct (H:=H) _ _ n A c es (ok.more _) (hes)) rfl rfl rfl fun v a w hR S=>?_
  obtain ⟨A6,c7,rfl,H⟩:=hR
  obtain ⟨f0,f60,fl,fg,fsub⟩:=Tr.few_facts (n:=n) (es:=es)
  have fe:Sh.E32 (Tr.few n es).2:=fun e he=>hes e (fsub e he)
  obtain ⟨gn,hgn⟩:∃y,y=(Tr.few n es).1:=⟨_,rfl⟩
  obtain ⟨gl,hgl⟩:∃y,y=(Tr.few n es).2:=⟨_,rfl⟩
  rw [<-hgl] at S H fl fg fe
  rw [<-hgn] at S f0 f60 fg
  have HI_okg:=Sat.only (pk [0] 2 H)
  have okg:=SlOk.ofRow (i:=0) HI_okg rfl
  refine rs 1 S H t0 fun a w S H=>?_
  refine sb ?_
  refine rn 1 S H t0 fun a w S H=>?_
  refine r_y S H (y_bitop S rfl rfl rfl (fun w=>maskL 16 65536 65535 (by decide) (by decide) (by decide) a1 w)) rfl rfl rfl fun a S=>?_
  refine r_y S H (y_remN S rfl rfl rfl (by omega) (by omega)) rfl rfl rfl fun a S=>?_
  refine r_y S H (y_add S rfl rfl rfl (wi64 (by omega) (by omega))) rfl rfl rfl fun a S=>?_
  obtain ⟨an,han⟩:∃x:Nat,((x:Nat):Int)=1+a1%65536%150:=⟨(1+a1%65536%150).toNat,by omega⟩
  have S:=S.retell (v':=.int .i64 ((an:Nat):Int)) 24 rfl (by rw [han])
  have hanb:an<=150:=by omega
  refine rs 1 S H t0 fun a w S H=>?_
  refine sb ?_
  refine rn 3 S H t0 fun a w S H=>?_
  refine r_y S H (y_min S rfl rfl rfl) rfl rfl rfl fun a S=>?_
  obtain ⟨Kkp,hKkp⟩:∃K:Nat,((K:Nat):Int)=min ((kk.length:Nat):Int) 60:=⟨min kk.length 60,by omega⟩
  have S:=S.retell (v':=.int .i64 ((Kkp:Nat):Int)) 28 rfl (by rw [hKkp])
  refine r_y S H (y_sliceH (k:=Kkp) S rfl rfl rfl Tryz.underlying56 Tryz.sizeOf4 (by first | omega | (simp<;>omega)) (by first | omega | (simp<;>omega))) rfl rfl rfl fun a S=>?_
  have hcapkp:=ok2.le
  obtain ⟨kp,hkp⟩:∃x,x=kk.take Kkp:=⟨_,rfl⟩
  have hlkp:kp.length=Kkp:=by rw [hkp];simp;omega
  have okkp:SlOk fr 1 (shift A2 0 (decide (c2=0))) kp.length c2 (bools kp):=by rw [hlkp,hkp];exact bools_take kk Kkp▸ok2.init Kkp (by omega)
  have S:=S.retell (v':=.slice (shift A2 0 (decide (c2=0))) kp.length c2) 29 rfl (by rw [hlkp])
  refine rs 1 S H t0 fun a w S H=>?_
  refine sb ?_
  refine r_call (args:=#[.int .i64 10000]) S rfl rfl Tryz.call12 (new_ct (H:=H) _ _ 10000 (by omega)) rfl rfl rfl fun v a w hR S=>?_
  obtain ⟨db9,rfl,H⟩:=hR
  have hp:Oc.part gn 3=true:=Sh.part_few f0 f60 (by decide) (by decide)
  obtain ⟨d2,e,e2,hd2r,hed⟩:=Sh.down12_plan fe f0 f60 fg fl an kp
  refine rs 1 S H t0 fun a w S H=>?_
  refine r_seq ?_
  refine sr 2 S H t0 fun a w S H=>?_
  refine r_condF S rfl ?_
  refine wp_skip ?_
  refine x_then ?_
  refine sb ?_
  refine rn 3 S H t0 fun a w S H=>?_
  refine r_call (args:=#[.pointer (some ⟨db9,0,none⟩),.int .i64 ((an:Nat):Int),.slice (shift A2 0 (decide (c2=0))) kp.length c2]) S rfl rfl Tryz.call31 (arm_ct (H:=H) _ _ db9 (Dk.fresh 10000) ((an:Nat):Int) (by omega) _ _ kp (okkp.via fun _ H=>H.drop.drop) (by first | omega | simp)) rfl rfl rfl fun v a w hR S=>?_
  obtain ⟨rfl,H⟩:=hR
  refine sn ?_
  refine sb ?_
  refine rn 2 S H t0 fun a w S H=>?_
  refine r_call (args:=#[.pointer (some ⟨db9,0,none⟩),.agg #[.int .i64 (gn),.slice A6 (gl.length) c7],.int .i64 3,.int .i64 4]) S rfl rfl Tryz.call13 (build_ct (H:=H) _ _ (hl.via fun _ H=>H.drop.drop) db9 gn A6 c7 gl (okg.via fun _ H=>Sat.only (pk [0] 2 H)) fe 3 4 (Dk.Disk.arm ((an:Nat):Int) kp (Dk.fresh 10000)) (by show 0<=_;omega) (by decide)) rfl rfl rfl fun v a w hR S=>?_
  obtain ⟨rfl,H,hcB⟩:=hR
  have hok2:=H.diskOk
  rw [e2] at hok2
  replace hok2:d2.Ok:=hok2
  rw [e2] at hcB
  have hcn2:d2.files.length<=0+4*gl.length+30000:=hcB
  obtain ⟨d3,ns,e3,hR0,hnl,hc3⟩:=Sh.Rm12.start hok2 hd2r
  rw [e2] at S H
  dsimp only at S H
  refine rs 1 S H t0 fun a w S H=>?_
  refine r_seq ?_
  rcases hed with ⟨he,hdw⟩ | ⟨he,hdw⟩
  · skip
    have S:=S.retell (v':=.int .i64 7) 9 rfl (by rw [he];rfl)
    refine sb ?_
    refine rn 2 S H t0 fun a w S H=>?_
    have S:=S.retell (v':=.bool true) 41 rfl rfl
    refine rn 1 S H t0 fun a w S H=>?_
    refine r_call (args:=#[.pointer (some ⟨db9,0,none⟩)]) S rfl rfl Tryz.call32 (isdown_ct (H:=H) _ _ db9 d2) rfl rfl rfl fun v a w hR S=>?_
    obtain ⟨rfl,H⟩:=hR
    have S:=S.retell (v':=.bool true) 43 rfl (by rw [hdw])
    refine r_y S H (y_neB S rfl rfl rfl Tryz.underlying4) rfl rfl rfl fun a S=>?_
    have S:=S.retell (v':=.bool false) 44 rfl (by rfl)
    refine rn 3 S H t0 fun a w S H=>?_
    have S:=S.retell (v':=.bool true) 47 rfl rfl
    refine rn 3 S H t0 fun a w S H=>?_
    have S:=S.retell (v':=.bool false) 50 rfl rfl
    refine rs 2 S H t0 fun a w S H=>?_
    refine r_condF S rfl ?_
    refine wp_skip ?_
    refine x_then ?_
    refine sb ?_
    refine rn 1 S H t0 fun a w S H=>?_
    refine r_call (args:=#[.pointer (some ⟨db9,0,none⟩),.int .i64 0,.slice none 0 0]) S rfl rfl Tryz.call31 (arm_ct (H:=H) _ _ db9 d2 0 (by decide) _ _ ([]) (okNil _) (by first | omega | simp)) rfl rfl rfl fun v a w hR S=>?_
    obtain ⟨rfl,H⟩:=hR
    refine sn ?_
    refine sr 2 S H (by omega) fun a w S H=>?_
    refine sb ?_
    refine rn 1 S H t0 fun a w S H=>?_
    refine r_call (args:=#[.pointer (some ⟨db9,0,none⟩)]) S rfl rfl Tryz.call23 (list_ct (H:=H) _ _ db9 (Dk.Disk.restart (Dk.Disk.arm 0 ([]) d2)) (by show d2.files.length<=_;omega)) rfl rfl rfl fun v a w hR S=>?_
    obtain ⟨A10,c11,rfl,H⟩:=hR
    rw [e3] at S H
    dsimp only at S H
    refine rs 5 S H t0 fun a w S H=>?_
    refine r_seq ?_
    refine sr 2 S H t0 fun a w S H=>?_
    have S:=S.retell (v':=.bool false) 63 rfl rfl
    refine r_condF S rfl ?_
    refine wp_skip ?_
    refine x_then ?_
    refine r_seq ?_
    refine sr 1 S H t0 fun a w S H=>?_
    refine r_block ?_
    refine r_loop (ι:=Nat×Dk.Disk) (fun ⟨i,dd⟩ a w=>Slots a 110 [(3,.pointer (some ⟨b1,0,none⟩)),(7,.bool true),(8,.pointer (some ⟨db9,0,none⟩)),(10,.slice A10 (ns.length) c11),(12,.int .i64 ((i:Nat):Int)),(110,undef)]/\Sat w (blk b1 (.cells #[.int .i64 (gn),.slice A6 (gl.length) c7] 24)::row 61 3 (.slice A6 (gl.length) c7) (gl.length) (ecells (gl))::row 9 1 (.slice A10 (ns.length) c11) (ns.length) (strs ns)::diskR db9 dd::fr)/\(i<=ns.length/\Sh.Rm12 ns i dd/\dd.files.length<=1000000)) (fun ⟨i,dd⟩=>ns.length - i) (0,d3) ⟨S.sub ⟨rfl,rfl,rfl,rfl,rfl,rfl,trivial⟩,pk [3,2,1,0] 4 H,⟨Nat.zero_le _,hR0,by omega⟩⟩ (fun ⟨i,dd⟩ a w hI=>?_)
    obtain ⟨S,H,hI⟩:=hI
    obtain ⟨hin,hR,hcd⟩:=hI
    refine r_seq ?_
    refine sr 4 S H t0 fun a w S H=>?_
    refine r_test S rfl (fun h67=>?_) (fun h67=>?_)
    · skip
      refine wp_skip ?_
      refine x_then ?_
      refine r_seq ?_
      refine r_block ?_
      obtain ⟨de,erm,tr,hcn⟩:=hR.step (by omega)
      refine sb ?_
      refine rn 3 S H t0 fun a w S H=>?_
      obtain ⟨b12,rfl⟩:=H.rowAt (i:=2) rfl (by first | omega | (simp<;>omega))
      refine r_y S H (y_index S rfl rfl rfl Tryz.underlying46 Tryz.sizeOf9 (by omega) (by omega)) rfl rfl rfl fun a S=>?_
      refine r_y S H (y_loadAt S rfl rfl Tryz.isAgg9 (fun w H=>(SlOk.ofRow (i:=2) H rfl).cell w H (strs_at (i:=i) (by first | omega | (simp<;>omega))))) rfl rfl rfl fun a S=>?_
      refine r_call (args:=#[.pointer (some ⟨db9,0,none⟩),str (ns.getD i [])]) S rfl rfl Tryz.call18 (remove_ct (H:=(pk [3,0,1,2] 4 H)) _ _ db9 dd (ns.getD i []) (by omega)) rfl rfl rfl fun v a w hR S=>?_
      obtain ⟨rfl,H⟩:=hR
      rw [erm] at S H
      dsimp only at S H
      refine rs 1 S H t0 fun a w S H=>?_
      have S:=S.retell (v':=.bool false) 76 rfl rfl
      refine r_condF S rfl ?_
      refine wp_skip ?_
      refine x_blockEnd ?_
      refine x_then ?_
      refine er 3 S H (by omega) fun a w S H=>?_
      refine x_then ?_
      have H:=pk [1,2,3,0] 4 H
      exact ⟨(i+1,de),⟨S.sub ⟨rfl,rfl,rfl,rfl,rfl,rfl,trivial⟩,H,⟨by omega,tr,by omega⟩⟩,by show ns.length - (i+1) < ns.length - i;omega⟩
    refine wp_exit ?_
    refine x_thenExit ?_
    refine x_thenExit ?_
    refine x_blockHere ?_
    refine x_then ?_
    obtain ⟨d4,e4,hU0,hc4⟩:=hR.again (by omega) fe f0 f60 fg fl
    refine sb ?_
    refine rn 2 S H t0 fun a w S H=>?_
    refine r_call (args:=#[.pointer (some ⟨db9,0,none⟩),.agg #[.int .i64 (gn),.slice A6 (gl.length) c7],.int .i64 3,.int .i64 4]) S rfl rfl Tryz.call13 (build_ct (H:=(pk [3,0,1,2] 4 H)) _ _ (hl.via fun _ H=>H.drop.drop.drop) db9 gn A6 c7 gl (okg.via fun _ H=>Sat.only (pk [1] 3 H)) fe 3 4 dd (by omega) (by decide)) rfl rfl rfl fun v a w hR S=>?_
    obtain ⟨rfl,H,hcB⟩:=hR
    rw [e4] at S H
    dsimp only at S H
    refine rs 1 S H t0 fun a w S H=>?_
    refine sb ?_
    refine rn 2 S H t0 fun a w S H=>?_
    refine r_y S H (y_build (vs:=#[(0,.int .i64 (gn))]) (v:=.agg #[.int .i64 (gn),.slice none 0 0]) S rfl rfl (fun w=>by kernel_rfl)) rfl rfl rfl fun a S=>?_
    refine r_alloc S H rfl Tryz.zeroValue24 rfl rfl rfl rfl fun a w b14 S H=>?_
    replace H:Sat _ (blk b14 (.cells #[.int .i64 0,.slice none 0 0] 24)::diskR db9 d4::blk b1 (.cells #[.int .i64 (gn),.slice A6 (gl.length) c7] 24)::row 61 3 (.slice A6 (gl.length) c7) (gl.length) (ecells (gl))::row 9 1 (.slice A10 (ns.length) c11) (ns.length) (strs ns)::fr):=H
    refine rs 1 S H t0 fun a w S H=>?_
    refine r_seq ?_
    refine sr 1 S H t0 fun a w S H=>?_
    refine r_block ?_
    have H:=H.nilRow 61 3
    refine r_loop (ι:=Nat×Dk.Disk×Option Addr×Nat) (fun ⟨j,df,Ap,cp⟩ a w=>Slots a 110 [(3,.pointer (some ⟨b1,0,none⟩)),(7,.bool true),(8,.pointer (some ⟨db9,0,none⟩)),(13,.int .i64 0),(14,.pointer (some ⟨b14,0,none⟩)),(15,.int .i64 ((j:Nat):Int)),(110,undef)]/\Sat w (blk b1 (.cells #[.int .i64 (gn),.slice A6 (gl.length) c7] 24)::row 61 3 (.slice A6 (gl.length) c7) (gl.length) (ecells (gl))::blk b14 (.cells #[.int .i64 (gn),.slice Ap ((Sh.ocat gn 3 gl j).length) cp] 24)::row 61 3 (.slice Ap ((Sh.ocat gn 3 gl j).length) cp) ((Sh.ocat gn 3 gl j).length) (ecells (Sh.ocat gn 3 gl j))::diskR db9 df::fr)/\(j<=3/\Sh.Rd12 gn 3 gl df)) (fun ⟨j,df,Ap,cp⟩=>3 - j) (0,d4,none,0) ⟨S.sub ⟨rfl,rfl,rfl,rfl,rfl,rfl,rfl,trivial⟩,pk [3,4,1,0,2] 6 H,⟨by omega,hU0⟩⟩ (fun ⟨j,df,Ap,cp⟩ a w hI=>?_)
    obtain ⟨S,H,hI⟩:=hI
    obtain ⟨hj3,hU⟩:=hI
    have h33:(3:Int).toNat=3:=rfl
    have cU:=hU.cnt
    have hol:=Sh.ocat_len fe hp fg (i:=j) (by omega)
    refine r_seq ?_
    refine sr 2 S H t0 fun a w S H=>?_
    refine r_test S rfl (fun h84=>?_) (fun h84=>?_)
    · skip
      refine wp_skip ?_
      refine x_then ?_
      refine r_seq ?_
      refine r_block ?_
      obtain ⟨da,ea,ta⟩:=hU.read fe (j:=j) (by omega)
      have ho2:=Sh.ocat_len fe hp fg (i:=j+1) (by omega)
      rw [Sh.ocat_succ,List.length_append] at ho2
      refine sb ?_
      refine rn 2 S H t0 fun a w S H=>?_
      refine r_call (args:=#[.pointer (some ⟨db9,0,none⟩),.int .i64 ((j:Nat):Int)]) S rfl rfl Tryz.call16 (shread_ct (H:=(pk [4,0,1,2,3] 5 H)) _ _ (hl.via fun _ H=>H.drop.drop.drop.drop) db9 j df (by omega) (by omega)) rfl rfl rfl fun v a w hR S=>?_
      obtain ⟨A15,c16,rfl,H⟩:=hR
      rw [ea] at S H
      dsimp only at S H
      refine rs 5 S H t0 fun a w S H=>?_
      refine r_seq ?_
      refine sr 2 S H t0 fun a w S H=>?_
      have S:=S.retell (v':=.bool false) 94 rfl rfl
      refine r_condF S rfl ?_
      refine wp_skip ?_
      refine x_then ?_
      refine r_region ?_
      refine rn 3 S H t0 fun a w S H=>?_
      refine r_appendS (L':=fun A17 c18=>row 61 3 (.slice A15 ((Sh.edgesOf gn 3 gl j).length) c16) ((Sh.edgesOf gn 3 gl j).length) (ecells ((Sh.edgesOf gn 3 gl j)))::diskR db9 da::blk b1 (.cells #[.int .i64 (gn),.slice A6 (gl.length) c7] 24)::row 61 3 (.slice A6 (gl.length) c7) (gl.length) (ecells (gl))::blk b14 (.cells #[.int .i64 (gn),.slice Ap ((Sh.ocat gn 3 gl j).length) cp] 24)::row 61 3 (.slice A17 ((Sh.ocat gn 3 gl j).length+(Sh.edgesOf gn 3 gl j).length) c18) ((Sh.ocat gn 3 gl j).length+(Sh.edgesOf gn 3 gl j).length) (ecells ((Sh.ocat gn 3 gl j)++(Sh.edgesOf gn 3 gl j)))::fr) (xs':=ecells ((Sh.ocat gn 3 gl j)++(Sh.edgesOf gn 3 gl j))) 5 S H rfl rfl rfl rfl el22 (SlOk.ofRow (i:=0) H rfl) (one_ecells _) (by simp only [maxLen];first | omega | (simp<;>omega)) (by first | omega | (simp<;>omega)) (ecells_app (Sh.ocat gn 3 gl j) (Sh.edgesOf gn 3 gl j)) (by first | omega | (simp<;>omega)) (fun _ _=>rfl) rfl rfl rfl fun a w A17 c18 hA17 S H=>?_
      refine rn 2 S H t0 fun a w S H=>?_
      refine r_nil ?_
      refine x_blockEnd ?_
      refine x_then ?_
      refine er 3 S H (by omega) fun a w S H=>?_
      refine x_then ?_
      have e:(Sh.ocat gn 3 gl (j+1))=(Sh.ocat gn 3 gl j)++(Sh.edgesOf gn 3 gl j):=Sh.ocat_succ _ _ _ _
      have el:(Sh.ocat gn 3 gl (j+1)).length=(Sh.ocat gn 3 gl j).length+(Sh.edgesOf gn 3 gl j).length:=by rw [e];simp
      have H:=pk [2,3,4,5,1] 6 H
      rw [<-e,<-el] at H
      exact ⟨(j+1,da,A17,c18),⟨S.sub ⟨rfl,rfl,rfl,rfl,rfl,rfl,rfl,trivial⟩,H,⟨by omega,ta⟩⟩,by show 3 - (j+1) < 3 - j;omega⟩
    refine wp_exit ?_
    refine x_thenExit ?_
    refine x_thenExit ?_
    refine x_blockHere ?_
    refine x_then ?_
    have ho1:=Sh.ocat_same fe hp fg (i:=j) (by omega)
    refine sb ?_
    refine rn 4 S H t0 fun a w S H=>?_
    have S:=S.retell (v':=.bool true) 103 rfl rfl
    refine rn 4 S H t0 fun a w S H=>?_
    refine r_call (args:=#[.agg #[.int .i64 (gn),.slice Ap ((Sh.ocat gn 3 gl j).length) cp],.agg #[.int .i64 (gn),.slice A6 (gl.length) c7]]) S rfl rfl Tryz.call17 (same2_ct (H:=H) _ _ gn gn Ap cp (Sh.ocat gn 3 gl j) (SlOk.ofRow (i:=3) H rfl) (ho1.1) A6 c7 gl (okg.via fun _ H=>Sat.only (pk [1] 5 H)) (fe) (by omega) (by omega)) rfl rfl rfl fun v a w hR S=>?_
    obtain ⟨rfl,H⟩:=hR
    have S:=S.retell (v':=.bool true) 108 rfl (by rw [decide_eq_true ⟨rfl,ho1.2⟩])
    refine rs 2 S H t0 fun a w S H=>?_
    refine wp_ret ?_
    refine r_ret1 S H Tryz.results9 (ro_tmp S rfl) ?_
    exact ⟨rfl,H.drop.drop.drop.drop.drop⟩
  have S:=S.retell (v':=.int .i64 0) 9 rfl (by rw [he];rfl)
  refine sb ?_
  refine rn 2 S H t0 fun a w S H=>?_
  have S:=S.retell (v':=.bool false) 41 rfl rfl
  refine rn 1 S H t0 fun a w S H=>?_
  refine r_call (args:=#[.pointer (some ⟨db9,0,none⟩)]) S rfl rfl Tryz.call32 (isdown_ct (H:=H) _ _ db9 d2) rfl rfl rfl fun v a w hR S=>?_
  obtain ⟨rfl,H⟩:=hR
  have S:=S.retell (v':=.bool false) 43 rfl (by rw [hdw])
  refine r_y S H (y_neB S rfl rfl rfl Tryz.underlying4) rfl rfl rfl fun a S=>?_
  have S:=S.retell (v':=.bool false) 44 rfl (by rfl)
  refine rn 3 S H t0 fun a w S H=>?_
  have S:=S.retell (v':=.bool false) 47 rfl rfl
  refine rs 5 S H t0 fun a w S H=>?_
  refine r_condF S rfl ?_
  refine wp_skip ?_
  refine x_then ?_
  refine sb ?_
  refine rn 1 S H t0 fun a w S H=>?_
  refine r_call (args:=#[.pointer (some ⟨db9,0,none⟩),.int .i64 0,.slice none 0 0]) S rfl rfl Tryz.call31 (arm_ct (H:=H) _ _ db9 d2 0 (by decide) _ _ ([]) (okNil _) (by first | omega | simp)) rfl rfl rfl fun v a w hR S=>?_
  obtain ⟨rfl,H⟩:=hR
  refine sn ?_
  refine sr 2 S H (by omega) fun a w S H=>?_
  refine sb ?_
  refine rn 1 S H t0 fun a w S H=>?_
  refine r_call (args:=#[.pointer (some ⟨db9,0,none⟩)]) S rfl rfl Tryz.call23 (list_ct (H:=H) _ _ db9 (Dk.Disk.restart (Dk.Disk.arm 0 ([]) d2)) (by show d2.files.length<=_;omega)) rfl rfl rfl fun v a w hR S=>?_
  obtain ⟨A19,c20,rfl,H⟩:=hR
  rw [e3] at S H
  dsimp only at S H
  refine rs 5 S H t0 fun a w S H=>?_
  refine r_seq ?_
  refine sr 2 S H t0 fun a w S H=>?_
  have S:=S.retell (v':=.bool false) 63 rfl rfl
  refine r_condF S rfl ?_
  refine wp_skip ?_
  refine x_then ?_
  refine r_seq ?_
  refine sr 1 S H t0 fun a w S H=>?_
  refine r_block ?_
  refine r_loop (ι:=Nat×Dk.Disk) (fun ⟨i,dd⟩ a w=>Slots a 110 [(3,.pointer (some ⟨b1,0,none⟩)),(7,.bool true),(8,.pointer (some ⟨db9,0,none⟩)),(10,.slice A19 (ns.length) c20),(12,.int .i64 ((i:Nat):Int)),(110,undef)]/\Sat w (blk b1 (.cells #[.int .i64 (gn),.slice A6 (gl.length) c7] 24)::row 61 3 (.slice A6 (gl.length) c7) (gl.length) (ecells (gl))::row 9 1 (.slice A19 (ns.length) c20) (ns.length) (strs ns)::diskR db9 dd::fr)/\(i<=ns.length/\Sh.Rm12 ns i dd/\dd.files.length<=1000000)) (fun ⟨i,dd⟩=>ns.length - i) (0,d3) ⟨S.sub ⟨rfl,rfl,rfl,rfl,rfl,rfl,trivial⟩,pk [3,2,1,0] 4 H,⟨Nat.zero_le _,hR0,by omega⟩⟩ (fun ⟨i,dd⟩ a w hI=>?_)
  obtain ⟨S,H,hI⟩:=hI
  obtain ⟨hin,hR,hcd⟩:=hI
  refine r_seq ?_
  refine sr 4 S H t0 fun a w S H=>?_
  refine r_test S rfl (fun h67=>?_) (fun h67=>?_)
  · skip
    refine wp_skip ?_
    refine x_then ?_
    refine r_seq ?_
    refine r_block ?_
    obtain ⟨de,erm,tr,hcn⟩:=hR.step (by omega)
    refine sb ?_
    refine rn 3 S H t0 fun a w S H=>?_
    obtain ⟨b21,rfl⟩:=H.rowAt (i:=2) rfl (by first | omega | (simp<;>omega))
    refine r_y S H (y_index S rfl rfl rfl Tryz.underlying46 Tryz.sizeOf9 (by omega) (by omega)) rfl rfl rfl fun a S=>?_
    refine r_y S H (y_loadAt S rfl rfl Tryz.isAgg9 (fun w H=>(SlOk.ofRow (i:=2) H rfl).cell w H (strs_at (i:=i) (by first | omega | (simp<;>omega))))) rfl rfl rfl fun a S=>?_
    refine r_call (args:=#[.pointer (some ⟨db9,0,none⟩),str (ns.getD i [])]) S rfl rfl Tryz.call18 (remove_ct (H:=(pk [3,0,1,2] 4 H)) _ _ db9 dd (ns.getD i []) (by omega)) rfl rfl rfl fun v a w hR S=>?_
    obtain ⟨rfl,H⟩:=hR
    rw [erm] at S H
    dsimp only at S H
    refine rs 1 S H t0 fun a w S H=>?_
    have S:=S.retell (v':=.bool false) 76 rfl rfl
    refine r_condF S rfl ?_
    refine wp_skip ?_
    refine x_blockEnd ?_
    refine x_then ?_
    refine er 3 S H (by omega) fun a w S H=>?_
    refine x_then ?_
    have H:=pk [1,2,3,0] 4 H
    exact ⟨(i+1,de),⟨S.sub ⟨rfl,rfl,rfl,rfl,rfl,rfl,trivial⟩,H,⟨by omega,tr,by omega⟩⟩,by show ns.length - (i+1) < ns.length - i;omega⟩
  refine wp_exit ?_
  refine x_thenExit ?_
  refine x_thenExit ?_
  refine x_blockHere ?_
  refine x_then ?_
  obtain ⟨d4,e4,hU0,hc4⟩:=hR.again (by omega) fe f0 f60 fg fl
  refine sb ?_
  refine rn 2 S H t0 fun a w S H=>?_
  refine r_call (args:=#[.pointer (some ⟨db9,0,none⟩),.agg #[.int .i64 (gn),.slice A6 (gl.length) c7],.int .i64 3,.int .i64 4]) S rfl rfl Tryz.call13 (build_ct (H:=(pk [3,0,1,2] 4 H)) _ _ (hl.via fun _ H=>H.drop.drop.drop) db9 gn A6 c7 gl (okg.via fun _ H=>Sat.only (pk [1] 3 H)) fe 3 4 dd (by omega) (by decide)) rfl rfl rfl fun v a w hR S=>?_
  obtain ⟨rfl,H,hcB⟩:=hR
  rw [e4] at S H
  dsimp only at S H
  refine rs 1 S H t0 fun a w S H=>?_
  refine sb ?_
  refine rn 2 S H t0 fun a w S H=>?_
  refine r_y S H (y_build (vs:=#[(0,.int .i64 (gn))]) (v:=.agg #[.int .i64 (gn),.slice none 0 0]) S rfl rfl (fun w=>by kernel_rfl)) rfl rfl rfl fun a S=>?_
  refine r_alloc S H rfl Tryz.zeroValue24 rfl rfl rfl rfl fun a w b23 S H=>?_
  replace H:Sat _ (blk b23 (.cells #[.int .i64 0,.slice none 0 0] 24)::diskR db9 d4::blk b1 (.cells #[.int .i64 (gn),.slice A6 (gl.length) c7] 24)::row 61 3 (.slice A6 (gl.length) c7) (gl.length) (ecells (gl))::row 9 1 (.slice A19 (ns.length) c20) (ns.length) (strs ns)::fr):=H
  refine rs 1 S H t0 fun a w S H=>?_
  refine r_seq ?_
  refine sr 1 S H t0 fun a w S H=>?_
  refine r_block ?_
  have H:=H.nilRow 61 3
  refine r_loop (ι:=Nat×Dk.Disk×Option Addr×Nat) (fun ⟨j,df,Ap,cp⟩ a w=>Slots a 110 [(3,.pointer (some ⟨b1,0,none⟩)),(7,.bool true),(8,.pointer (some ⟨db9,0,none⟩)),(13,.int .i64 0),(14,.pointer (some ⟨b23,0,none⟩)),(15,.int .i64 ((j:Nat):Int)),(110,undef)]/\Sat w (blk b1 (.cells #[.int .i64 (gn),.slice A6 (gl.length) c7] 24)::row 61 3 (.slice A6 (gl.length) c7) (gl.length) (ecells (gl))::blk b23 (.cells #[.int .i64 (gn),.slice Ap ((Sh.ocat gn 3 gl j).length) cp] 24)::row 61 3 (.slice Ap ((Sh.ocat gn 3 gl j).length) cp) ((Sh.ocat gn 3 gl j).length) (ecells (Sh.ocat gn 3 gl j))::diskR db9 df::fr)/\(j<=3/\Sh.Rd12 gn 3 gl df)) (fun ⟨j,df,Ap,cp⟩=>3 - j) (0,d4,none,0) ⟨S.sub ⟨rfl,rfl,rfl,rfl,rfl,rfl,rfl,trivial⟩,pk [3,4,1,0,2] 6 H,⟨by omega,hU0⟩⟩ (fun ⟨j,df,Ap,cp⟩ a w hI=>?_)
  obtain ⟨S,H,hI⟩:=hI
  obtain ⟨hj3,hU⟩:=hI
  have h33:(3:Int).toNat=3:=rfl
  have cU:=hU.cnt
  have hol:=Sh.ocat_len fe hp fg (i:=j) (by omega)
  refine r_seq ?_
  refine sr 2 S H t0 fun a w S H=>?_
  refine r_test S rfl (fun h84=>?_) (fun h84=>?_)
  · skip
    refine wp_skip ?_
    refine x_then ?_
    refine r_seq ?_
    refine r_block ?_
    obtain ⟨da,ea,ta⟩:=hU.read fe (j:=j) (by omega)
    have ho2:=Sh.ocat_len fe hp fg (i:=j+1) (by omega)
    rw [Sh.ocat_succ,List.length_append] at ho2
    refine sb ?_
    refine rn 2 S H t0 fun a w S H=>?_
    refine r_call (args:=#[.pointer (some ⟨db9,0,none⟩),.int .i64 ((j:Nat):Int)]) S rfl rfl Tryz.call16 (shread_ct (H:=(pk [4,0,1,2,3] 5 H)) _ _ (hl.via fun _ H=>H.drop.drop.drop.drop) db9 j df (by omega) (by omega)) rfl rfl rfl fun v a w hR S=>?_
    obtain ⟨A24,c25,rfl,H⟩:=hR
    rw [ea] at S H
    dsimp only at S H
    refine rs 5 S H t0 fun a w S H=>?_
    refine r_seq ?_
    refine sr 2 S H t0 fun a w S H=>?_
    have S:=S.retell (v':=.bool false) 94 rfl rfl
    refine r_condF S rfl ?_
    refine wp_skip ?_
    refine x_then ?_
    refine r_region ?_
    refine rn 3 S H t0 fun a w S H=>?_
    refine r_appendS (L':=fun A26 c27=>row 61 3 (.slice A24 ((Sh.edgesOf gn 3 gl j).length) c25) ((Sh.edgesOf gn 3 gl j).length) (ecells ((Sh.edgesOf gn 3 gl j)))::diskR db9 da::blk b1 (.cells #[.int .i64 (gn),.slice A6 (gl.length) c7] 24)::row 61 3 (.slice A6 (gl.length) c7) (gl.length) (ecells (gl))::blk b23 (.cells #[.int .i64 (gn),.slice Ap ((Sh.ocat gn 3 gl j).length) cp] 24)::row 61 3 (.slice A26 ((Sh.ocat gn 3 gl j).length+(Sh.edgesOf gn 3 gl j).length) c27) ((Sh.ocat gn 3 gl j).length+(Sh.edgesOf gn 3 gl j).length) (ecells ((Sh.ocat gn 3 gl j)++(Sh.edgesOf gn 3 gl j)))::fr) (xs':=ecells ((Sh.ocat gn 3 gl j)++(Sh.edgesOf gn 3 gl j))) 5 S H rfl rfl rfl rfl el22 (SlOk.ofRow (i:=0) H rfl) (one_ecells _) (by simp only [maxLen];first | omega | (simp<;>omega)) (by first | omega | (simp<;>omega)) (ecells_app (Sh.ocat gn 3 gl j) (Sh.edgesOf gn 3 gl j)) (by first | omega | (simp<;>omega)) (fun _ _=>rfl) rfl rfl rfl fun a w A26 c27 hA26 S H=>?_
    refine rn 2 S H t0 fun a w S H=>?_
    refine r_nil ?_
    refine x_blockEnd ?_
    refine x_then ?_
    refine er 3 S H (by omega) fun a w S H=>?_
    refine x_then ?_
    have e:(Sh.ocat gn 3 gl (j+1))=(Sh.ocat gn 3 gl j)++(Sh.edgesOf gn 3 gl j):=Sh.ocat_succ _ _ _ _
    have el:(Sh.ocat gn 3 gl (j+1)).length=(Sh.ocat gn 3 gl j).length+(Sh.edgesOf gn 3 gl j).length:=by rw [e];simp
    have H:=pk [2,3,4,5,1] 6 H
    rw [<-e,<-el] at H
    exact ⟨(j+1,da,A26,c27),⟨S.sub ⟨rfl,rfl,rfl,rfl,rfl,rfl,rfl,trivial⟩,H,⟨by omega,ta⟩⟩,by show 3 - (j+1) < 3 - j;omega⟩
  refine wp_exit ?_
  refine x_thenExit ?_
  refine x_thenExit ?_
  refine x_blockHere ?_
  refine x_then ?_
  have ho1:=Sh.ocat_same fe hp fg (i:=j) (by omega)
  refine sb ?_
  refine rn 4 S H t0 fun a w S H=>?_
  have S:=S.retell (v':=.bool true) 103 rfl rfl
  refine rn 4 S H t0 fun a w S H=>?_
  refine r_call (args:=#[.agg #[.int .i64 (gn),.slice Ap ((Sh.ocat gn 3 gl j).length) cp],.agg #[.int .i64 (gn),.slice A6 (gl.length) c7]]) S rfl rfl Tryz.call17 (same2_ct (H:=H) _ _ gn gn Ap cp (Sh.ocat gn 3 gl j) (SlOk.ofRow (i:=3) H rfl) (ho1.1) A6 c7 gl (okg.via fun _ H=>Sat.only (pk [1] 5 H)) (fe) (by omega) (by omega)) rfl rfl rfl fun v a w hR S=>?_
  obtain ⟨rfl,H⟩:=hR
  have S:=S.retell (v':=.bool true) 108 rfl (by rw [decide_eq_true ⟨rfl,ho1.2⟩])
  refine rs 2 S H t0 fun a w S H=>?_
  refine wp_ret ?_
  refine r_ret1 S H Tryz.results9 (ro_tmp S rfl) ?_
  exact ⟨rfl,H.drop.drop.drop.drop.drop⟩

end Go.Proofs.YtoffbmhmocfmnaaGreatDoor
