/- Laws of the model, walks of functions of the program, and what they rest on. No condition. -/
import Derived.Test.YtoffbmhmocfmnaaGreatDoorKVav
import Derived.Test.YtoffbmhmocfmnaaGreatDoorKVaj
import Derived.Test.YtoffbmhmocfmnaaGreatDoorKVak
import Derived.Test.YtoffbmhmocfmnaaGreatDoorKVar
namespace Go.Proofs.YtoffbmhmocfmnaaGreatDoor
open Go.RowKit Go.Cg
set_option linter.unusedVariables false
set_option linter.unusedSimpArgs false
set_option maxRecDepth 8000
set_option synthInstance.maxHeartbeats 1000000
set_option synthInstance.maxSize 1000000
open Go.Cg.Dk (By Nm)
open Go.Cg.Rn (R Bd Rs RsOk RsFit)
open Go.Cg.Xs (Tm tname)
theorem SlOk.part {L:List Res} {g n c i f:Nat} {l pt:List Nm} (h:SlOk L 1 (some ⟨g,0,none⟩) n c (strs l)) (hi:i < n) (hp:pt=(l.drop i).take f):SlOk L 1 (some ⟨g,0+i,none⟩) pt.length pt.length (strs pt):=by
  have hn:=nS h
  refine ⟨fun e=>(by cases e),Nat.le_refl _,?_,by simp,fun w H j v hj=>?_⟩
  · have:=h.le;have:=h.cap
    rw [hp];simp only [List.length_take,List.length_drop];omega
  · have hj2:(strs l)[i+j]? =some v:=by
      rw [hp] at hj
      unfold strs at hj ⊢
      rw [List.map_take,List.map_drop,List.getElem?_take] at hj
      split at hj
      · rwa [List.getElem?_drop] at hj
      · cases hj
    obtain ⟨g',o',e,hc⟩:=h.rd w H (i+j) v hj2
    cases e
    exact ⟨g,0+i,rfl,by rw [show 0+i+j=0+(i+j) from by omega];exact hc⟩
theorem okNilR (L:List Res):SlOk L 2 none 0 0 (recs []):=⟨fun _=>rfl,Nat.le_refl _,Nat.zero_le _,rfl,Rd.nil _ _⟩
theorem chunk_ct (w:World) (fr:List Res) (A:Option Addr) (n c f:Nat) (hf:1<=f) (H:Sat w (fr)):
    Rt Tryz.prog 101 #[.slice A n c,.int .i64 ((f:Nat):Int)] w fun v w'=>∃kb nb,v=.func (.func 130) #[] #[.pointer (some ⟨kb,0,none⟩),.pointer (some ⟨nb,0,none⟩)]/\Sat w' (blk kb (.cells #[.slice A n c] 46)::blk nb (.cells #[.int .i64 ((f:Nat):Int)] 3)::fr):=by
  refine en2 Tryz.func101 rfl Tryz.ntmps101 rfl fun a S=>?_
  refine sb ?_
  refine r_box (c:=#[.slice A n c]) S H rfl rfl rfl rfl rfl rfl fun a w b1 S H=>?_
  refine r_box (c:=#[.int .i64 ((f:Nat):Int)]) S H rfl rfl rfl rfl rfl rfl fun a w b2 S H=>?_
  refine rs 1 S H t0 fun a w S H=>?_
  refine r_seq ?_
  refine sr 2 S H t0 fun a w S H=>?_
  refine r_test S rfl (fun h6=>?_) (fun h6=>?_)
  · skip
    exfalso;omega
  refine wp_skip ?_
  refine x_then ?_
  refine sb ?_
  refine r_y S H (y_makeFunc (vs:=#[.pointer (some ⟨b1,0,none⟩),.pointer (some ⟨b2,0,none⟩)]) S rfl rfl) rfl rfl rfl fun a S=>?_
  refine rs 1 S H t0 fun a w S H=>?_
  refine wp_ret ?_
  refine r_ret1 S H Tryz.results101 (ro_tmp S rfl) ?_
  exact ⟨_,_,rfl,pk [1,0] 2 H⟩

theorem sall_ct (w:World) (fr:List Res) (hl:Laid fr) (zb rb db:Nat) (temp nin out:Nm) (fan:Nat) (how:Int) (sz budget:Nat) (d:Dk.Disk) (hc:d.files.length<=1000000000) (htl:temp.length<=1000) (hszz:sz<=17592186044416) (hb1:0 < budget) (hb2:budget<=9223372036854775807) (hfan:2<=fan) (hfan2:fan<=4611686018427387904) (hh:Rn.hright how=true) (H:Sat w (srtR zb db temp fan how (0,[])::rdrR rb db nin sz (0,[],false) 0::diskR db d::fr)):
    Rt Tryz.prog 85 #[.pointer (some ⟨zb,0,none⟩),.pointer (some ⟨rb,0,none⟩),str (out),.int .i64 ((budget:Nat):Int)] w fun v w'=>v=.tuple #[.int .i64 (((Xs.all nin sz out temp how budget fan d).2.2.1:Nat):Int),.int .i64 (((Xs.all nin sz out temp how budget fan d).2.2.2:Nat):Int)]/\Sat w' (srtR zb db temp fan how (Xs.all nin sz out temp how budget fan d).2.1::diskR db (Xs.all nin sz out temp how budget fan d).1::fr):=by
  refine rt_enterM (n:=100) Tryz.func85 rfl Tryz.ntmps85 rfl fun a S=>?_
  replace S:Slots a 100 [(0,.pointer (some ⟨zb,0,none⟩)),(1,.pointer (some ⟨rb,0,none⟩)),(2,str (out)),(3,.int .i64 ((budget:Nat):Int)),(100,undef)]:=S
  refine sb ?_
  refine r_box (c:=#[.pointer (some ⟨zb,0,none⟩)]) S H rfl rfl rfl rfl rfl rfl fun a w b1 S H=>?_
  refine r_alloc S H rfl Tryz.zeroValue3 rfl rfl rfl rfl fun a w b2 S H=>?_
  replace H:Sat _ (blk b2 (.cells #[.int .i64 0] 3)::blk b1 (.cells #[.pointer (some ⟨zb,0,none⟩)] 142)::srtR zb db temp fan how (0,[])::rdrR rb db nin sz (0,[],false) 0::diskR db d::fr):=H
  refine r_alloc S H rfl Tryz.zeroValue29 rfl rfl rfl rfl fun a w b3 S H=>?_
  replace H:Sat _ (blk b3 (.cells #[.int .i64 0] 29)::blk b2 (.cells #[.int .i64 0] 3)::blk b1 (.cells #[.pointer (some ⟨zb,0,none⟩)] 142)::srtR zb db temp fan how (0,[])::rdrR rb db nin sz (0,[],false) 0::diskR db d::fr):=H
  refine sn ?_
  refine sb ?_
  refine rn 3 S H t0 fun a w S H=>?_
  refine r_call (args:=#[.pointer (some ⟨zb,0,none⟩),.pointer (some ⟨rb,0,none⟩),.int .i64 ((budget:Nat):Int)]) S rfl rfl Tryz.call100 (cut_ct (H:=(pk [3,4,5,0,1,2] 6 H)) _ _ (hl.via fun _ H=>H.drop.drop.drop) zb rb db temp nin fan how sz budget d (by omega) htl (by omega) hb1 hh) rfl rfl rfl fun v a w hR S=>?_
  obtain ⟨A8,c9,rfl,H⟩:=hR
  obtain ⟨d1,tm1,nm1,n1,e1,hcut⟩:∃d1 tm1 nm1 n1 e1,(Xs.cut nin sz temp how budget (Rn.rleft sz (0,[],false)+1) (0,[],false) [] [] 0 (0,[]) d)=(d1,tm1,nm1,n1,e1):=⟨_,_,_,_,_,rfl⟩
  have hcc:=Xs.cut_cnt (nin:=nin) (sz:=sz) (temp:=temp) (how:=how) (budget:=budget) (Rn.rleft sz (0,[],false)+1) (0,[],false) [] [] 0 (0,[]) d
  have hcf:=Xs.cut_few (nin:=nin) (sz:=sz) (temp:=temp) (how:=how) (budget:=budget) (Rn.rleft sz (0,[],false)+1) (0,[],false) [] [] 0 (0,[]) d (RsOk.start _) (RsFit.start _) (Nat.le_refl _)
  rw [hcut] at hcc hcf S H
  dsimp only [List.length_nil] at hcc hcf S H
  refine rs 7 S H t0 fun a w S H=>?_
  refine r_seq ?_
  refine sr 2 S H t0 fun a w S H=>?_
  refine r_test S rfl (fun h27=>?_) (fun h27=>?_)
  · skip
    refine r_seq ?_
    apply viaA (n:=100)
    · skip
      refine ha [0,1,2,3,4,5] 6 H fun w H HS=>?_
      refine tk 0 S HS fun a S=>?_
      refine h1 1 ?_
      refine rs 1 S H t0 fun a w S H=>?_
      refine hk (H) fun HS=>?_
      refine h1 2 ?_
      refine rs 1 S H t0 fun a w S H=>?_
      refine hk (H) fun HS=>?_
      refine hz ?_
      refine x_then ?_
      exact ⟨S.sub (E':=[(2,str (out)),(3,.int .i64 ((budget:Nat):Int)),(4,.pointer (some ⟨b1,0,none⟩)),(8,.pointer (some ⟨b2,0,none⟩)),(9,.pointer (some ⟨b3,0,none⟩)),(10,.slice A8 (nm1.length) c9),(11,.int .i64 ((n1:Nat):Int)),(100,undef)]) ⟨rfl,rfl,rfl,rfl,rfl,rfl,rfl,rfl,trivial⟩,H⟩
    · intro a w S H
      refine x_then ?_
      refine wp_ret ?_
      refine x_thenRet ?_
      refine b_ret2 S H Tryz.results85 (ro_cell (i:=4) S rfl Tryz.isAgg3 rfl rfl) (ro_cell (i:=3) S rfl Tryz.isAgg29 rfl rfl) ?_
      rw [Xs.all_b1 hcut (by omega)]
      exact ⟨rfl,pk [1,2] 6 H⟩
  have he1:e1=0:=by omega
  have hcc3:=hcc.2.2 he1
  refine wp_skip ?_
  refine x_then ?_
  refine r_seq ?_
  refine r_block ?_
  replace S:=S.toCode rfl
  have H:=H.noMarks
  refine r_loop (ι:=Nat×List Nm×Tm×Dk.Disk×Option Addr×Nat×Nat) (fun ⟨k,names,tm,dd,An,cn,C⟩ a w=>Slots a 100 [(2,str (out)),(3,.int .i64 ((budget:Nat):Int)),(4,.pointer (some ⟨b1,0,none⟩)),(8,.pointer (some ⟨b2,0,none⟩)),(9,.pointer (some ⟨b3,0,none⟩)),(10,.slice An names.length cn),(11,.int .i64 ((n1:Nat):Int)),(C+101,undef)]/\Sat w (marksR C::blk b1 (.cells #[.pointer (some ⟨zb,0,none⟩)] 142)::blk b2 (.cells #[.int .i64 0] 3)::blk b3 (.cells #[.int .i64 ((e1:Nat):Int)] 29)::row 9 1 (.slice An names.length cn) names.length (strs names)::srtR zb db temp fan how tm::diskR db dd::fr)/\(Xs.levels how temp fan k names tm dd=Xs.levels how temp fan nm1.length nm1 tm1 d1/\names.length<=k/\tm.1+2*names.length<=3*nm1.length/\tm.2.length<=tm.1/\dd.files.length<=d.files.length+tm.1/\names.length<=nm1.length)) (fun ⟨k,names,tm,dd,An,cn,C⟩=>names.length) (nm1.length,nm1,tm1,d1,A8,c9,0) ⟨S.sub ⟨rfl,rfl,rfl,rfl,rfl,rfl,rfl,Lk.h,trivial⟩,pk [0,6,5,4,1,2,3] 7 H,⟨rfl,Nat.le_refl _,by omega,by omega,by omega,Nat.le_refl _⟩⟩ (fun ⟨k,names,tm,dd,An,cn,C⟩ a w hI=>?_)
  obtain ⟨S,H,hI⟩:=hI
  obtain ⟨hV,hnk,hpot,htm,hdf0,hnm1⟩:=hI
  refine r_seq ?_
  refine sr 3 S H t0 fun a w S H=>?_
  refine r_test S rfl (fun h31=>?_) (fun h31=>?_)
  · skip
    refine wp_skip ?_
    refine x_then ?_
    refine r_block ?_
    refine sb ?_
    refine r_alloc S H rfl Tryz.zeroValue46 rfl rfl rfl rfl fun a w b10 S H=>?_
    replace H:Sat _ (blk b10 (.cells #[.slice none 0 0] 46)::marksR C::blk b1 (.cells #[.pointer (some ⟨zb,0,none⟩)] 142)::blk b2 (.cells #[.int .i64 0] 3)::blk b3 (.cells #[.int .i64 ((e1:Nat):Int)] 29)::row 9 1 (.slice An names.length cn) names.length (strs names)::srtR zb db temp fan how tm::diskR db dd::fr):=H
    refine sn ?_
    refine r_seq ?_
    obtain ⟨k,rfl⟩:∃j,k=j+1:=⟨k - 1,by omega⟩
    obtain ⟨gb,rfl⟩:=H.rowAt (i:=5) rfl (by omega)
    have hcap:=(SlOk.ofRow (i:=5) H rfl).le
    have hcap2:=(SlOk.ofRow (i:=5) H rfl).cap
    obtain ⟨Am11,cm12,H⟩:=Sat.openS ((pk [6,0,1,2,3,4,5,7] 8 H))
    replace H:Sat _ (blk zb (.cells #[.pointer (some ⟨db,0,none⟩),str (temp),.int .i64 ((fan:Nat):Int),.int .i64 how,.int .i64 ((tm.1:Nat):Int),.slice Am11 tm.2.length cm12] 144)::row 9 1 (.slice Am11 tm.2.length cm12) tm.2.length (strs tm.2)::blk b10 (.cells #[.slice none 0 0] 46)::marksR C::blk b1 (.cells #[.pointer (some ⟨zb,0,none⟩)] 142)::blk b2 (.cells #[.int .i64 0] 3)::blk b3 (.cells #[.int .i64 ((e1:Nat):Int)] 29)::row 9 1 (.slice (some ⟨gb,0,none⟩) names.length cn) names.length (strs names)::diskR db dd::fr):=H
    refine sb ?_
    refine rn 5 S H t0 fun a w S H=>?_
    refine r_call (args:=#[.slice (some ⟨gb,0,none⟩) names.length cn,.int .i64 ((fan:Nat):Int)]) S rfl rfl Tryz.call101 (chunk_ct (H:=H) _ _ _ _ _ fan (by omega)) rfl rfl rfl fun v a w hR S=>?_
    obtain ⟨kb17,nb18,rfl,H⟩:=hR
    refine sn ?_
    refine r_block ?_
    have H:=Sat.shutS tm (pk [2,3,0,1,4,5,6,7,8,9,10] 11 H)
    replace H:Sat _ (srtR zb db temp fan how tm::blk kb17 (.cells #[.slice (some ⟨gb,0,none⟩) names.length cn] 46)::blk nb18 (.cells #[.int .i64 ((fan:Nat):Int)] 3)::blk b10 (.cells #[.slice none 0 0] 46)::marksR C::blk b1 (.cells #[.pointer (some ⟨zb,0,none⟩)] 142)::blk b2 (.cells #[.int .i64 0] 3)::blk b3 (.cells #[.int .i64 ((e1:Nat):Int)] 29)::row 9 1 (.slice (some ⟨gb,0,none⟩) names.length cn) names.length (strs names)::diskR db dd::fr):=H
    have H:=H.nilRow 9 1
    have hfw:=Xs.chunk_few (f:=fan) (l:=names) hfan (by omega)
    obtain ⟨m,hm⟩:∃y,y=(Xs.chunk fan names).length:=⟨_,rfl⟩
    have hmi:∀ q,q < m↔q*fan < names.length:=fun q=>by rw [hm];exact Xs.chunk_iff (by omega) names q
    replace S:=S.sub (E':=[(2,str (out)),(3,.int .i64 ((budget:Nat):Int)),(4,.pointer (some ⟨b1,0,none⟩)),(8,.pointer (some ⟨b2,0,none⟩)),(9,.pointer (some ⟨b3,0,none⟩)),(10,.slice (some ⟨gb,0,none⟩) names.length cn),(11,.int .i64 ((n1:Nat):Int)),(12,.pointer (some ⟨b10,0,none⟩)),(29,.slice (some ⟨gb,0,none⟩) names.length cn),(30,.int .i64 ((names.length:Nat):Int)),(31,.bool (decide (1 < ((names.length:Nat):Int)))),(32,.slice (some ⟨gb,0,none⟩) names.length cn),(33,.pointer (some ⟨zb,0,none⟩)),(34,.pointer (some ⟨zb,0,none⟩)),(35,.pointer (some ⟨zb,2,none⟩)),(36,.int .i64 ((fan:Nat):Int)),(37,.func (.func 130) #[] #[.pointer (some ⟨kb17,0,none⟩),.pointer (some ⟨nb18,0,none⟩)]),(C+101,undef)]) ⟨rfl,rfl,rfl,rfl,rfl,rfl,rfl,rfl,rfl,rfl,rfl,rfl,rfl,rfl,rfl,rfl,rfl,Lk.h,trivial⟩
    refine wp_range2 (ι:=List Nm×Tm×Dk.Disk×Option Addr×Nat) (κ:=Unit) (σ:=Nat×Tm×Dk.Disk×List Nm) (n:=100) (fun i ⟨nq,tq,dq,Aq,cq⟩=>srtR zb db temp fan how tq::diskR db dq::blk b10 (.cells #[.slice Aq nq.length cq] 46)::row 9 1 (.slice Aq nq.length cq) nq.length (strs nq)::row 9 1 (.slice (some ⟨gb,0,none⟩) names.length cn) names.length (strs names)::blk b1 (.cells #[.pointer (some ⟨zb,0,none⟩)] 142)::blk b2 (.cells #[.int .i64 0] 3)::blk b3 (.cells #[.int .i64 ((e1:Nat):Int)] 29)::blk kb17 (.cells #[.slice (some ⟨gb,0,none⟩) names.length cn] 46)::blk nb18 (.cells #[.int .i64 ((fan:Nat):Int)] 3)::marksR C::fr) (fun i ⟨nq,tq,dq,Aq,cq⟩=>Xs.pass how temp ((Xs.chunk fan names).drop i) nq tq dq=(Xs.pass how temp (Xs.chunk fan names) [] tm dd)/\nq.length=i/\i<=m/\tq.1=tm.1+i/\tq.2.length<=tq.1/\dq.files.length<=d.files.length+tq.1) [(2,str (out)),(3,.int .i64 ((budget:Nat):Int)),(4,.pointer (some ⟨b1,0,none⟩)),(8,.pointer (some ⟨b2,0,none⟩)),(9,.pointer (some ⟨b3,0,none⟩)),(10,.slice (some ⟨gb,0,none⟩) names.length cn),(11,.int .i64 ((n1:Nat):Int)),(12,.pointer (some ⟨b10,0,none⟩)),(29,.slice (some ⟨gb,0,none⟩) names.length cn),(30,.int .i64 ((names.length:Nat):Int)),(31,.bool (decide (1 < ((names.length:Nat):Int)))),(32,.slice (some ⟨gb,0,none⟩) names.length cn),(33,.pointer (some ⟨zb,0,none⟩)),(34,.pointer (some ⟨zb,0,none⟩)),(35,.pointer (some ⟨zb,2,none⟩)),(36,.int .i64 ((fan:Nat):Int)),(37,.func (.func 130) #[] #[.pointer (some ⟨kb17,0,none⟩),.pointer (some ⟨nb18,0,none⟩)])] (fun x=>[(38,.slice (some ⟨gb,0+x*fan,none⟩) (min fan (names.length - x*fan)) (min fan (names.length - x*fan)))]++([(2,str (out)),(3,.int .i64 ((budget:Nat):Int)),(4,.pointer (some ⟨b1,0,none⟩)),(8,.pointer (some ⟨b2,0,none⟩)),(9,.pointer (some ⟨b3,0,none⟩)),(10,.slice (some ⟨gb,0,none⟩) names.length cn),(11,.int .i64 ((n1:Nat):Int)),(12,.pointer (some ⟨b10,0,none⟩)),(29,.slice (some ⟨gb,0,none⟩) names.length cn),(30,.int .i64 ((names.length:Nat):Int)),(31,.bool (decide (1 < ((names.length:Nat):Int)))),(32,.slice (some ⟨gb,0,none⟩) names.length cn),(33,.pointer (some ⟨zb,0,none⟩)),(34,.pointer (some ⟨zb,0,none⟩)),(35,.pointer (some ⟨zb,2,none⟩)),(36,.int .i64 ((fan:Nat):Int)),(37,.func (.func 130) #[] #[.pointer (some ⟨kb17,0,none⟩),.pointer (some ⟨nb18,0,none⟩)])]++[(100,undef)])) S ([],tm,dd,none,0) (pk [1,10,4,0,9,6,7,8,2,3,5] 11 H) ⟨rfl,rfl,Nat.zero_le _,rfl,htm,hdf0⟩ rfl (enters_of Tryz.func130 (by kernel_rfl) rfl) (chunk_iter kb17 nb18 gb 0 cn fan names (by omega) (by omega) (by omega) hcap m hmi (fun W=>W.cell? ⟨kb17,0,none⟩=some (.slice (some ⟨gb,0,none⟩) names.length cn)/\W.cell? ⟨nb18,0,none⟩=some (.int .i64 ((fan:Nat):Int))) (fun W h=>h)) (fun ⟨e,tz,dz,nz⟩=>blk b2 (.cells #[.int .i64 0] 3)::blk b3 (.cells #[.int .i64 ((e:Nat):Int)] 29)::srtR zb db temp fan how tz::diskR db dz::marksR C::fr) (fun ⟨e,tz,dz,nz⟩=>(Xs.pass how temp (Xs.chunk fan names) [] tm dd)=(dz,tz,nz,e)/\e≠0) (fun _=>rfl) ?_ (fun _=>rfl) (fun _=>rfl) (fun x _=>[(2,str (out)),(3,.int .i64 ((budget:Nat):Int)),(4,.pointer (some ⟨b1,0,none⟩)),(8,.pointer (some ⟨b2,0,none⟩)),(9,.pointer (some ⟨b3,0,none⟩)),(10,.slice (some ⟨gb,0,none⟩) names.length cn),(11,.int .i64 ((n1:Nat):Int)),(12,.pointer (some ⟨b10,0,none⟩)),(13,.slice (some ⟨gb,0+x*fan,none⟩) (min fan (names.length - x*fan)) (min fan (names.length - x*fan))),(29,.slice (some ⟨gb,0,none⟩) names.length cn),(30,.int .i64 ((names.length:Nat):Int)),(31,.bool (decide (1 < ((names.length:Nat):Int)))),(32,.slice (some ⟨gb,0,none⟩) names.length cn),(33,.pointer (some ⟨zb,0,none⟩)),(34,.pointer (some ⟨zb,0,none⟩)),(35,.pointer (some ⟨zb,2,none⟩)),(36,.int .i64 ((fan:Nat):Int)),(37,.func (.func 130) #[] #[.pointer (some ⟨kb17,0,none⟩),.pointer (some ⟨nb18,0,none⟩)]),(100,undef)]) (fun i ⟨nq,tq,dq,Aq,cq⟩ x _=>srtR zb db temp fan how tq::diskR db dq::blk b10 (.cells #[.slice Aq nq.length cq] 46)::row 9 1 (.slice Aq nq.length cq) nq.length (strs nq)::row 9 1 (.slice (some ⟨gb,0,none⟩) names.length cn) names.length (strs names)::blk b1 (.cells #[.pointer (some ⟨zb,0,none⟩)] 142)::blk b2 (.cells #[.int .i64 0] 3)::blk b3 (.cells #[.int .i64 ((e1:Nat):Int)] 29)::blk kb17 (.cells #[.slice (some ⟨gb,0,none⟩) names.length cn] 46)::blk nb18 (.cells #[.int .i64 ((fan:Nat):Int)] 3)::marksR C::fr) ?_ ?_ C (S.mark_ C undef Lk.h) ⟨rfl,rfl,rfl,rfl,rfl,rfl,rfl,rfl,rfl,rfl,rfl,rfl,rfl,rfl,rfl,rfl,rfl,trivial⟩ rfl ?_ ?_
    · rintro i ⟨nq,tq,dq,Aq,cq⟩ W hF H
      exact ⟨by have:=(H.cellOf (i:=8) rfl).1 0;simpa using this,by have:=(H.cellOf (i:=9) rfl).1 0;simpa using this⟩
    · rintro l D i ⟨nq,tq,dq,Aq,cq⟩ x a w r hx hF S H
      replace S:=S.sub (E':=[(2,str (out)),(3,.int .i64 ((budget:Nat):Int)),(4,.pointer (some ⟨b1,0,none⟩)),(8,.pointer (some ⟨b2,0,none⟩)),(9,.pointer (some ⟨b3,0,none⟩)),(10,.slice (some ⟨gb,0,none⟩) names.length cn),(11,.int .i64 ((n1:Nat):Int)),(12,.pointer (some ⟨b10,0,none⟩)),(29,.slice (some ⟨gb,0,none⟩) names.length cn),(30,.int .i64 ((names.length:Nat):Int)),(31,.bool (decide (1 < ((names.length:Nat):Int)))),(32,.slice (some ⟨gb,0,none⟩) names.length cn),(33,.pointer (some ⟨zb,0,none⟩)),(34,.pointer (some ⟨zb,0,none⟩)),(35,.pointer (some ⟨zb,2,none⟩)),(36,.int .i64 ((fan:Nat):Int)),(37,.func (.func 130) #[] #[.pointer (some ⟨kb17,0,none⟩),.pointer (some ⟨nb18,0,none⟩)]),(38,.slice (some ⟨gb,0+x*fan,none⟩) (min fan (names.length - x*fan)) (min fan (names.length - x*fan))),(100,undef)]) ⟨rfl,rfl,rfl,rfl,rfl,rfl,rfl,rfl,rfl,rfl,rfl,rfl,rfl,rfl,rfl,rfl,rfl,rfl,rfl,trivial⟩
      refine in_region ?_
      refine rn 1 S H t0 fun a w S H=>?_
      refine r_nil ?_
      refine x_then ?_
      exact ⟨(),S.sub ⟨rfl,rfl,rfl,rfl,rfl,rfl,rfl,rfl,rfl,rfl,rfl,rfl,rfl,rfl,rfl,rfl,rfl,rfl,rfl,trivial⟩,H⟩
    · rintro l D i ⟨nq,tq,dq,Aq,cq⟩ x _ a w r hx hF S H
      obtain ⟨hP,hnl,hile,ht1,ht2,hdf⟩:=hF
      obtain ⟨him,rfl⟩:i < m/\i=x:=by obtain ⟨h1,h2⟩:=List.getElem?_eq_some_iff.1 hx;rw [List.getElem_range] at h2;exact ⟨by simpa using h1,h2⟩
      have hif:=(hmi i).1 him
      obtain ⟨pt,hpt⟩:∃y,y=(names.drop (i*fan)).take fan:=⟨_,rfl⟩
      have hpl:min fan (names.length - i*fan)=pt.length:=by rw [hpt];simp
      rw [hpl] at S
      have hpe:(Xs.chunk fan names).drop i=pt::(Xs.chunk fan names).drop (i+1):=by rw [hpt];exact Xs.chunk_drop (by omega) i names (by omega)
      rw [hpe] at hP
      have hptl:pt.length<=names.length:=by omega
      replace S:=S.sub (E':=[(4,.pointer (some ⟨b1,0,none⟩)),(8,.pointer (some ⟨b2,0,none⟩)),(9,.pointer (some ⟨b3,0,none⟩)),(12,.pointer (some ⟨b10,0,none⟩)),(13,.slice (some ⟨gb,0+i*fan,none⟩) pt.length pt.length),(100,undef)]) ⟨rfl,rfl,rfl,rfl,rfl,rfl,trivial⟩
      replace H:Sat _ (blk D (.deferred (some []))::blk l (.loop r)::srtR zb db temp fan how tq::diskR db dq::blk b10 (.cells #[.slice Aq nq.length cq] 46)::row 9 1 (.slice Aq nq.length cq) nq.length (strs nq)::row 9 1 (.slice (some ⟨gb,0,none⟩) names.length cn) names.length (strs names)::blk b1 (.cells #[.pointer (some ⟨zb,0,none⟩)] 142)::blk b2 (.cells #[.int .i64 0] 3)::blk b3 (.cells #[.int .i64 ((e1:Nat):Int)] 29)::blk kb17 (.cells #[.slice (some ⟨gb,0,none⟩) names.length cn] 46)::blk nb18 (.cells #[.int .i64 ((fan:Nat):Int)] 3)::marksR C::fr):=H
      refine in_block ?_
      refine in_seq ?_
      refine in_region ?_
      refine rn 1 S H t0 fun a w S H=>?_
      refine r_call (args:=#[.pointer (some ⟨zb,0,none⟩)]) S rfl rfl Tryz.call102 (sname_ct (H:=(pk [2,0,1,3,4,5,6,7,8,9,10,11,12] 13 H)) _ _ (hl.via fun _ H=>H.drop.drop.drop.drop.drop.drop.drop.drop.drop.drop.drop.drop) zb db temp fan how tq (by omega) (by omega)) rfl rfl rfl fun v a w hR S=>?_
      obtain ⟨rfl,H⟩:=hR
      refine rn 1 S H t0 fun a w S H=>?_
      refine r_nil ?_
      refine x_then ?_
      refine in_seq ?_
      obtain ⟨Am19,cm20,H⟩:=Sat.openS (H)
      replace H:Sat _ (blk zb (.cells #[.pointer (some ⟨db,0,none⟩),str (temp),.int .i64 ((fan:Nat):Int),.int .i64 how,.int .i64 (((tq.1+1,tq.2).1:Nat):Int),.slice Am19 ((tq.1+1,tq.2).2.length) cm20] 144)::row 9 1 (.slice Am19 ((tq.1+1,tq.2).2.length) cm20) ((tq.1+1,tq.2).2.length) (strs ((tq.1+1,tq.2).2))::blk D (.deferred (some []))::blk l (.loop r)::diskR db dq::blk b10 (.cells #[.slice Aq nq.length cq] 46)::row 9 1 (.slice Aq nq.length cq) nq.length (strs nq)::row 9 1 (.slice (some ⟨gb,0,none⟩) names.length cn) names.length (strs names)::blk b1 (.cells #[.pointer (some ⟨zb,0,none⟩)] 142)::blk b2 (.cells #[.int .i64 0] 3)::blk b3 (.cells #[.int .i64 ((e1:Nat):Int)] 29)::blk kb17 (.cells #[.slice (some ⟨gb,0,none⟩) names.length cn] 46)::blk nb18 (.cells #[.int .i64 ((fan:Nat):Int)] 3)::marksR C::fr):=H
      refine haI [2,3,4,5,6,7,8,9,10,11,12,13] 14 H fun w H HS=>?_
      refine tk 0 S HS fun a S=>?_
      refine tk 1 S HS fun a S=>?_
      refine tk 2 S HS fun a S=>?_
      refine tk 3 S HS fun a S=>?_
      refine tk 5 S HS fun a S=>?_
      refine hmemo [true,true,true,true,true,true,true,false,false,false,false] 4 (fun a w=>∃b21:Nat,Slots a 100 [(4,.pointer (some ⟨b1,0,none⟩)),(8,.pointer (some ⟨b2,0,none⟩)),(9,.pointer (some ⟨b3,0,none⟩)),(12,.pointer (some ⟨b10,0,none⟩)),(13,.slice (some ⟨gb,0+i*fan,none⟩) pt.length pt.length),(14,str (tname temp (tq.1+1))),(39,.pointer (some ⟨zb,0,none⟩)),(40,str (tname temp (tq.1+1))),(41,.pointer (some ⟨zb,0,none⟩)),(45,.slice Am19 ((tq.1+1,tq.2).2.length) cm20),(47,.slice (some ⟨b21,0,none⟩) 1 1),(100,undef)]/\Sat w (row 9 1 (.slice (some ⟨b21,0,none⟩) 1 1) 1 (strs [tname temp (tq.1+1)])::blk zb (.cells #[.pointer (some ⟨db,0,none⟩),str (temp),.int .i64 ((fan:Nat):Int),.int .i64 how,.int .i64 (((tq.1+1,tq.2).1:Nat):Int),.slice Am19 ((tq.1+1,tq.2).2.length) cm20] 144)::row 9 1 (.slice Am19 ((tq.1+1,tq.2).2.length) cm20) ((tq.1+1,tq.2).2.length) (strs ((tq.1+1,tq.2).2))::blk D (.deferred (some []))::blk l (.loop r)::diskR db dq::blk b10 (.cells #[.slice Aq nq.length cq] 46)::row 9 1 (.slice Aq nq.length cq) nq.length (strs nq)::row 9 1 (.slice (some ⟨gb,0,none⟩) names.length cn) names.length (strs names)::blk b1 (.cells #[.pointer (some ⟨zb,0,none⟩)] 142)::blk b2 (.cells #[.int .i64 0] 3)::blk b3 (.cells #[.int .i64 ((e1:Nat):Int)] 29)::blk kb17 (.cells #[.slice (some ⟨gb,0,none⟩) names.length cn] 46)::blk nb18 (.cells #[.int .i64 ((fan:Nat):Int)] 3)::marksR C::fr)) ?_ fun K0=>?_
      · rintro a w ⟨b21,S,H⟩
        have HS:Sat w _:=pk [3,4,5,6,7,8,9,10,11,12,13,14] 15 H
        refine h1 7 ?_
        refine r_appendS (L':=fun A25 c26=>row 9 1 (.slice (some ⟨b21,0,none⟩) 1 1) 1 (strs [tname temp (tq.1+1)])::blk zb (.cells #[.pointer (some ⟨db,0,none⟩),str (temp),.int .i64 ((fan:Nat):Int),.int .i64 how,.int .i64 (((tq.1+1,tq.2).1:Nat):Int),.slice Am19 ((tq.1+1,tq.2).2.length) cm20] 144)::row 9 1 (.slice A25 ((tq.1+1,tq.2).2.length+1) c26) ((tq.1+1,tq.2).2.length+1) (strs (((tq.1+1,tq.2).2)++([tname temp (tq.1+1)])))::blk D (.deferred (some []))::blk l (.loop r)::diskR db dq::blk b10 (.cells #[.slice Aq nq.length cq] 46)::row 9 1 (.slice Aq nq.length cq) nq.length (strs nq)::row 9 1 (.slice (some ⟨gb,0,none⟩) names.length cn) names.length (strs names)::blk b1 (.cells #[.pointer (some ⟨zb,0,none⟩)] 142)::blk b2 (.cells #[.int .i64 0] 3)::blk b3 (.cells #[.int .i64 ((e1:Nat):Int)] 29)::blk kb17 (.cells #[.slice (some ⟨gb,0,none⟩) names.length cn] 46)::blk nb18 (.cells #[.int .i64 ((fan:Nat):Int)] 3)::marksR C::fr) (xs':=strs (((tq.1+1,tq.2).2)++([tname temp (tq.1+1)]))) 2 S H rfl rfl rfl rfl el46 (SlOk.ofRow (i:=0) H rfl) (one_strs _) (by simp only [maxLen];first | omega | (simp<;>omega)) (by first | omega | (simp<;>omega)) (strs_app ((tq.1+1,tq.2).2) ([tname temp (tq.1+1)])) (by first | omega | (simp<;>omega)) (fun _ _=>rfl) rfl rfl rfl fun a w A25 c26 hA25 S H=>?_
        refine sn ?_
        refine hk (pk [3,4,5,6,7,8,9,10,11,12,13,14] 15 H) fun HS=>?_
        refine tk 8 S HS fun a S=>?_
        refine tk 9 S HS fun a S=>?_
        refine h1 10 ?_
        refine rs 1 S H t0 fun a w S H=>?_
        refine hk (pk [3,4,5,6,7,8,9,10,11,12,13,14] 15 H) fun HS=>?_
        refine hz ?_
        refine x_then ?_
        refine in_seq ?_
        refine in_seq ?_
        have H:=pk [1,2,0,3,4,5,6,7,8,9,10,11,12,13,14] 15 H
        have H:=Sat.shutS (zb:=zb) (db:=db) (temp:=temp) (fan:=fan) (how:=how) (A:=A25) (c:=c26) (tq.1+1,tq.2++[tname temp (tq.1+1)]) (by rw [List.length_append];exact H)
        replace H:Sat _ (srtR zb db temp fan how (tq.1+1,tq.2++[tname temp (tq.1+1)])::row 9 1 (.slice (some ⟨b21,0,none⟩) 1 1) 1 (strs [tname temp (tq.1+1)])::blk D (.deferred (some []))::blk l (.loop r)::diskR db dq::blk b10 (.cells #[.slice Aq nq.length cq] 46)::row 9 1 (.slice Aq nq.length cq) nq.length (strs nq)::row 9 1 (.slice (some ⟨gb,0,none⟩) names.length cn) names.length (strs names)::blk b1 (.cells #[.pointer (some ⟨zb,0,none⟩)] 142)::blk b2 (.cells #[.int .i64 0] 3)::blk b3 (.cells #[.int .i64 ((e1:Nat):Int)] 29)::blk kb17 (.cells #[.slice (some ⟨gb,0,none⟩) names.length cn] 46)::blk nb18 (.cells #[.int .i64 ((fan:Nat):Int)] 3)::marksR C::fr):=H
        refine in_region ?_
        refine rn 3 S H t0 fun a w S H=>?_
        refine r_call (args:=#[.pointer (some ⟨zb,0,none⟩),.slice (some ⟨gb,0+i*fan,none⟩) pt.length pt.length,str (tname temp (tq.1+1))]) S rfl rfl Tryz.call103 (smerge_ct (H:=(pk [0,4,1,2,3,5,6,7,8,9,10,11,12,13] 14 H)) _ _ zb db temp fan how (tq.1+1,tq.2++[tname temp (tq.1+1)]) _ _ pt (SlOk.part (SlOk.ofRow (i:=5) (pk [0,4,1,2,3,5,6,7,8,9,10,11,12,13] 14 H).drop.drop rfl) hif hpt) (tname temp (tq.1+1)) dq (⟨by omega,by omega⟩)) rfl rfl rfl fun v a w hR S=>?_
        obtain ⟨rfl,H⟩:=hR
        refine rn 1 S H t0 fun a w S H=>?_
        refine r_nil ?_
        refine x_then ?_
        refine in_seq ?_
        refine in_region ?_
        refine rn 2 S H t0 fun a w S H=>?_
        refine r_nil ?_
        refine x_then ?_
        refine in_test S rfl (fun h56=>?_) (fun h56=>?_)
        · skip
          refine in_seq ?_
          refine in_region ?_
          refine rn 3 S H t0 fun a w S H=>?_
          refine r_nil ?_
          refine x_then ?_
          refine wpIn_ret ?_
          refine x_thenRet ?_
          refine x_blockRet ?_
          refine x_thenRet ?_
          have H:=pk [3,4,9,10,0,1,13] 14 H
          refine left_ret ?_
          exact ⟨(((Xs.merge how (tname temp (tq.1+1)) pt dq).2),(tq.1+1,tq.2++[tname temp (tq.1+1)]),(Xs.merge how (tname temp (tq.1+1)) pt dq).1,nq),H,⟨hP.symm.trans (Xs.pass_b1 (by omega)),by omega⟩⟩
        refine wpIn_skip ?_
        refine x_then ?_
        refine in_seq ?_
        refine in_seq ?_
        refine in_region ?_
        refine rn 2 S H t0 fun a w S H=>?_
        refine r_call (args:=#[.pointer (some ⟨zb,0,none⟩),.slice (some ⟨gb,0+i*fan,none⟩) pt.length pt.length]) S rfl rfl Tryz.call86 (sgone_ct (H:=H) _ _ zb db temp fan how (tq.1+1,tq.2++[tname temp (tq.1+1)]) _ _ pt (SlOk.part (SlOk.ofRow (i:=5) (pk [0,1,2,3,4,5,6,7,8,9,10,11,12,13] 14 H).drop.drop rfl) hif hpt) ((Xs.merge how (tname temp (tq.1+1)) pt dq).1) (by have:=Xs.merge_cnt how (tname temp (tq.1+1)) pt dq;omega) (by simp;omega)) rfl rfl rfl fun v a w hR S=>?_
        obtain ⟨rfl,H⟩:=hR
        dsimp only at S H
        refine rn 1 S H t0 fun a w S H=>?_
        refine r_nil ?_
        refine x_then ?_
        refine in_seq ?_
        refine in_region ?_
        refine rn 2 S H t0 fun a w S H=>?_
        refine r_nil ?_
        refine x_then ?_
        refine in_test S rfl (fun h62=>?_) (fun h62=>?_)
        · skip
          refine in_seq ?_
          refine in_region ?_
          refine rn 3 S H t0 fun a w S H=>?_
          refine r_nil ?_
          refine x_then ?_
          refine wpIn_ret ?_
          refine x_thenRet ?_
          refine x_blockRet ?_
          refine x_thenRet ?_
          have H:=pk [3,4,9,10,0,1,13] 14 H
          refine left_ret ?_
          exact ⟨(((Xs.gones pt (tq.2++[tname temp (tq.1+1)]) ((Xs.merge how (tname temp (tq.1+1)) pt dq).1)).2.2),(tq.1+1,(Xs.gones pt (tq.2++[tname temp (tq.1+1)]) (Xs.merge how (tname temp (tq.1+1)) pt dq).1).2.1),(Xs.gones pt (tq.2++[tname temp (tq.1+1)]) ((Xs.merge how (tname temp (tq.1+1)) pt dq).1)).1,nq),H,⟨hP.symm.trans (Xs.pass_b2 (by omega) (show (Xs.gones pt (tq.2++[tname temp (tq.1+1)]) (Xs.merge how (tname temp (tq.1+1)) pt dq).1).2.2≠0 by omega)),by omega⟩⟩
        refine wpIn_skip ?_
        refine x_then ?_
        refine in_region ?_
        refine rn 2 S H t0 fun a w S H=>?_
        refine r_lit (vs:=#[(0,str (tname temp (tq.1+1)))]) (cs:=strs [tname temp (tq.1+1)]) S H rfl rfl el46 (by kernel_rfl) (by decide) (by rfl) rfl rfl rfl fun a w b27 S H=>?_
        refine r_appendS (L':=fun A28 c29=>row 9 1 (.slice (some ⟨b27,0,none⟩) 1 1) 1 (strs [tname temp (tq.1+1)])::srtR zb db temp fan how ((tq.1+1),(Xs.gones pt (tq.2++[tname temp (tq.1+1)]) ((Xs.merge how (tname temp (tq.1+1)) pt dq).1)).2.1)::diskR db (Xs.gones pt (tq.2++[tname temp (tq.1+1)]) ((Xs.merge how (tname temp (tq.1+1)) pt dq).1)).1::row 9 1 (.slice (some ⟨b21,0,none⟩) 1 1) 1 (strs [tname temp (tq.1+1)])::blk D (.deferred (some []))::blk l (.loop r)::blk b10 (.cells #[.slice Aq nq.length cq] 46)::row 9 1 (.slice A28 (nq.length+1) c29) (nq.length+1) (strs (nq++([tname temp (tq.1+1)])))::row 9 1 (.slice (some ⟨gb,0,none⟩) names.length cn) names.length (strs names)::blk b1 (.cells #[.pointer (some ⟨zb,0,none⟩)] 142)::blk b2 (.cells #[.int .i64 0] 3)::blk b3 (.cells #[.int .i64 ((e1:Nat):Int)] 29)::blk kb17 (.cells #[.slice (some ⟨gb,0,none⟩) names.length cn] 46)::blk nb18 (.cells #[.int .i64 ((fan:Nat):Int)] 3)::marksR C::fr) (xs':=strs (nq++([tname temp (tq.1+1)]))) 7 S H rfl rfl rfl rfl el46 (SlOk.ofRow (i:=0) H rfl) (one_strs _) (by simp only [maxLen];first | omega | (simp<;>omega)) (by first | omega | (simp<;>omega)) (strs_app nq ([tname temp (tq.1+1)])) (by first | omega | (simp<;>omega)) (fun _ _=>rfl) rfl rfl rfl fun a w A28 c29 hA28 S H=>?_
        refine rn 1 S H t0 fun a w S H=>?_
        refine r_nil ?_
        refine x_blockEnd ?_
        refine x_then ?_
        have hpo:=hP.symm.trans (Xs.pass_one (by omega) (show (Xs.gones pt (tq.2++[tname temp (tq.1+1)]) (Xs.merge how (tname temp (tq.1+1)) pt dq).1).2.2=0 by omega))
        have hmc:=Xs.merge_cnt how (tname temp (tq.1+1)) pt dq
        obtain ⟨hgc,hgm⟩:=Xs.gones_cnt pt (tq.2++[tname temp (tq.1+1)]) (Xs.merge how (tname temp (tq.1+1)) pt dq).1
        simp only [List.length_append,List.length_cons,List.length_nil] at hgm
        have en:nq.length+1=(nq++[tname temp (tq.1+1)]).length:=by simp
        have H:=pk [4,5,1,2,6,7,8,9,10,11,12,13,14] 15 H
        rw [en] at H
        exact ⟨(nq++[tname temp (tq.1+1)],(tq.1+1,(Xs.gones pt (tq.2++[tname temp (tq.1+1)]) (Xs.merge how (tname temp (tq.1+1)) pt dq).1).2.1),(Xs.gones pt (tq.2++[tname temp (tq.1+1)]) (Xs.merge how (tname temp (tq.1+1)) pt dq).1).1,A28,c29),H,⟨hpo.symm,by simp;omega,by omega,by show tq.1+1=_;omega,by show (Xs.gones pt (tq.2++[tname temp (tq.1+1)]) (Xs.merge how (tname temp (tq.1+1)) pt dq).1).2.1.length<=tq.1+1;omega,by show _<=_+(tq.1+1);omega⟩⟩
      refine h2 4 6 ?_ ?_
      · skip
        refine rs 1 S H t0 fun a w S H=>?_
        refine hk (pk [2,3,4,5,6,7,8,9,10,11,12,13] 14 H) fun HS=>?_
        refine h1 6 ?_
        refine r_lit (vs:=#[(0,str (tname temp (tq.1+1)))]) (cs:=strs [tname temp (tq.1+1)]) S H rfl rfl el46 (by kernel_rfl) (by decide) (by rfl) rfl rfl rfl fun a w b30 S H=>?_
        refine sn ?_
        refine hk (pk [3,4,5,6,7,8,9,10,11,12,13,14] 15 H) fun HS=>?_
        exact K0 _ _ ⟨_,S.sub ⟨rfl,rfl,rfl,rfl,rfl,rfl,rfl,rfl,rfl,rfl,rfl,rfl,trivial⟩,H⟩
      · skip
        refine r_lit (vs:=#[(0,str (tname temp (tq.1+1)))]) (cs:=strs [tname temp (tq.1+1)]) S H rfl rfl el46 (by kernel_rfl) (by decide) (by rfl) rfl rfl rfl fun a w b31 S H=>?_
        refine sn ?_
        refine hk (pk [3,4,5,6,7,8,9,10,11,12,13,14] 15 H) fun HS=>?_
        refine h1 4 ?_
        refine rs 1 S H t0 fun a w S H=>?_
        refine hk (pk [3,4,5,6,7,8,9,10,11,12,13,14] 15 H) fun HS=>?_
        exact K0 _ _ ⟨_,S.sub ⟨rfl,rfl,rfl,rfl,rfl,rfl,rfl,rfl,rfl,rfl,rfl,rfl,trivial⟩,H⟩
    · rintro D C a w ⟨e,tz,dz,nz⟩ hC S H hF
      replace S:Slots a 100 [(2,str (out)),(3,.int .i64 ((budget:Nat):Int)),(4,.pointer (some ⟨b1,0,none⟩)),(8,.pointer (some ⟨b2,0,none⟩)),(9,.pointer (some ⟨b3,0,none⟩)),(10,.slice (some ⟨gb,0,none⟩) names.length cn),(11,.int .i64 ((n1:Nat):Int)),(12,.pointer (some ⟨b10,0,none⟩)),(29,.slice (some ⟨gb,0,none⟩) names.length cn),(30,.int .i64 ((names.length:Nat):Int)),(31,.bool (decide (1 < ((names.length:Nat):Int)))),(32,.slice (some ⟨gb,0,none⟩) names.length cn),(33,.pointer (some ⟨zb,0,none⟩)),(34,.pointer (some ⟨zb,0,none⟩)),(35,.pointer (some ⟨zb,2,none⟩)),(36,.int .i64 ((fan:Nat):Int)),(37,.func (.func 130) #[] #[.pointer (some ⟨kb17,0,none⟩),.pointer (some ⟨nb18,0,none⟩)]),(C+101,undef)]:=S
      have H:=Sat.markIn hC (pk [0,5,1,2,3,4] 6 H)
      obtain ⟨hPe,hez⟩:=hF
      replace H:Sat _ (marksR C::blk b2 (.cells #[.int .i64 0] 3)::blk b3 (.cells #[.int .i64 ((e:Nat):Int)] 29)::srtR zb db temp fan how tz::diskR db dz::fr):=H
      refine x_blockRet ?_
      refine x_thenRet ?_
      refine x_blockRet ?_
      refine x_thenRet ?_
      refine x_blockRet ?_
      refine x_thenRet ?_
      refine m_ret2 101 S H Tryz.results85 (ro_cell (i:=0) S rfl Tryz.isAgg3 rfl rfl) (ro_cell (i:=1) S rfl Tryz.isAgg29 rfl rfl) fun w H=>?_
      have hlb:=hV.symm.trans (Xs.levels_bad (by omega) (by rw [hPe];exact hez))
      rw [hPe] at hlb
      rw [Xs.all_b2 hcut he1 hlb hez]
      exact ⟨rfl,pk [2,3] 4 H⟩
    · rintro D C a w ⟨nq,tq,dq,Aq,cq⟩ hC S H hF
      replace S:Slots a 100 [(2,str (out)),(3,.int .i64 ((budget:Nat):Int)),(4,.pointer (some ⟨b1,0,none⟩)),(8,.pointer (some ⟨b2,0,none⟩)),(9,.pointer (some ⟨b3,0,none⟩)),(10,.slice (some ⟨gb,0,none⟩) names.length cn),(11,.int .i64 ((n1:Nat):Int)),(12,.pointer (some ⟨b10,0,none⟩)),(29,.slice (some ⟨gb,0,none⟩) names.length cn),(30,.int .i64 ((names.length:Nat):Int)),(31,.bool (decide (1 < ((names.length:Nat):Int)))),(32,.slice (some ⟨gb,0,none⟩) names.length cn),(33,.pointer (some ⟨zb,0,none⟩)),(34,.pointer (some ⟨zb,0,none⟩)),(35,.pointer (some ⟨zb,2,none⟩)),(36,.int .i64 ((fan:Nat):Int)),(37,.func (.func 130) #[] #[.pointer (some ⟨kb17,0,none⟩),.pointer (some ⟨nb18,0,none⟩)]),(C+101,undef)]:=S
      have H:=Sat.markIn hC (pk [0,11,1,2,3,4,5,6,7,8,9,10] 12 H)
      rw [List.length_range] at hF
      obtain ⟨hP,hnl,hile,ht1,ht2,hdf⟩:=hF
      rw [hm,List.drop_length] at hP
      replace hP:(dq,tq,nq,0)=(Xs.pass how temp (Xs.chunk fan names) [] tm dd):=hP
      replace H:Sat _ (marksR C::srtR zb db temp fan how tq::diskR db dq::blk b10 (.cells #[.slice Aq nq.length cq] 46)::row 9 1 (.slice Aq nq.length cq) nq.length (strs nq)::row 9 1 (.slice (some ⟨gb,0,none⟩) names.length cn) names.length (strs names)::blk b1 (.cells #[.pointer (some ⟨zb,0,none⟩)] 142)::blk b2 (.cells #[.int .i64 0] 3)::blk b3 (.cells #[.int .i64 ((e1:Nat):Int)] 29)::blk kb17 (.cells #[.slice (some ⟨gb,0,none⟩) names.length cn] 46)::blk nb18 (.cells #[.int .i64 ((fan:Nat):Int)] 3)::fr):=H
      refine x_blockEnd ?_
      refine x_then ?_
      refine er 2 S H t0 fun a w S H=>?_
      refine x_blockEnd ?_
      refine x_then ?_
      have hlg:=hV.symm.trans (Xs.levels_go (by omega) (by rw [<-hP]))
      rw [<-hP] at hlg
      have H:=pk [0,6,7,8,4,1,2] 11 H
      exact ⟨(k,nq,tq,dq,Aq,cq,C),⟨S.sub ⟨rfl,rfl,rfl,rfl,rfl,rfl,rfl,Lk.h,trivial⟩,H,⟨hlg.symm,by omega,by omega,ht2,hdf,by omega⟩⟩,by show nq.length < names.length;omega⟩
  refine wp_exit ?_
  refine x_thenExit ?_
  refine x_thenExit ?_
  refine x_blockHere ?_
  refine x_then ?_
  refine r_seq ?_
  have hle:=Xs.levels_end (how:=how) (temp:=temp) (fan:=fan) (k:=k) (names:=names) (tm:=tm) (d:=dd) (by omega)
  have hall:=Xs.all_g (out:=out) (fan:=fan) hcut he1 (hV.symm.trans hle) rfl
  refine sr 3 S H t0 fun a w S H=>?_
  refine r_test S rfl (fun h71=>?_) (fun h71=>?_)
  · skip
    obtain ⟨Am32,cm33,H⟩:=Sat.openS ((pk [5,0,1,2,3,4,6] 7 H))
    replace H:Sat _ (blk zb (.cells #[.pointer (some ⟨db,0,none⟩),str (temp),.int .i64 ((fan:Nat):Int),.int .i64 how,.int .i64 ((tm.1:Nat):Int),.slice Am32 tm.2.length cm33] 144)::row 9 1 (.slice Am32 tm.2.length cm33) tm.2.length (strs tm.2)::marksR C::blk b1 (.cells #[.pointer (some ⟨zb,0,none⟩)] 142)::blk b2 (.cells #[.int .i64 0] 3)::blk b3 (.cells #[.int .i64 ((e1:Nat):Int)] 29)::row 9 1 (.slice An names.length cn) names.length (strs names)::diskR db dd::fr):=H
    refine sb ?_
    refine rn 5 S H t0 fun a w S H=>?_
    refine r_call (args:=#[.pointer (some ⟨db,0,none⟩),str (out),.slice none 0 0]) S rfl rfl Tryz.call104 (write_ct (H:=(pk [7,0,1,2,3,4,5,6] 8 H)) _ _ db out dd (by omega) none 0 [] (okNilR _) (by simp) Bd.nil) rfl rfl rfl fun v a w hR S=>?_
    obtain ⟨rfl,H⟩:=hR
    refine rs 2 S H t0 fun a w S H=>?_
    refine wp_ret ?_
    refine x_thenRet ?_
    have H:=pk [3,0,1,2,4,5,6,7] 8 H
    refine m_ret2 101 S H Tryz.results85 (ro_cell (i:=4) S rfl Tryz.isAgg3 rfl rfl) (ro_cell (i:=5) S rfl Tryz.isAgg29 rfl rfl) fun w H=>?_
    have hn0:names=[]:=List.eq_nil_of_length_eq_zero (by omega)
    rw [hn0] at hall
    rw [hall]
    exact ⟨rfl,Sat.shutS tm (pk [1,2,0] 7 H)⟩
  refine wp_skip ?_
  refine x_then ?_
  refine r_seq ?_
  obtain ⟨a0,hn0⟩:∃a0,names=[a0]:=List.length_eq_one_iff.1 (by omega)
  obtain ⟨gb,rfl⟩:=H.rowAt (i:=4) rfl (by omega)
  have hg0:names.getD 0 []=a0:=by rw [hn0];rfl
  obtain ⟨Am34,cm35,H⟩:=Sat.openS ((pk [5,0,1,2,3,4,6] 7 H))
  replace H:Sat _ (blk zb (.cells #[.pointer (some ⟨db,0,none⟩),str (temp),.int .i64 ((fan:Nat):Int),.int .i64 how,.int .i64 ((tm.1:Nat):Int),.slice Am34 tm.2.length cm35] 144)::row 9 1 (.slice Am34 tm.2.length cm35) tm.2.length (strs tm.2)::marksR C::blk b1 (.cells #[.pointer (some ⟨zb,0,none⟩)] 142)::blk b2 (.cells #[.int .i64 0] 3)::blk b3 (.cells #[.int .i64 ((e1:Nat):Int)] 29)::row 9 1 (.slice (some ⟨gb,0,none⟩) names.length cn) names.length (strs names)::diskR db dd::fr):=H
  refine r_seq ?_
  apply viaA (n:=100)
  · skip
    refine ha [0,1,2,3,4,5,6] 8 H fun w H HS=>?_
    refine tk 0 S HS fun a S=>?_
    refine tk 1 S HS fun a S=>?_
    refine tk 2 S HS fun a S=>?_
    refine tk 3 S HS fun a S=>?_
    refine tk 4 S HS fun a S=>?_
    refine tkY 5 S HS rfl (y_index S rfl rfl rfl Tryz.underlying46 Tryz.sizeOf9 (by omega) (by omega)) rfl rfl rfl fun a S=>?_
    refine tkY 6 S HS rfl (y_loadAt S rfl rfl Tryz.isAgg9 (fun w H=>(SlOk.ofRow (i:=6) HS rfl).cell w H (strs_at (i:=0) (by first | omega | (simp<;>omega))))) rfl rfl rfl fun a S=>?_
    refine tk 7 S HS fun a S=>?_
    refine h1 8 ?_
    refine rs 1 S H (by omega) fun a w S H=>?_
    refine hk (pk [0,1,2,3,4,5,6] 8 H) fun HS=>?_
    refine tk 9 S HS fun a S=>?_
    refine hz ?_
    refine x_then ?_
    exact ⟨S.sub (E':=[(3,.int .i64 ((budget:Nat):Int)),(4,.pointer (some ⟨b1,0,none⟩)),(8,.pointer (some ⟨b2,0,none⟩)),(9,.pointer (some ⟨b3,0,none⟩)),(11,.int .i64 ((n1:Nat):Int)),(17,.int .i64 (((Dk.Disk.rename (names.getD 0 []) out dd).2:Nat):Int)),(C+101,undef)]) ⟨rfl,rfl,rfl,rfl,rfl,rfl,Lk.h,trivial⟩,H⟩
  · intro a w S H
    refine x_then ?_
    refine sr 2 S H t0 fun a w S H=>?_
    refine r_test S rfl (fun h88=>?_) (fun h88=>?_)
    · skip
      refine sr 3 S H t0 fun a w S H=>?_
      refine wp_ret ?_
      refine x_thenRet ?_
      have H:=pk [2,0,1,3,4,5,6,7] 8 H
      refine m_ret2 101 S H Tryz.results85 (ro_cell (i:=3) S rfl Tryz.isAgg3 rfl rfl) (ro_cell (i:=4) S rfl Tryz.isAgg29 rfl rfl) fun w H=>?_
      have hre:Xs.ends out names (Xs.passes n1 budget fan) tm dd=((dd.rename (names.getD 0 []) out).1,tm,0,(dd.rename (names.getD 0 []) out).2):=by rw [hg0,hn0];exact if_pos (by rw [<-hg0];omega)
      rw [hall,hre]
      exact ⟨rfl,Sat.shutS tm (pk [0,1,6] 7 H)⟩
    refine wp_skip ?_
    refine x_then ?_
    refine sr 4 S H t0 fun a w S H=>?_
    refine sb ?_
    refine rn 6 S H t0 fun a w S H=>?_
    refine r_call (args:=#[.int .i64 ((n1:Nat):Int),.int .i64 ((budget:Nat):Int),.int .i64 ((fan:Nat):Int)]) S rfl rfl Tryz.call106 (passes_ct (H:=H) _ _ ((n1:Nat):Int) ((budget:Nat):Int) ((fan:Nat):Int) (by omega) (by omega) (by omega)) rfl rfl rfl fun v a w hR S=>?_
    obtain ⟨rfl,H⟩:=hR
    refine rs 2 S H t0 fun a w S H=>?_
    refine wp_ret ?_
    have H:=pk [2,0,1,3,4,5,6,7] 8 H
    refine m_ret2 101 S H Tryz.results85 (ro_cell (i:=3) S rfl Tryz.isAgg3 rfl rfl) (ro_cell (i:=4) S rfl Tryz.isAgg29 rfl rfl) fun w H=>?_
    have hre:Xs.ends out names (Xs.passes n1 budget fan) tm dd=((dd.rename (names.getD 0 []) out).1,(tm.1,[]),Xs.passes n1 budget fan,0):=by rw [hg0,hn0];exact if_neg (by rw [<-hg0];omega)
    rw [hall,hre]
    have H:=H.nilRow 9 1
    exact ⟨rfl,Sat.shutS (tm.1,[]) (pk [1,0,7] 8 H)⟩

end Go.Proofs.YtoffbmhmocfmnaaGreatDoor
namespace Go.Proofs.YtoffbmhmocfmnaaGreatDoor
open Go.RowKit Go.Cg
set_option linter.unusedVariables false
set_option linter.unusedSimpArgs false
set_option maxRecDepth 8000
set_option synthInstance.maxHeartbeats 1000000
set_option synthInstance.maxSize 1000000
open Go.Cg.Dk (By Nm)
open Go.Cg.Rn (R Bd)
open Go.Cg.Xs (Tm tname)
section
variable {nin out temp:Nm} {how:Int} {d:Dk.Disk}
theorem sort_arg {budget fan:Int} (h:budget < 1\/fan < 2\/how < 0\/2 < how):Xs.sortD nin out temp budget fan how d=(d,0,1):=if_pos h
variable {budget fan:Nat}
theorem sort_size (h:¬ ((budget:Int) < 1\/(fan:Int) < 2\/how < 0\/2 < how)) (e:(d.size nin).2.2≠0):Xs.sortD nin out temp budget fan how d=((d.size nin).1,0,(d.size nin).2.2):=(if_neg h).trans (if_pos e)
theorem sort_cre (h:¬ ((budget:Int) < 1\/(fan:Int) < 2\/how < 0\/2 < how)) (e:(d.size nin).2.2=0) (e2:((d.size nin).1.create out).2≠0):Xs.sortD nin out temp budget fan how d=(((d.size nin).1.create out).1,0,((d.size nin).1.create out).2):=((if_neg h).trans (if_neg (fun c=>c e))).trans (if_pos e2)
theorem sort_rem (h:¬ ((budget:Int) < 1\/(fan:Int) < 2\/how < 0\/2 < how)) (e:(d.size nin).2.2=0) (e2:((d.size nin).1.create out).2=0) (e3:(((d.size nin).1.create out).1.remove out).2≠0):Xs.sortD nin out temp budget fan how d=((((d.size nin).1.create out).1.remove out).1,0,(((d.size nin).1.create out).1.remove out).2):=(((if_neg h).trans (if_neg (fun c=>c e))).trans (if_neg (fun c=>c e2))).trans (if_pos e3)
theorem sort_bad (h:¬ ((budget:Int) < 1\/(fan:Int) < 2\/how < 0\/2 < how)) (e:(d.size nin).2.2=0) (e2:((d.size nin).1.create out).2=0) (e3:(((d.size nin).1.create out).1.remove out).2=0) (e4:(Xs.all nin (d.size nin).2.1 out temp how budget fan (((d.size nin).1.create out).1.remove out).1).2.2.2≠0):
    Xs.sortD nin out temp budget fan how d=((Xs.gones ((Xs.all nin (d.size nin).2.1 out temp how budget fan (((d.size nin).1.create out).1.remove out).1).2.1.2++[out]) (Xs.all nin (d.size nin).2.1 out temp how budget fan (((d.size nin).1.create out).1.remove out).1).2.1.2 (Xs.all nin (d.size nin).2.1 out temp how budget fan (((d.size nin).1.create out).1.remove out).1).1).1,0,(Xs.all nin (d.size nin).2.1 out temp how budget fan (((d.size nin).1.create out).1.remove out).1).2.2.2):=
  ((((if_neg h).trans (if_neg (fun c=>c e))).trans (if_neg (fun c=>c e2))).trans (if_neg (fun c=>c e3))).trans (if_pos e4)
theorem sort_ok (h:¬ ((budget:Int) < 1\/(fan:Int) < 2\/how < 0\/2 < how)) (e:(d.size nin).2.2=0) (e2:((d.size nin).1.create out).2=0) (e3:(((d.size nin).1.create out).1.remove out).2=0) (e4:(Xs.all nin (d.size nin).2.1 out temp how budget fan (((d.size nin).1.create out).1.remove out).1).2.2.2=0):
    Xs.sortD nin out temp budget fan how d=((Xs.all nin (d.size nin).2.1 out temp how budget fan (((d.size nin).1.create out).1.remove out).1).1,(Xs.all nin (d.size nin).2.1 out temp how budget fan (((d.size nin).1.create out).1.remove out).1).2.2.1,0):=
  ((((if_neg h).trans (if_neg (fun c=>c e))).trans (if_neg (fun c=>c e2))).trans (if_neg (fun c=>c e3))).trans (if_neg (fun c=>c e4))
end
theorem sortD_ct (w:World) (fr:List Res) (hl:Laid fr) (db:Nat) (nin out temp:Nm) (b f how:Int) (d:Dk.Disk) (hc:d.files.length<=100000000) (hbf:b<=9223372036854775807/\f<=4611686018427387904) (htl:temp.length<=1000) (H:Sat w (diskR db d::fr)):
    Rt Tryz.prog 63 #[.pointer (some ⟨db,0,none⟩),str (nin),str (out),str (temp),.int .i64 b,.int .i64 f,.int .i64 how] w fun v w'=>v=.tuple #[.int .i64 (((Xs.sortD nin out temp b f how d).2.1:Nat):Int),.int .i64 (((Xs.sortD nin out temp b f how d).2.2:Nat):Int)]/\Sat w' (diskR db (Xs.sortD nin out temp b f how d).1::fr):=by
  refine en7 Tryz.func63 rfl Tryz.ntmps63 rfl fun a S=>?_
  have hdok:=H.diskOk
  have hsz:=Dk.size_le hdok nin
  have hc1:=Dk.len_size d nin
  have hc2:=Dk.len_create (Dk.Disk.size nin d).1 out
  have hc3:=Dk.len_remove (Dk.Disk.create out (Dk.Disk.size nin d).1).1 out
  refine sr 2 S H t0 fun a w S H=>?_
  refine r_seq ?_
  refine sb ?_
  refine rn 3 S H t0 fun a w S H=>?_
  refine scO 1 S H (fun _=>t0) fun a w S H=>?_
  refine rn 1 S H t0 fun a w S H=>?_
  refine scO 1 S H (fun _=>t0) fun a w S H=>?_
  refine rn 1 S H t0 fun a w S H=>?_
  refine scO 1 S H (fun _=>t0) fun a w S H=>?_
  refine sn ?_
  refine r_cond S rfl (fun h35=>?_) (fun h35=>?_)
  · skip
    refine sr 2 S H t0 fun a w S H=>?_
    refine wp_ret ?_
    refine x_thenRet ?_
    refine r_ret2 S H Tryz.results63 (ro_tmp S rfl) (ro_tmp S rfl) ?_
    rw [sort_arg (by simp only [Bool.or_eq_true,decide_eq_true_eq] at h35;omega)]
    exact ⟨rfl,H⟩
  refine wp_skip ?_
  refine x_then ?_
  simp only [Bool.or_eq_false_iff,decide_eq_false_iff_not] at h35
  obtain ⟨budget,rfl⟩:=Int.eq_ofNat_of_zero_le (show 0<=b by omega)
  obtain ⟨fan,rfl⟩:=Int.eq_ofNat_of_zero_le (show 0<=f by omega)
  have ha:¬ ((budget:Int) < 1\/(fan:Int) < 2\/how < 0\/2 < how):=by omega
  have hh:Rn.hright how=true:=by unfold Rn.hright;rw [decide_eq_true_eq];omega
  rcases Nat.eq_zero_or_pos (Dk.Disk.size nin d).2.2 with hz0 | hz0
  · skip
    refine sb ?_
    refine rn 2 S H t0 fun a w S H=>?_
    refine r_call (args:=#[.pointer (some ⟨db,0,none⟩),str (nin)]) S rfl rfl Tryz.call36 (newrd_ct (H:=H) _ _ db nin d (by omega) (by omega)) rfl rfl rfl fun v a w hR S=>?_
    obtain ⟨b1,rfl,H⟩:=hR
    refine rs 5 S H t0 fun a w S H=>?_
    refine r_seq ?_
    refine sr 2 S H t0 fun a w S H=>?_
    have S:=S.retell (v':=.bool false) 43 rfl rfl
    refine r_condF S rfl ?_
    refine wp_skip ?_
    refine x_then ?_
    refine r_seq ?_
    refine sr 4 S H (by omega) fun a w S H=>?_
    refine sr 2 S H t0 fun a w S H=>?_
    refine r_test S rfl (fun h49=>?_) (fun h49=>?_)
    · skip
      refine sr 3 S H t0 fun a w S H=>?_
      refine wp_ret ?_
      refine x_thenRet ?_
      refine r_ret2 S H Tryz.results63 (ro_tmp S rfl) (ro_tmp S rfl) ?_
      rw [sort_cre ha (by omega) (by omega)]
      exact ⟨rfl,pk [1] 2 H⟩
    refine wp_skip ?_
    refine x_then ?_
    refine r_seq ?_
    refine sr 4 S H (by omega) fun a w S H=>?_
    refine sr 2 S H t0 fun a w S H=>?_
    refine r_test S rfl (fun h55=>?_) (fun h55=>?_)
    · skip
      refine sr 3 S H t0 fun a w S H=>?_
      refine wp_ret ?_
      refine x_thenRet ?_
      refine r_ret2 S H Tryz.results63 (ro_tmp S rfl) (ro_tmp S rfl) ?_
      rw [sort_rem ha (by omega) (by omega) (by omega)]
      exact ⟨rfl,pk [1] 2 H⟩
    refine wp_skip ?_
    refine x_then ?_
    refine sb ?_
    refine rn 4 S H t0 fun a w S H=>?_
    refine r_y S H (y_build (vs:=#[(0,.pointer (some ⟨db,0,none⟩)),(1,str (temp)),(2,.int .i64 ((fan:Nat):Int)),(3,.int .i64 how)]) (v:=.agg #[.pointer (some ⟨db,0,none⟩),str (temp),.int .i64 ((fan:Nat):Int),.int .i64 how,.int .i64 0,.slice none 0 0]) S rfl rfl (fun w=>by kernel_rfl)) rfl rfl rfl fun a S=>?_
    refine r_box (c:=#[.pointer (some ⟨db,0,none⟩),str (temp),.int .i64 ((fan:Nat):Int),.int .i64 how,.int .i64 0,.slice none 0 0]) S H rfl rfl rfl rfl rfl rfl fun a w b2 S H=>?_
    refine rs 1 S H t0 fun a w S H=>?_
    have H:=H.nilRow 9 1
    have H:=Sat.shutS (0,[]) (pk [1,0,2,3] 4 H)
    replace H:Sat _ (srtR b2 db temp fan how (0,[])::rdrR b1 db nin ((Dk.Disk.size nin d).2.1) (0,[],false) 0::diskR db (Dk.Disk.remove out ((Dk.Disk.create out ((Dk.Disk.size nin d).1)).1)).1::fr):=H
    have he0:(Dk.Disk.size nin d).2.2=0:=by omega
    have he1:(Dk.Disk.create out (Dk.Disk.size nin d).1).2=0:=by omega
    have he2:(Dk.Disk.remove out (Dk.Disk.create out (Dk.Disk.size nin d).1).1).2=0:=by omega
    obtain ⟨hac,ham⟩:=Xs.all_cnt (nin:=nin) (sz:=(Dk.Disk.size nin d).2.1) (out:=out) (temp:=temp) (how:=how) (budget:=budget) (fan:=fan) (by omega) (Dk.Disk.remove out (Dk.Disk.create out (Dk.Disk.size nin d).1).1).1
    refine sb ?_
    refine rn 4 S H t0 fun a w S H=>?_
    refine r_call (args:=#[.pointer (some ⟨b2,0,none⟩),.pointer (some ⟨b1,0,none⟩),str (out),.int .i64 ((budget:Nat):Int)]) S rfl rfl Tryz.call85 (sall_ct (H:=H) _ _ (hl.via fun _ H=>H) b2 b1 db temp nin out fan how ((Dk.Disk.size nin d).2.1) budget ((Dk.Disk.remove out ((Dk.Disk.create out ((Dk.Disk.size nin d).1)).1)).1) (by omega) (htl) (by omega) (by omega) (by omega) (by omega) (by omega) hh) rfl rfl rfl fun v a w hR S=>?_
    obtain ⟨rfl,H⟩:=hR
    refine rs 5 S H t0 fun a w S H=>?_
    refine r_seq ?_
    refine sr 2 S H t0 fun a w S H=>?_
    refine r_test S rfl (fun h72=>?_) (fun h72=>?_)
    · skip
      obtain ⟨Am3,cm4,H⟩:=Sat.openS (H)
      replace H:Sat _ (blk b2 (.cells #[.pointer (some ⟨db,0,none⟩),str (temp),.int .i64 ((fan:Nat):Int),.int .i64 how,.int .i64 (((Xs.all nin ((Dk.Disk.size nin d).2.1) out temp how budget fan ((Dk.Disk.remove out ((Dk.Disk.create out ((Dk.Disk.size nin d).1)).1)).1)).2.1.1:Nat):Int),.slice Am3 ((Xs.all nin ((Dk.Disk.size nin d).2.1) out temp how budget fan ((Dk.Disk.remove out ((Dk.Disk.create out ((Dk.Disk.size nin d).1)).1)).1)).2.1.2.length) cm4] 144)::row 9 1 (.slice Am3 ((Xs.all nin ((Dk.Disk.size nin d).2.1) out temp how budget fan ((Dk.Disk.remove out ((Dk.Disk.create out ((Dk.Disk.size nin d).1)).1)).1)).2.1.2.length) cm4) ((Xs.all nin ((Dk.Disk.size nin d).2.1) out temp how budget fan ((Dk.Disk.remove out ((Dk.Disk.create out ((Dk.Disk.size nin d).1)).1)).1)).2.1.2.length) (strs ((Xs.all nin ((Dk.Disk.size nin d).2.1) out temp how budget fan ((Dk.Disk.remove out ((Dk.Disk.create out ((Dk.Disk.size nin d).1)).1)).1)).2.1.2))::diskR db (Xs.all nin ((Dk.Disk.size nin d).2.1) out temp how budget fan ((Dk.Disk.remove out ((Dk.Disk.create out ((Dk.Disk.size nin d).1)).1)).1)).1::fr):=H
      refine sb ?_
      refine rn 5 S H t0 fun a w S H=>?_
      refine r_call (args:=#[.slice Am3 ((Xs.all nin ((Dk.Disk.size nin d).2.1) out temp how budget fan ((Dk.Disk.remove out ((Dk.Disk.create out ((Dk.Disk.size nin d).1)).1)).1)).2.1.2.length) cm4]) S rfl rfl Tryz.call87 (cloneS_ct (H:=H) _ _ _ _ _ ((Xs.all nin ((Dk.Disk.size nin d).2.1) out temp how budget fan ((Dk.Disk.remove out ((Dk.Disk.create out ((Dk.Disk.size nin d).1)).1)).1)).2.1.2) (SlOk.ofRow (i:=1) H rfl) (by omega)) rfl rfl rfl fun v a w hR S=>?_
      obtain ⟨A5,c6,rfl,H⟩:=hR
      refine rn 1 S H t0 fun a w S H=>?_
      refine r_lit (vs:=#[(0,str (out))]) (cs:=strs [out]) S H rfl rfl el46 (by kernel_rfl) (by decide) (by rfl) rfl rfl rfl fun a w b7 S H=>?_
      refine r_appendS (L':=fun A8 c9=>row 9 1 (.slice (some ⟨b7,0,none⟩) 1 1) 1 (strs [out])::row 9 1 (.slice A8 (((Xs.all nin ((Dk.Disk.size nin d).2.1) out temp how budget fan ((Dk.Disk.remove out ((Dk.Disk.create out ((Dk.Disk.size nin d).1)).1)).1)).2.1.2).length+1) c9) (((Xs.all nin ((Dk.Disk.size nin d).2.1) out temp how budget fan ((Dk.Disk.remove out ((Dk.Disk.create out ((Dk.Disk.size nin d).1)).1)).1)).2.1.2).length+1) (strs (((Xs.all nin ((Dk.Disk.size nin d).2.1) out temp how budget fan ((Dk.Disk.remove out ((Dk.Disk.create out ((Dk.Disk.size nin d).1)).1)).1)).2.1.2)++([out])))::blk b2 (.cells #[.pointer (some ⟨db,0,none⟩),str (temp),.int .i64 ((fan:Nat):Int),.int .i64 how,.int .i64 (((Xs.all nin ((Dk.Disk.size nin d).2.1) out temp how budget fan ((Dk.Disk.remove out ((Dk.Disk.create out ((Dk.Disk.size nin d).1)).1)).1)).2.1.1:Nat):Int),.slice Am3 ((Xs.all nin ((Dk.Disk.size nin d).2.1) out temp how budget fan ((Dk.Disk.remove out ((Dk.Disk.create out ((Dk.Disk.size nin d).1)).1)).1)).2.1.2.length) cm4] 144)::row 9 1 (.slice Am3 ((Xs.all nin ((Dk.Disk.size nin d).2.1) out temp how budget fan ((Dk.Disk.remove out ((Dk.Disk.create out ((Dk.Disk.size nin d).1)).1)).1)).2.1.2.length) cm4) ((Xs.all nin ((Dk.Disk.size nin d).2.1) out temp how budget fan ((Dk.Disk.remove out ((Dk.Disk.create out ((Dk.Disk.size nin d).1)).1)).1)).2.1.2.length) (strs ((Xs.all nin ((Dk.Disk.size nin d).2.1) out temp how budget fan ((Dk.Disk.remove out ((Dk.Disk.create out ((Dk.Disk.size nin d).1)).1)).1)).2.1.2))::diskR db (Xs.all nin ((Dk.Disk.size nin d).2.1) out temp how budget fan ((Dk.Disk.remove out ((Dk.Disk.create out ((Dk.Disk.size nin d).1)).1)).1)).1::fr) (xs':=strs (((Xs.all nin ((Dk.Disk.size nin d).2.1) out temp how budget fan ((Dk.Disk.remove out ((Dk.Disk.create out ((Dk.Disk.size nin d).1)).1)).1)).2.1.2)++([out]))) 1 S H rfl rfl rfl rfl el46 (SlOk.ofRow (i:=0) H rfl) (one_strs _) (by simp only [maxLen];first | omega | (simp<;>omega)) (by first | omega | (simp<;>omega)) (strs_app ((Xs.all nin ((Dk.Disk.size nin d).2.1) out temp how budget fan ((Dk.Disk.remove out ((Dk.Disk.create out ((Dk.Disk.size nin d).1)).1)).1)).2.1.2) ([out])) (by first | omega | (simp<;>omega)) (fun _ _=>rfl) rfl rfl rfl fun a w A8 c9 hA8 S H=>?_
      have en:((Xs.all nin ((Dk.Disk.size nin d).2.1) out temp how budget fan ((Dk.Disk.remove out ((Dk.Disk.create out ((Dk.Disk.size nin d).1)).1)).1)).2.1.2).length+1=(((Xs.all nin ((Dk.Disk.size nin d).2.1) out temp how budget fan ((Dk.Disk.remove out ((Dk.Disk.create out ((Dk.Disk.size nin d).1)).1)).1)).2.1.2)++([out])).length:=by simp
      rw [en] at S H
      have H:=Sat.shutS (Xs.all nin ((Dk.Disk.size nin d).2.1) out temp how budget fan ((Dk.Disk.remove out ((Dk.Disk.create out ((Dk.Disk.size nin d).1)).1)).1)).2.1 (pk [2,3,0,1,4] 5 H)
      replace H:Sat _ (srtR b2 db temp fan how (Xs.all nin ((Dk.Disk.size nin d).2.1) out temp how budget fan ((Dk.Disk.remove out ((Dk.Disk.create out ((Dk.Disk.size nin d).1)).1)).1)).2.1::row 9 1 (.slice (some ⟨b7,0,none⟩) 1 1) 1 (strs [out])::row 9 1 (.slice A8 ((((Xs.all nin ((Dk.Disk.size nin d).2.1) out temp how budget fan ((Dk.Disk.remove out ((Dk.Disk.create out ((Dk.Disk.size nin d).1)).1)).1)).2.1.2)++([out])).length) c9) ((((Xs.all nin ((Dk.Disk.size nin d).2.1) out temp how budget fan ((Dk.Disk.remove out ((Dk.Disk.create out ((Dk.Disk.size nin d).1)).1)).1)).2.1.2)++([out])).length) (strs (((Xs.all nin ((Dk.Disk.size nin d).2.1) out temp how budget fan ((Dk.Disk.remove out ((Dk.Disk.create out ((Dk.Disk.size nin d).1)).1)).1)).2.1.2)++([out])))::diskR db (Xs.all nin ((Dk.Disk.size nin d).2.1) out temp how budget fan ((Dk.Disk.remove out ((Dk.Disk.create out ((Dk.Disk.size nin d).1)).1)).1)).1::fr):=H
      refine r_call (args:=#[.pointer (some ⟨b2,0,none⟩),.slice A8 ((((Xs.all nin ((Dk.Disk.size nin d).2.1) out temp how budget fan ((Dk.Disk.remove out ((Dk.Disk.create out ((Dk.Disk.size nin d).1)).1)).1)).2.1.2)++([out])).length) c9]) S rfl rfl Tryz.call86 (sgone_ct (H:=(pk [0,3,1,2] 4 H)) _ _ b2 db temp fan how ((Xs.all nin ((Dk.Disk.size nin d).2.1) out temp how budget fan ((Dk.Disk.remove out ((Dk.Disk.create out ((Dk.Disk.size nin d).1)).1)).1)).2.1) _ _ (((Xs.all nin ((Dk.Disk.size nin d).2.1) out temp how budget fan ((Dk.Disk.remove out ((Dk.Disk.create out ((Dk.Disk.size nin d).1)).1)).1)).2.1.2)++([out])) (SlOk.ofRow (i:=1) (pk [0,3,1,2] 4 H).drop.drop rfl) ((Xs.all nin ((Dk.Disk.size nin d).2.1) out temp how budget fan ((Dk.Disk.remove out ((Dk.Disk.create out ((Dk.Disk.size nin d).1)).1)).1)).1) (by omega) (by omega)) rfl rfl rfl fun v a w hR S=>?_
      obtain ⟨rfl,H⟩:=hR
      refine sn ?_
      refine sr 3 S H t0 fun a w S H=>?_
      refine wp_ret ?_
      refine x_thenRet ?_
      refine r_ret2 S H Tryz.results63 (ro_tmp S rfl) (ro_tmp S rfl) ?_
      rw [sort_bad ha he0 he1 he2 (by omega)]
      exact ⟨rfl,pk [1] 4 H⟩
    refine wp_skip ?_
    refine x_then ?_
    refine sr 3 S H t0 fun a w S H=>?_
    refine wp_ret ?_
    refine r_ret2 S H Tryz.results63 (ro_tmp S rfl) (ro_tmp S rfl) ?_
    rw [sort_ok ha he0 he1 he2 (by omega)]
    exact ⟨rfl,pk [1] 2 H⟩
  refine sb ?_
  refine rn 2 S H t0 fun a w S H=>?_
  refine r_call (args:=#[.pointer (some ⟨db,0,none⟩),str (nin)]) S rfl rfl Tryz.call36 (newrbad_ct (H:=H) _ _ db nin d (by omega) (by omega)) rfl rfl rfl fun v a w hR S=>?_
  obtain ⟨rfl,H⟩:=hR
  refine rs 5 S H t0 fun a w S H=>?_
  refine r_seq ?_
  refine sr 2 S H t0 fun a w S H=>?_
  refine r_test S rfl (fun h43=>?_) (fun h43=>?_)
  · skip
    refine sr 3 S H t0 fun a w S H=>?_
    refine wp_ret ?_
    refine x_thenRet ?_
    refine r_ret2 S H Tryz.results63 (ro_tmp S rfl) (ro_tmp S rfl) ?_
    rw [sort_size ha (by omega)]
    exact ⟨rfl,H⟩
  exfalso;omega

end Go.Proofs.YtoffbmhmocfmnaaGreatDoor
namespace Go.Proofs.YtoffbmhmocfmnaaGreatDoor
open Go.RowKit Go.Cg
set_option linter.unusedVariables false
set_option linter.unusedSimpArgs false
set_option maxRecDepth 8000
set_option synthInstance.maxHeartbeats 1000000
set_option synthInstance.maxSize 1000000
open Go.Cg.Dk (By Nm)
open Go.Cg.Rn (R Bd)
open Go.Cg.Tr (E)
theorem pright_ct (w:World) (fr:List Res) (n s:Int) (H:Sat w (fr)):
    Rt Tryz.prog 58 #[.int .i64 n,.int .i64 s] w fun v w'=>v=.bool (Oc.part n s)/\Sat w' fr:=by
  refine en2 Tryz.func58 rfl Tryz.ntmps58 rfl fun a S=>?_
  refine sr 1 S H t0 fun a w S H=>?_
  refine sb ?_
  refine rn 3 S H t0 fun a w S H=>?_
  refine scA 1 S H (fun _=>t0) fun a w S H=>?_
  refine rn 1 S H t0 fun a w S H=>?_
  refine scA 1 S H (fun _=>t0) fun a w S H=>?_
  refine rn 1 S H t0 fun a w S H=>?_
  refine scA 1 S H (fun _=>t0) fun a w S H=>?_
  refine rs 1 S H t0 fun a w S H=>?_
  refine wp_ret ?_
  refine r_ret1 S H Tryz.results58 (ro_tmp S rfl) ?_
  exact ⟨congrArg Value.bool (by unfold Oc.part;rw [Bool.eq_iff_iff];simp;omega),H⟩

instance {fr:List Res} (n s:Int):Cal Tryz.prog fr 58 [.int .i64 n,.int .i64 s] (.bool (Oc.part n s)) fr ((0:Int)<=0):=⟨Tryz.call58,fun hc w H=>pright_ct w fr n s H⟩
theorem pbound_ct (w:World) (fr:List Res) (n s i:Int) (h0:0<=n/\n<=1048576/\1<=s/\s<=4096/\0<=i/\i<=4096) (H:Sat w (fr)):
    Rt Tryz.prog 59 #[.int .i64 n,.int .i64 s,.int .i64 i] w fun v w'=>v=.int .i64 (i*n / s)/\Sat w' fr:=by
  refine en3 Tryz.func59 rfl Tryz.ntmps59 rfl fun a S=>?_
  obtain ⟨h1,h2,h3,h4,h5,h6⟩:=h0
  have hin0:0<=i*n:=Int.mul_nonneg h5 h1
  have hin:i*n<=4096*1048576:=Int.mul_le_mul h6 h2 h1 (by omega)
  have hq0:0<=i*n / s:=Int.ediv_nonneg hin0 (by omega)
  have hq:i*n / s<=i*n:=Int.ediv_le_self _ hin0
  refine sr 1 S H t0 fun a w S H=>?_
  refine sb ?_
  refine rn 4 S H (by omega) fun a w S H=>?_
  refine r_y S H (y_quoN S rfl rfl rfl (by omega) (by omega) (wdivi64 (by omega) (by omega) (by omega))) rfl rfl rfl fun a S=>?_
  refine rs 1 S H t0 fun a w S H=>?_
  refine wp_ret ?_
  refine r_ret1 S H Tryz.results59 (ro_tmp S rfl) ?_
  exact ⟨rfl,H⟩

instance {fr:List Res} (n s i:Int):Cal Tryz.prog fr 59 [.int .i64 n,.int .i64 s,.int .i64 i] (.int .i64 (i*n / s)) fr ((0<=n/\n<=1048576/\1<=s/\s<=4096/\0<=i/\i<=4096)):=⟨Tryz.call59,fun hc w H=>pbound_ct w fr n s i (by omega) H⟩
theorem ofc_ct (w:World) (fr:List Res) (bn bz by_:Nat) (n:Int) (S0:Nat) (y:Int) (i:Nat) (hp:0<=n/\n<=1048576/\1<=S0/\S0<=4096) (hi:i < 4096) (H:Sat w (blk bn (.cells #[.int .i64 n] 3)::blk bz (.cells #[.int .i64 ((S0:Nat):Int)] 3)::blk by_ (.cells #[.int .i64 y] 3)::fr)):
    Rt Tryz.prog 96 #[.int .i64 ((i:Nat):Int),.pointer (some ⟨bn,0,none⟩),.pointer (some ⟨bz,0,none⟩),.pointer (some ⟨by_,0,none⟩)] w fun v w'=>v=.bool (decide (y < Sh.bnd n S0 ((i:Int)+1)))/\Sat w' (blk bn (.cells #[.int .i64 n] 3)::blk bz (.cells #[.int .i64 ((S0:Nat):Int)] 3)::blk by_ (.cells #[.int .i64 y] 3)::fr):=by
  refine en4 Tryz.func96 rfl Tryz.ntmps96 rfl fun a S=>?_
  refine sr 1 S H t0 fun a w S H=>?_
  refine qr 8 S H (by omega) fun a w S H=>?_
  refine wp_ret ?_
  refine r_ret1 S H Tryz.results96 (ro_tmp S rfl) ?_
  exact ⟨rfl,H⟩

theorem search_ct (w:World) (fr:List Res) (bn bz by_:Nat) (n:Int) (S0:Nat) (y:Int) (hp:0<=n/\n<=1048576/\1<=S0/\S0<=4096) (hy:0<=y/\y < n) (H:Sat w (blk bn (.cells #[.int .i64 n] 3)::blk bz (.cells #[.int .i64 ((S0:Nat):Int)] 3)::blk by_ (.cells #[.int .i64 y] 3)::fr)):
    Rt Tryz.prog 95 #[.int .i64 ((S0:Nat):Int),.func (.func 96) #[] #[.pointer (some ⟨bn,0,none⟩),.pointer (some ⟨bz,0,none⟩),.pointer (some ⟨by_,0,none⟩)]] w fun v w'=>v=.int .i64 ((Sh.ofv n S0 y:Nat):Int)/\Sat w' (blk bn (.cells #[.int .i64 n] 3)::blk bz (.cells #[.int .i64 ((S0:Nat):Int)] 3)::blk by_ (.cells #[.int .i64 y] 3)::fr):=by
  refine en2 Tryz.func95 rfl Tryz.ntmps95 rfl fun a S=>?_
  refine sr 1 S H t0 fun a w S H=>?_
  refine sr 3 S H t0 fun a w S H=>?_
  refine r_seq ?_
  refine r_block ?_
  refine r_loop (ι:=Nat×Nat) (fun ⟨i,j⟩ a w=>Slots a 26 [(1,.func (.func 96) #[] #[.pointer (some ⟨bn,0,none⟩),.pointer (some ⟨bz,0,none⟩),.pointer (some ⟨by_,0,none⟩)]),(4,.int .i64 0),(5,.int .i64 ((i:Nat):Int)),(6,.int .i64 ((j:Nat):Int)),(26,undef)]/\Sat w (blk bn (.cells #[.int .i64 n] 3)::blk bz (.cells #[.int .i64 ((S0:Nat):Int)] 3)::blk by_ (.cells #[.int .i64 y] 3)::fr)/\(i<=j/\j<=S0/\(∀ k,k < i->Sh.bnd n S0 (((k:Nat):Int)+1)<=y)/\∀ k,j<=k->k < S0->y < Sh.bnd n S0 (((k:Nat):Int)+1))) (fun ⟨i,j⟩=>j - i) (0,S0) ⟨S.sub ⟨rfl,rfl,rfl,rfl,rfl,trivial⟩,H,⟨Nat.zero_le _,Nat.le_refl _,fun k h=>absurd h (Nat.not_lt_zero _),fun k h1 h2=>by omega⟩⟩ (fun ⟨i,j⟩ a w hI=>?_)
  obtain ⟨S,H,hI⟩:=hI
  obtain ⟨hij,hjs,hlo,hhi⟩:=hI
  refine r_seq ?_
  refine sr 3 S H t0 fun a w S H=>?_
  refine r_test S rfl (fun h11=>?_) (fun h11=>?_)
  · skip
    refine wp_skip ?_
    refine x_then ?_
    refine r_block ?_
    refine sb ?_
    refine rn 2 S H t0 fun a w S H=>?_
    refine r_y S H (y_add S rfl rfl rfl (wi64 (by omega) (by omega))) rfl rfl rfl fun a S=>?_
    have S:=S.retell (v':=.int .i64 (((i+j):Nat):Int)) 14 rfl (int_eq (by omega))
    refine rn 1 S H (by omega) fun a w S H=>?_
    refine r_y S H (y_bitop S rfl rfl rfl (fun w=>half64 _ w)) rfl rfl rfl fun a S=>?_
    refine rs 2 S H (by omega) fun a w S H=>?_
    refine sb ?_
    refine rn 2 S H t0 fun a w S H=>?_
    refine r_callV (args:=#[.int .i64 ((((i+j) / 2):Nat):Int)]) S rfl rfl rfl Tryz.call96 (ofc_ct (H:=H) _ _ bn bz by_ n S0 y ((i+j) / 2) (by omega) (by omega)) rfl rfl rfl fun v a w hR S=>?_
    obtain ⟨rfl,H⟩:=hR
    refine rs 1 S H t0 fun a w S H=>?_
    refine r_cond S rfl (fun h21=>?_) (fun h21=>?_)
    · skip
      refine er 3 S H (by omega) fun a w S H=>?_
      refine x_blockEnd ?_
      refine x_then ?_
      have hge:Sh.bnd n S0 (((((i+j) / 2):Nat):Int)+1)<=y:=by simpa using h21
      exact ⟨(((i+j) / 2)+1,j),⟨S.sub ⟨rfl,rfl,rfl,rfl,rfl,trivial⟩,H,⟨by omega,hjs,fun k hk=>Int.le_trans (Sh.bnd_mono hp.1 (by omega) (by omega)) hge,hhi⟩⟩,by show j - (((i+j) / 2)+1) < j - i;omega⟩
    refine er 2 S H t0 fun a w S H=>?_
    refine x_blockEnd ?_
    refine x_then ?_
    have hlt:y < Sh.bnd n S0 (((((i+j) / 2):Nat):Int)+1):=by simpa using h21
    exact ⟨(i,((i+j) / 2)),⟨S.sub ⟨rfl,rfl,rfl,rfl,rfl,trivial⟩,H,⟨by omega,by omega,hlo,fun k h1 h2=>Int.lt_of_lt_of_le hlt (Sh.bnd_mono hp.1 (by omega) (by omega))⟩⟩,by show ((i+j) / 2) - i < j - i;omega⟩
  refine wp_exit ?_
  refine x_thenExit ?_
  refine x_thenExit ?_
  refine x_blockHere ?_
  refine x_then ?_
  refine sr 2 S H t0 fun a w S H=>?_
  refine wp_ret ?_
  refine r_ret1 S H Tryz.results95 (ro_tmp S rfl) ?_
  have he:Sh.ofv n S0 y=i:=Sh.search_done (by simp only [Oc.part,decide_eq_true_eq];omega) hy.1 hy.2 (by omega) hlo (by rw [show i=j from by omega];exact hhi)
  rw [he]
  exact ⟨rfl,H⟩

theorem of_ct (w:World) (fr:List Res) (n s y:Int) (H:Sat w (fr)):
    Rt Tryz.prog 81 #[.int .i64 n,.int .i64 s,.int .i64 y] w fun v w'=>v=.tuple #[.int .i64 ((Sh.ofv n s y:Nat):Int),.int .i64 (if Oc.part n s=true/\0<=y/\y < n then 0 else 1)]/\Sat w' fr:=by
  refine en3 Tryz.func81 rfl Tryz.ntmps81 rfl fun a S=>?_
  refine sb ?_
  refine r_box (c:=#[.int .i64 n]) S H rfl rfl rfl rfl rfl rfl fun a w b1 S H=>?_
  refine r_box (c:=#[.int .i64 s]) S H rfl rfl rfl rfl rfl rfl fun a w b2 S H=>?_
  refine r_box (c:=#[.int .i64 y]) S H rfl rfl rfl rfl rfl rfl fun a w b3 S H=>?_
  refine rs 2 S H t0 fun a w S H=>?_
  refine r_seq ?_
  refine sb ?_
  refine rn 5 S H (by omega) fun a w S H=>?_
  refine scO 1 S H (fun _=>t0) fun a w S H=>?_
  refine rn 1 S H t0 fun a w S H=>?_
  refine scO 2 S H (fun _=>t0) fun a w S H=>?_
  refine sn ?_
  refine r_cond S rfl (fun h20=>?_) (fun h20=>?_)
  · skip
    refine sr 2 S H t0 fun a w S H=>?_
    refine wp_ret ?_
    refine x_thenRet ?_
    refine r_ret2 S H Tryz.results81 (ro_tmp S rfl) (ro_tmp S rfl) ?_
    have hpf:¬ (Oc.part n s=true/\0<=y/\y < n):=by simp only [Bool.or_eq_true,Bool.not_eq_true',decide_eq_true_eq] at h20;rintro ⟨k1,k2,k3⟩;rw [k1] at h20;simp at h20;omega
    rw [Sh.ofv_bad hpf,if_neg hpf]
    exact ⟨rfl,H.drop.drop.drop⟩
  refine wp_skip ?_
  refine x_then ?_
  have hpt:Oc.part n s=true/\0<=y/\y < n:=by simp only [Bool.or_eq_false_iff,Bool.not_eq_false',decide_eq_false_iff_not] at h20;exact ⟨h20.1.1,by omega,by omega⟩
  have hpl:=Sh.part_le hpt.1
  obtain ⟨S0,rfl⟩:=Int.eq_ofNat_of_zero_le (show 0<=s by omega)
  refine sb ?_
  refine rn 1 S H t0 fun a w S H=>?_
  refine r_y S H (y_makeFunc (vs:=#[.pointer (some ⟨b1,0,none⟩),.pointer (some ⟨b2,0,none⟩),.pointer (some ⟨b3,0,none⟩)]) S rfl rfl) rfl rfl rfl fun a S=>?_
  refine r_call (args:=#[.int .i64 ((S0:Nat):Int),.func (.func 96) #[] #[.pointer (some ⟨b1,0,none⟩),.pointer (some ⟨b2,0,none⟩),.pointer (some ⟨b3,0,none⟩)]]) S rfl rfl Tryz.call95 (search_ct (H:=(pk [2,1,0] 3 H)) _ _ b1 b2 b3 n S0 y (by omega) (by omega)) rfl rfl rfl fun v a w hR S=>?_
  obtain ⟨rfl,H⟩:=hR
  refine rs 2 S H t0 fun a w S H=>?_
  refine wp_ret ?_
  refine r_ret2 S H Tryz.results81 (ro_tmp S rfl) (ro_tmp S rfl) ?_
  rw [if_pos hpt]
  exact ⟨rfl,H.drop.drop.drop⟩

theorem pack_ct (w:World) (fr:List Res) (e:E) (he:e.f < 4294967296/\e.t < 4294967296/\e.w < 4294967296) (H:Sat w (fr)):
    Rt Tryz.prog 83 #[.agg #[.int .u32 ((e.f:Nat):Int),.int .u32 ((e.t:Nat):Int),.int .u32 ((e.w:Nat):Int)]] w fun v w'=>v=.agg #[.int .u64 (((Sh.pack e).1:Nat):Int),.int .u64 (((Sh.pack e).2:Nat):Int)]/\Sat w' fr:=by
  refine en1 Tryz.func83 rfl Tryz.ntmps83 rfl fun a S=>?_
  refine sb ?_
  refine r_box (c:=#[.int .u32 ((e.f:Nat):Int),.int .u32 ((e.t:Nat):Int),.int .u32 ((e.w:Nat):Int)]) S H rfl rfl rfl rfl rfl rfl fun a w b1 S H=>?_
  refine r_alloc S H rfl Tryz.zeroValue91 rfl rfl rfl rfl fun a w b2 S H=>?_
  replace H:Sat _ (blk b2 (.cells #[.int .u64 0,.int .u64 0] 91)::blk b1 (.cells #[.int .u32 ((e.f:Nat):Int),.int .u32 ((e.t:Nat):Int),.int .u32 ((e.w:Nat):Int)] 61)::fr):=H
  refine sn ?_
  refine sb ?_
  refine rn 3 S H (by omega) fun a w S H=>?_
  refine r_y S H (y_bitop S rfl rfl rfl (fun w=>shl32 e.f (by omega) w)) rfl rfl rfl fun a S=>?_
  refine rn 3 S H (by omega) fun a w S H=>?_
  refine r_y S H (y_bitop S rfl rfl rfl (fun w=>or32 e.f e.t (by omega) he.2.1 w)) rfl rfl rfl fun a S=>?_
  refine rn 3 S H (by omega) fun a w S H=>?_
  refine r_y S H (y_build (vs:=#[(0,.int .u64 (((e.f*4294967296+e.t):Nat):Int)),(1,.int .u64 ((e.w:Nat):Int))]) (v:=.agg #[.int .u64 (((e.f*4294967296+e.t):Nat):Int),.int .u64 ((e.w:Nat):Int)]) S rfl rfl (fun w=>by kernel_rfl)) rfl rfl rfl fun a S=>?_
  refine rs 1 S H t0 fun a w S H=>?_
  refine wp_ret ?_
  refine r_ret1 S H Tryz.results83 (ro_agg [_,_] (i:=0) S rfl (fun w=>⟨Tryz.isAgg91 w,Tryz.sizeOf91 w⟩) rfl rfl ⟨rfl,rfl,trivial⟩) ?_
  exact ⟨rfl,H.drop.drop⟩

theorem unpack_ct (w:World) (fr:List Res) (r:R) (H:Sat w (fr)):
    Rt Tryz.prog 39 #[.agg #[.int .u64 ((r.1:Nat):Int),.int .u64 ((r.2:Nat):Int)]] w fun v w'=>v=.agg #[.int .u32 (((Sh.unpack r).f:Nat):Int),.int .u32 (((Sh.unpack r).t:Nat):Int),.int .u32 (((Sh.unpack r).w:Nat):Int)]/\Sat w' fr:=by
  refine en1 Tryz.func39 rfl Tryz.ntmps39 rfl fun a S=>?_
  refine sb ?_
  refine r_box (c:=#[.int .u64 ((r.1:Nat):Int),.int .u64 ((r.2:Nat):Int)]) S H rfl rfl rfl rfl rfl rfl fun a w b1 S H=>?_
  refine r_alloc S H rfl Tryz.zeroValue61 rfl rfl rfl rfl fun a w b2 S H=>?_
  replace H:Sat _ (blk b2 (.cells #[.int .u32 0,.int .u32 0,.int .u32 0] 61)::blk b1 (.cells #[.int .u64 ((r.1:Nat):Int),.int .u64 ((r.2:Nat):Int)] 91)::fr):=H
  refine sn ?_
  refine sb ?_
  refine rn 2 S H t0 fun a w S H=>?_
  refine r_y S H (y_bitop S rfl rfl rfl (fun w=>div32 r.1 w)) rfl rfl rfl fun a S=>?_
  refine r_y S H (y_convW S rfl rfl Tryz.underlying89 Tryz.underlying59) rfl rfl rfl fun a S=>?_
  have S:=S.retell (v':=.int .u32 (((r.1 / 4294967296%4294967296):Nat):Int)) 6 rfl (congrArg (Value.int .u32) (low32 (r.1 / 4294967296)))
  refine rn 2 S H t0 fun a w S H=>?_
  refine r_y S H (y_convW S rfl rfl Tryz.underlying89 Tryz.underlying59) rfl rfl rfl fun a S=>?_
  have S:=S.retell (v':=.int .u32 (((r.1%4294967296):Nat):Int)) 9 rfl (congrArg (Value.int .u32) (low32 r.1))
  refine rn 2 S H t0 fun a w S H=>?_
  refine r_y S H (y_convW S rfl rfl Tryz.underlying89 Tryz.underlying59) rfl rfl rfl fun a S=>?_
  have S:=S.retell (v':=.int .u32 (((r.2%4294967296):Nat):Int)) 12 rfl (congrArg (Value.int .u32) (low32 r.2))
  refine r_y S H (y_build (vs:=#[(0,.int .u32 (((r.1 / 4294967296%4294967296):Nat):Int)),(1,.int .u32 (((r.1%4294967296):Nat):Int)),(2,.int .u32 (((r.2%4294967296):Nat):Int))]) (v:=.agg #[.int .u32 (((r.1 / 4294967296%4294967296):Nat):Int),.int .u32 (((r.1%4294967296):Nat):Int),.int .u32 (((r.2%4294967296):Nat):Int)]) S rfl rfl (fun w=>by kernel_rfl)) rfl rfl rfl fun a S=>?_
  refine rs 1 S H t0 fun a w S H=>?_
  refine wp_ret ?_
  refine r_ret1 S H Tryz.results39 (ro_agg [_,_,_] (i:=0) S rfl (fun w=>⟨Tryz.isAgg61 w,Tryz.sizeOf61 w⟩) rfl rfl ⟨rfl,rfl,rfl,trivial⟩) ?_
  exact ⟨rfl,H.drop.drop⟩

end Go.Proofs.YtoffbmhmocfmnaaGreatDoor
namespace Go.Proofs.YtoffbmhmocfmnaaGreatDoor
open Go.RowKit Go.Cg
set_option linter.unusedVariables false
set_option linter.unusedSimpArgs false
set_option maxRecDepth 8000
set_option synthInstance.maxHeartbeats 1000000
set_option synthInstance.maxSize 1000000
open Go.Cg.Dk (By Nm)
open Go.Cg.Rn (R Bd)
open Go.Cg.Tr (E)
theorem edge_out (w:World) (fr:List Res) (gb:Nat) (n:Int) (A:Option Addr) (k c:Nat) (e:E) (h32:e.f < 4294967296/\e.t < 4294967296) (H:Sat w (blk gb (.cells #[.int .i64 n,.slice A k c] 24)::fr)):
    Rt Tryz.prog 61 #[.agg #[.int .u32 ((e.f:Nat):Int),.int .u32 ((e.t:Nat):Int),.int .u32 ((e.w:Nat):Int)],.pointer (some ⟨gb,0,none⟩)] w fun v w'=>v=.bool (decide (n<=e.f)||decide (n<=e.t))/\Sat w' (blk gb (.cells #[.int .i64 n,.slice A k c] 24)::fr):=by
  refine en2 Tryz.func61 rfl Tryz.ntmps61 rfl fun a S=>?_
  refine sb ?_
  refine r_box (c:=#[.int .u32 ((e.f:Nat):Int),.int .u32 ((e.t:Nat):Int),.int .u32 ((e.w:Nat):Int)]) S H rfl rfl rfl rfl rfl rfl fun a w b1 S H=>?_
  refine rs 1 S H t0 fun a w S H=>?_
  refine sb ?_
  refine rn 7 S H (by omega) fun a w S H=>?_
  refine scO 5 S H (fun h=>by simp only [Bool.or_eq_false_iff,Bool.and_eq_true,decide_eq_true_eq,decide_eq_false_iff_not] at h;omega) fun a w S H=>?_
  refine rs 1 S H t0 fun a w S H=>?_
  refine wp_ret ?_
  refine r_ret1 S H Tryz.results61 (ro_tmp S rfl) ?_
  exact ⟨rfl,H.drop⟩

theorem getDE_mem {es:List E} {i:Nat} (h:i < es.length):es.getD i e0∈es:=by rw [List.getD_eq_getElem?_getD,List.getElem?_eq_getElem h];exact List.getElem_mem _
theorem indexf_ct (w:World) (fr:List Res) (gb:Nat) (n:Int) (A:Option Addr) (c:Nat) (es:List E) (ok:SlOk fr 3 A es.length c (ecells es)) (hes:Sh.E32 es) (H:Sat w (blk gb (.cells #[.int .i64 n,.slice A es.length c] 24)::fr)):
    Rt Tryz.prog 79 #[.slice A es.length c,.func (.func 61) #[] #[.pointer (some ⟨gb,0,none⟩)]] w fun v w'=>(∃r:Int,v=.int .i64 r/\(0<=r↔es.any (fun e=>decide (n<=(e.f:Int))||decide (n<=(e.t:Int)))=true))/\Sat w' (blk gb (.cells #[.int .i64 n,.slice A es.length c] 24)::fr):=by
  refine en2 Tryz.func79 rfl Tryz.ntmps79 rfl fun a S=>?_
  have hcap:=ok.le
  have hmax:c<=9223372036854775807:=ok.cap
  refine sr 1 S H t0 fun a w S H=>?_
  refine r_seq ?_
  refine sr 3 S H t0 fun a w S H=>?_
  refine r_block ?_
  refine r_loop (ι:=Nat) (fun k a w=>Slots a 19 [(0,.slice A es.length c),(1,.func (.func 61) #[] #[.pointer (some ⟨gb,0,none⟩)]),(7,.int .i64 ((es.length:Nat):Int)),(8,.int .i64 ((k:Nat):Int)),(19,undef)]/\Sat w (blk gb (.cells #[.int .i64 n,.slice A es.length c] 24)::fr)/\(k<=es.length/\∀ j,j < k->(fun e=>decide (n<=(e.f:Int))||decide (n<=(e.t:Int))) (es.getD j e0)=false)) (fun k=>es.length - k) 0 ⟨S.sub ⟨rfl,rfl,rfl,rfl,rfl,trivial⟩,H,⟨Nat.zero_le _,fun j hj=>absurd hj (Nat.not_lt_zero j)⟩⟩ (fun k a w hI=>?_)
  obtain ⟨S,H,hI⟩:=hI
  obtain ⟨hk,hne⟩:=hI
  refine sr 1 S H t0 fun a w S H=>?_
  refine r_seq ?_
  refine r_test S rfl (fun h9=>?_) (fun h9=>?_)
  · skip
    refine wp_skip ?_
    refine x_then ?_
    refine r_seq ?_
    refine r_block ?_
    refine sr 2 S H t0 fun a w S H=>?_
    refine sb ?_
    refine rn 3 S H t0 fun a w S H=>?_
    obtain ⟨b1,o2,rfl⟩:=(ok.more _).addr H (by first | omega | (simp<;>omega))
    refine r_y S H (y_index S rfl rfl rfl Tryz.underlying22 Tryz.sizeOf61 (by omega) (by omega)) rfl rfl rfl fun a S=>?_
    refine r_y S H (y_loadAggAt [.int .u32 (((es.getD k e0).f:Nat):Int),.int .u32 (((es.getD k e0).t:Nat):Int),.int .u32 (((es.getD k e0).w:Nat):Int)] S rfl rfl (fun w=>⟨Tryz.isAgg61 w,Tryz.sizeOf61 w⟩) rfl (fun w H=>(ok.more _).cells w H (ecells_from (i:=k) (by first | omega | (simp<;>omega))))) rfl rfl rfl fun a S=>?_
    refine r_callV (args:=#[.agg #[.int .u32 (((es.getD k e0).f:Nat):Int),.int .u32 (((es.getD k e0).t:Nat):Int),.int .u32 (((es.getD k e0).w:Nat):Int)]]) S rfl rfl rfl Tryz.call61 (edge_out (H:=H) _ _ gb n (some ⟨b1,o2,none⟩) es.length c (es.getD k e0) ⟨(hes (es.getD k e0) (getDE_mem (by omega))).1,(hes (es.getD k e0) (getDE_mem (by omega))).2.1⟩) rfl rfl rfl fun v a w hR S=>?_
    obtain ⟨rfl,H⟩:=hR
    refine sn ?_
    refine r_cond S rfl (fun h16=>?_) (fun h16=>?_)
    · skip
      refine sr 2 S H t0 fun a w S H=>?_
      refine wp_ret ?_
      refine x_blockRet ?_
      refine x_thenRet ?_
      refine x_thenRet ?_
      refine x_blockRet ?_
      refine x_thenRet ?_
      refine r_ret1 S H Tryz.results79 (ro_tmp S rfl) ?_
      exact ⟨⟨_,rfl,⟨fun _=>List.any_eq_true.2 ⟨_,getDE_mem (by omega:k < es.length),h16⟩,fun _=>by omega⟩⟩,H⟩
    refine wp_skip ?_
    refine x_blockEnd ?_
    refine x_then ?_
    refine er 2 S H (by omega) fun a w S H=>?_
    refine x_then ?_
    exact ⟨(k+1),⟨S.sub ⟨rfl,rfl,rfl,rfl,rfl,trivial⟩,H,⟨by omega,fun j hj=>(Nat.lt_succ_iff_lt_or_eq.1 hj).elim (hne j) (fun e=>by rw [e];exact h16)⟩⟩,by show es.length - (k+1) < es.length - k;omega⟩
  refine wp_exit ?_
  refine x_thenExit ?_
  refine x_thenExit ?_
  refine x_blockHere ?_
  refine x_then ?_
  refine sr 1 S H t0 fun a w S H=>?_
  refine wp_ret ?_
  refine r_ret1 S H Tryz.results79 (ro_tmp S rfl) ?_
  refine ⟨⟨_,rfl,⟨fun h=>absurd h (by decide),fun hm=>?_⟩⟩,H⟩
  exfalso
  obtain ⟨e,he,hb⟩:=List.any_eq_true.1 hm
  obtain ⟨j,hj,e1⟩:=List.mem_iff_getElem.1 he
  have h2:=hne j (by omega)
  rw [List.getD_eq_getElem?_getD,List.getElem?_eq_getElem hj] at h2
  simp only [Option.getD_some,e1] at h2
  rw [h2] at hb;cases hb

theorem containsf_ct (w:World) (fr:List Res) (gb:Nat) (n:Int) (A:Option Addr) (c:Nat) (es:List E) (ok:SlOk fr 3 A es.length c (ecells es)) (hes:Sh.E32 es) (H:Sat w (blk gb (.cells #[.int .i64 n,.slice A es.length c] 24)::fr)):
    Rt Tryz.prog 60 #[.slice A es.length c,.func (.func 61) #[] #[.pointer (some ⟨gb,0,none⟩)]] w fun v w'=>v=.bool (es.any (fun e=>decide (n<=(e.f:Int))||decide (n<=(e.t:Int))))/\Sat w' (blk gb (.cells #[.int .i64 n,.slice A es.length c] 24)::fr):=by
  refine en2 Tryz.func60 rfl Tryz.ntmps60 rfl fun a S=>?_
  refine sr 1 S H t0 fun a w S H=>?_
  refine sb ?_
  refine rn 2 S H t0 fun a w S H=>?_
  refine r_call (args:=#[.slice A es.length c,.func (.func 61) #[] #[.pointer (some ⟨gb,0,none⟩)]]) S rfl rfl Tryz.call79 (indexf_ct (H:=H) _ _ gb n A c es ok (hes)) rfl rfl rfl fun v a w hR S=>?_
  obtain ⟨⟨r,rfl,hr⟩,H⟩:=hR
  refine rs 2 S H t0 fun a w S H=>?_
  refine wp_ret ?_
  refine r_ret1 S H Tryz.results60 (ro_tmp S rfl) ?_
  refine ⟨congrArg Value.bool ?_,H⟩
  rw [Bool.eq_iff_iff,decide_eq_true_eq,hr]

theorem edges_ct (w:World) (fr:List Res) (n:Int) (A:Option Addr) (c:Nat) (es:List E) (ok:SlOk fr 3 A es.length c (ecells es)) (hes:Sh.E32 es) (H:Sat w (fr)):
    Rt Tryz.prog 34 #[.agg #[.int .i64 n,.slice A es.length c]] w fun v w'=>v=.bool (Tr.graph n es)/\Sat w' fr:=by
  refine en1 Tryz.func34 rfl Tryz.ntmps34 rfl fun a S=>?_
  have hcap:=ok.le
  have hmax:c<=9223372036854775807:=ok.cap
  refine sb ?_
  refine r_box (c:=#[.int .i64 n,.slice A es.length c]) S H rfl rfl rfl rfl rfl rfl fun a w b1 S H=>?_
  refine rs 1 S H t0 fun a w S H=>?_
  refine r_seq ?_
  refine sb ?_
  refine rn 4 S H t0 fun a w S H=>?_
  refine scO 2 S H (fun _=>t0) fun a w S H=>?_
  refine rn 1 S H t0 fun a w S H=>?_
  refine scO 3 S H (fun _=>t0) fun a w S H=>?_
  refine sn ?_
  refine r_cond S rfl (fun h16=>?_) (fun h16=>?_)
  · skip
    refine sr 1 S H t0 fun a w S H=>?_
    refine wp_ret ?_
    refine x_thenRet ?_
    refine r_ret1 S H Tryz.results34 (ro_tmp S rfl) ?_
    have e:Tr.graph n es=false:=by unfold Tr.graph;rw [decide_eq_false_iff_not];intro hx;simp only [Bool.or_eq_true,decide_eq_true_eq] at h16;omega
    rw [e]
    exact ⟨rfl,H.drop⟩
  refine wp_skip ?_
  refine x_then ?_
  refine sb ?_
  refine rn 2 S H t0 fun a w S H=>?_
  refine r_y S H (y_makeFunc (vs:=#[.pointer (some ⟨b1,0,none⟩)]) S rfl rfl) rfl rfl rfl fun a S=>?_
  refine r_call (args:=#[.slice A es.length c,.func (.func 61) #[] #[.pointer (some ⟨b1,0,none⟩)]]) S rfl rfl Tryz.call60 (containsf_ct (H:=H) _ _ b1 n A c es (ok.via fun _ H=>H) (hes)) rfl rfl rfl fun v a w hR S=>?_
  obtain ⟨rfl,H⟩:=hR
  refine rs 2 S H t0 fun a w S H=>?_
  refine wp_ret ?_
  refine r_ret1 S H Tryz.results34 (ro_tmp S rfl) ?_
  refine ⟨congrArg Value.bool ?_,H.drop⟩
  symm
  unfold Tr.graph
  rw [Bool.eq_iff_iff,decide_eq_true_eq]
  simp only [Bool.or_eq_false_iff,decide_eq_false_iff_not,Bool.not_eq_true',List.any_eq_false,Bool.or_eq_true,decide_eq_true_eq] at *
  constructor
  · intro hx e hm;have:=hx.2.2.2 e hm;omega
  · intro hx;exact ⟨by omega,by omega,by omega,fun e hm=>by have:=hx e hm;omega⟩

end Go.Proofs.YtoffbmhmocfmnaaGreatDoor
namespace Go.Proofs.YtoffbmhmocfmnaaGreatDoor
open Go.RowKit Go.Cg
set_option linter.unusedVariables false
set_option linter.unusedSimpArgs false
set_option maxRecDepth 8000
set_option synthInstance.maxHeartbeats 1000000
set_option synthInstance.maxSize 1000000
open Go.Cg.Dk (By Nm)
open Go.Cg.Rn (R Bd)
open Go.Cg.Tr (E)
theorem shname_ct (w:World) (fr:List Res) (hl:Laid fr) (i:Nat) (hi:i < 100000) (H:Sat w (fr)):
    Rt Tryz.prog 19 #[.int .i64 ((i:Nat):Int)] w fun v w'=>v=str (Sh.sname i)/\Sat w' fr:=by
  refine en1 Tryz.func19 rfl Tryz.ntmps19 rfl fun a S=>?_
  have hil:=itoa_le (x:=((i:Nat):Int)) (by omega) (by omega)
  refine sr 1 S H t0 fun a w S H=>?_
  refine sb ?_
  refine r_y S H (y_move S rfl rfl) rfl rfl rfl fun a S=>?_
  refine r_call (args:=#[.int .i64 ((i:Nat):Int)]) S rfl rfl Tryz.call43 (itoa_ct (H:=H) _ _ (hl.via fun _ H=>H) ((i:Nat):Int) (by omega) (by omega)) rfl rfl rfl fun v a w hR S=>?_
  obtain ⟨rfl,H⟩:=hR
  refine r_y S H (y_addS S rfl rfl rfl (by simp;omega)) rfl rfl rfl fun a S=>?_
  refine rs 1 S H t0 fun a w S H=>?_
  refine wp_ret ?_
  refine r_ret1 S H Tryz.results19 (ro_tmp S rfl) ?_
  exact ⟨rfl,H⟩

theorem split_ct (w:World) (fr:List Res) (hl:Laid fr) (db:Nat) (n:Int) (A:Option Addr) (c:Nat) (es:List E) (ok:SlOk fr 3 A es.length c (ecells es)) (hes:Sh.E32 es) (s:Int) (k:Nat) (d:Dk.Disk) (hk:k < 100000) (hc:d.files.length+1<=4398046511104) (H:Sat w (diskR db d::fr)):
    Rt Tryz.prog 62 #[.pointer (some ⟨db,0,none⟩),.agg #[.int .i64 n,.slice A es.length c],.int .i64 s,.int .i64 ((k:Nat):Int)] w fun v w'=>v=.tuple #[str (Sh.pname k),.int .i64 (((Sh.split n s es k d).2:Nat):Int)]/\Sat w' (diskR db (Sh.split n s es k d).1::fr):=by
  refine en4 Tryz.func62 rfl Tryz.ntmps62 rfl fun a S=>?_
  have hil:=itoa_le (x:=((k:Nat):Int)) (by omega) (by omega)
  have hcc:=Dk.len_create d (Sh.pname k)
  have hcap:=ok.le
  have hmax:c<=9223372036854775807:=ok.cap
  refine sb ?_
  refine r_box (c:=#[.int .i64 n,.slice A es.length c]) S H rfl rfl rfl rfl rfl rfl fun a w b1 S H=>?_
  refine rs 2 S H t0 fun a w S H=>?_
  refine sb ?_
  refine rn 1 S H t0 fun a w S H=>?_
  refine r_call (args:=#[.int .i64 ((k:Nat):Int)]) S rfl rfl Tryz.call43 (itoa_ct (H:=H) _ _ (hl.via fun _ H=>H.drop.drop) ((k:Nat):Int) (by omega) (by omega)) rfl rfl rfl fun v a w hR S=>?_
  obtain ⟨rfl,H⟩:=hR
  refine r_y S H (y_addS S rfl rfl rfl (by simp;omega)) rfl rfl rfl fun a S=>?_
  have S:=S.retell (v':=str ((Sh.pname k))) 20 rfl rfl
  refine rs 1 S H t0 fun a w S H=>?_
  rcases Nat.eq_zero_or_pos (Dk.Disk.create (Sh.pname k) d).2 with hc0 | hc0
  · skip
    refine sb ?_
    refine rn 2 S H t0 fun a w S H=>?_
    refine r_call (args:=#[.pointer (some ⟨db,0,none⟩),str ((Sh.pname k))]) S rfl rfl Tryz.call80 (neww_ct (H:=(pk [1,0] 2 H)) _ _ db (Sh.pname k) d (by omega) (by omega)) rfl rfl rfl fun v a w hR S=>?_
    obtain ⟨b2,rfl,H⟩:=hR
    refine rs 5 S H t0 fun a w S H=>?_
    refine r_seq ?_
    refine sr 2 S H t0 fun a w S H=>?_
    have S:=S.retell (v':=.bool false) 28 rfl rfl
    refine r_condF S rfl ?_
    refine wp_skip ?_
    refine x_then ?_
    refine r_seq ?_
    refine sr 4 S H t0 fun a w S H=>?_
    refine r_block ?_
    refine r_loop (ι:=Nat×Option Addr×Nat) (fun ⟨i,At,ct⟩ a w=>Slots a 63 [(2,.int .i64 s),(3,.int .i64 ((k:Nat):Int)),(5,.pointer (some ⟨b1,0,none⟩)),(10,str ((Sh.pname k))),(11,.pointer (some ⟨b2,0,none⟩)),(32,.slice A es.length c),(33,.int .i64 ((es.length:Nat):Int)),(34,.int .i64 ((i:Nat):Int)),(63,undef)]/\Sat w (blk b1 (.cells #[.int .i64 n,.slice A es.length c] 24)::blk b2 (.cells #[.pointer (some ⟨db,0,none⟩),str ((Sh.pname k)),.slice At ((Rn.wputs (Sh.pname k) (Sh.pk n s es k i) [] (Dk.Disk.create (Sh.pname k) d).1).2.1.length) ct,.bool false] 158)::row 5 1 (.slice At ((Rn.wputs (Sh.pname k) (Sh.pk n s es k i) [] (Dk.Disk.create (Sh.pname k) d).1).2.1.length) ct) ((Rn.wputs (Sh.pname k) (Sh.pk n s es k i) [] (Dk.Disk.create (Sh.pname k) d).1).2.1.length) (u8s ((Rn.wputs (Sh.pname k) (Sh.pk n s es k i) [] (Dk.Disk.create (Sh.pname k) d).1).2.1))::diskR db (Rn.wputs (Sh.pname k) (Sh.pk n s es k i) [] (Dk.Disk.create (Sh.pname k) d).1).1::fr)/\(i<=es.length/\(Rn.wputs (Sh.pname k) (Sh.pk n s es k i) [] (Dk.Disk.create (Sh.pname k) d).1).2.2=0)) (fun ⟨i,At,ct⟩=>es.length - i) (0,none,0) ⟨S.sub ⟨rfl,rfl,rfl,rfl,rfl,rfl,rfl,rfl,rfl,trivial⟩,pk [3,0,1,2] 4 H,⟨Nat.zero_le _,rfl⟩⟩ (fun ⟨i,At,ct⟩ a w hI=>?_)
    obtain ⟨S,H,hI⟩:=hI
    obtain ⟨hil2,hp⟩:=hI
    have hsc:=Rn.wputs_cnt (Sh.pname k) (Sh.pk n s es k i) [] (Dk.Disk.create (Sh.pname k) d).1
    have hsm:(Rn.wputs (Sh.pname k) (Sh.pk n s es k i) [] (Dk.Disk.create (Sh.pname k) d).1).2.1.length < 800:=wputs_small _ _ _
    refine sr 1 S H t0 fun a w S H=>?_
    refine r_seq ?_
    refine r_test S rfl (fun h35=>?_) (fun h35=>?_)
    · skip
      refine wp_skip ?_
      refine x_then ?_
      refine r_seq ?_
      refine r_block ?_
      refine sb ?_
      obtain ⟨b3,o4,rfl⟩:=((((ok.more _).more _).more _).more _).addr H (by first | omega | (simp<;>omega))
      refine r_y S H (y_index S rfl rfl rfl Tryz.underlying22 Tryz.sizeOf61 (by omega) (by omega)) rfl rfl rfl fun a S=>?_
      refine r_y S H (y_loadAggAt [.int .u32 (((es.getD i e0).f:Nat):Int),.int .u32 (((es.getD i e0).t:Nat):Int),.int .u32 (((es.getD i e0).w:Nat):Int)] S rfl rfl (fun w=>⟨Tryz.isAgg61 w,Tryz.sizeOf61 w⟩) rfl (fun w H=>((((ok.more _).more _).more _).more _).cells w H (ecells_from (i:=i) (by first | omega | (simp<;>omega))))) rfl rfl rfl fun a S=>?_
      refine r_alloc S H rfl Tryz.zeroValue61 rfl rfl rfl rfl fun a w b5 S H=>?_
      replace H:Sat _ (blk b5 (.cells #[.int .u32 0,.int .u32 0,.int .u32 0] 61)::blk b1 (.cells #[.int .i64 n,.slice (some ⟨b3,o4,none⟩) es.length c] 24)::blk b2 (.cells #[.pointer (some ⟨db,0,none⟩),str ((Sh.pname k)),.slice At ((Rn.wputs (Sh.pname k) (Sh.pk n s es k i) [] (Dk.Disk.create (Sh.pname k) d).1).2.1.length) ct,.bool false] 158)::row 5 1 (.slice At ((Rn.wputs (Sh.pname k) (Sh.pk n s es k i) [] (Dk.Disk.create (Sh.pname k) d).1).2.1.length) ct) ((Rn.wputs (Sh.pname k) (Sh.pk n s es k i) [] (Dk.Disk.create (Sh.pname k) d).1).2.1.length) (u8s ((Rn.wputs (Sh.pname k) (Sh.pk n s es k i) [] (Dk.Disk.create (Sh.pname k) d).1).2.1))::diskR db (Rn.wputs (Sh.pname k) (Sh.pk n s es k i) [] (Dk.Disk.create (Sh.pname k) d).1).1::fr):=H
      refine rs 1 S H t0 fun a w S H=>?_
      refine r_seq ?_
      have hei:=hes (es.getD i e0) (getDE_mem (by omega))
      refine sb ?_
      refine rn 6 S H (by omega) fun a w S H=>?_
      refine r_call (args:=#[.int .i64 n,.int .i64 s,.int .i64 (((es.getD i e0).t:Nat):Int)]) S rfl rfl Tryz.call81 (of_ct (H:=H) _ _ n s (((es.getD i e0).t:Nat):Int)) rfl rfl rfl fun v a w hR S=>?_
      obtain ⟨rfl,H⟩:=hR
      refine rs 5 S H t0 fun a w S H=>?_
      refine sr 3 S H t0 fun a w S H=>?_
      refine r_test S rfl (fun h50=>?_) (fun h50=>?_)
      · skip
        refine wp_exit ?_
        refine x_thenExit ?_
        refine x_blockHere ?_
        refine x_then ?_
        refine er 2 S H (by omega) fun a w S H=>?_
        refine x_then ?_
        have hno:Sh.pk n s es k (i+1)=Sh.pk n s es k i:=Sh.pk_no (by omega) (by omega)
        have H:=pk [1,2,3,4] 5 H
        exact ⟨(i+1,At,ct),⟨S.sub ⟨rfl,rfl,rfl,rfl,rfl,rfl,rfl,rfl,rfl,trivial⟩,(by rw [hno];exact H),⟨by omega,by rw [hno];exact hp⟩⟩,by show es.length - (i+1) < es.length - i;omega⟩
      refine wp_skip ?_
      refine x_then ?_
      have hof:Sh.ofv n s ((((es.getD i e0).t:Nat):Int))=k:=by omega
      have hwt:(Rn.wputs (Sh.pname k) (Sh.pk n s es k (i+1)) [] (Dk.Disk.create (Sh.pname k) d).1)=Rn.wput (Sh.pname k) (Sh.pack (es.getD i e0)) (Rn.wputs (Sh.pname k) (Sh.pk n s es k i) [] (Dk.Disk.create (Sh.pname k) d).1).2.1 (Rn.wputs (Sh.pname k) (Sh.pk n s es k i) [] (Dk.Disk.create (Sh.pname k) d).1).1:=by rw [Sh.pk_yes (by omega) hof,Rn.wputs_snoc hp]
      refine sb ?_
      refine rn 2 S H t0 fun a w S H=>?_
      refine r_call (args:=#[.agg #[.int .u32 (((es.getD i e0).f:Nat):Int),.int .u32 (((es.getD i e0).t:Nat):Int),.int .u32 (((es.getD i e0).w:Nat):Int)]]) S rfl rfl Tryz.call83 (pack_ct (H:=H) _ _ (es.getD i e0) (hei)) rfl rfl rfl fun v a w hR S=>?_
      obtain ⟨rfl,H⟩:=hR
      refine r_call (args:=#[.pointer (some ⟨b2,0,none⟩),.agg #[.int .u64 (((Sh.pack (es.getD i e0)).1:Nat):Int),.int .u64 (((Sh.pack (es.getD i e0)).2:Nat):Int)]]) S rfl rfl Tryz.call82 (wput_ct (H:=(pk [2,3,4,0,1] 5 H)) _ _ b2 db (Sh.pname k) (Sh.pack (es.getD i e0)) _ _ ((Rn.wputs (Sh.pname k) (Sh.pk n s es k i) [] (Dk.Disk.create (Sh.pname k) d).1).2.1) ((Rn.wputs (Sh.pname k) (Sh.pk n s es k i) [] (Dk.Disk.create (Sh.pname k) d).1).1) (by omega) (hsm) (Sh.pack_lt hei)) rfl rfl rfl fun v a w hR S=>?_
      obtain ⟨A6,c7,rfl,H⟩:=hR
      refine rs 1 S H t0 fun a w S H=>?_
      refine sr 2 S H t0 fun a w S H=>?_
      refine r_test S rfl (fun h56=>?_) (fun h56=>?_)
      · skip
        refine sr 4 S H t0 fun a w S H=>?_
        refine wp_ret ?_
        refine x_blockRet ?_
        refine x_thenRet ?_
        refine x_thenRet ?_
        refine x_blockRet ?_
        refine x_thenRet ?_
        refine r_ret2 S H Tryz.results62 (ro_tmp S rfl) (ro_tmp S rfl) ?_
        have hst:=Sh.pk_stop (n:=n) (s:=s) (es:=es) (k:=k) (i:=i+1) (nm:=(Sh.pname k)) (d:=(Dk.Disk.create (Sh.pname k) d).1) (by rw [hwt];omega)
        have e:(Sh.split n s es k d)=_:=Rn.write_stop (n:=(Sh.pname k)) (l:=((Sh.mine n s k es).map Sh.pack)) (d:=d) hc0 (by rw [hst,hwt];omega)
        rw [hst,hwt] at e
        rw [e]
        exact ⟨rfl,pk [2] 5 H⟩
      refine wp_skip ?_
      refine x_blockEnd ?_
      refine x_then ?_
      refine er 2 S H (by omega) fun a w S H=>?_
      refine x_then ?_
      have hp0:(Rn.wput (Sh.pname k) (Sh.pack (es.getD i e0)) (Rn.wputs (Sh.pname k) (Sh.pk n s es k i) [] (Dk.Disk.create (Sh.pname k) d).1).2.1 (Rn.wputs (Sh.pname k) (Sh.pk n s es k i) [] (Dk.Disk.create (Sh.pname k) d).1).1).2.2=0:=by omega
      have hb0:decide ((Rn.wput (Sh.pname k) (Sh.pack (es.getD i e0)) (Rn.wputs (Sh.pname k) (Sh.pk n s es k i) [] (Dk.Disk.create (Sh.pname k) d).1).2.1 (Rn.wputs (Sh.pname k) (Sh.pk n s es k i) [] (Dk.Disk.create (Sh.pname k) d).1).1).2.2≠0)=false:=by rw [hp0];rfl
      have H:=pk [4,0,1,2] 5 H
      rw [hb0,<-hwt] at H
      rw [<-hwt] at hp0
      exact ⟨(i+1,A6,c7),⟨S.sub ⟨rfl,rfl,rfl,rfl,rfl,rfl,rfl,rfl,rfl,trivial⟩,H,⟨by omega,hp0⟩⟩,by show es.length - (i+1) < es.length - i;omega⟩
    refine wp_exit ?_
    refine x_thenExit ?_
    refine x_thenExit ?_
    refine x_blockHere ?_
    refine x_then ?_
    refine sb ?_
    refine rn 2 S H t0 fun a w S H=>?_
    refine r_call (args:=#[.pointer (some ⟨b2,0,none⟩)]) S rfl rfl Tryz.call84 (wclose_ct (H:=(pk [1,2,3,0] 4 H)) _ _ b2 db (Sh.pname k) _ _ ((Rn.wputs (Sh.pname k) (Sh.pk n s es k i) [] (Dk.Disk.create (Sh.pname k) d).1).2.1) ((Rn.wputs (Sh.pname k) (Sh.pk n s es k i) [] (Dk.Disk.create (Sh.pname k) d).1).1) (by omega) (by omega)) rfl rfl rfl fun v a w hR S=>?_
    obtain ⟨rfl,H⟩:=hR
    refine rs 2 S H t0 fun a w S H=>?_
    refine wp_ret ?_
    refine r_ret2 S H Tryz.results62 (ro_tmp S rfl) (ro_tmp S rfl) ?_
    have hpa:Sh.pk n s es k i=((Sh.mine n s k es).map Sh.pack):=Sh.pk_all (by omega)
    rw [hpa] at hp H ⊢
    have e:(Sh.split n s es k d)=_:=Rn.write_done (n:=(Sh.pname k)) (l:=((Sh.mine n s k es).map Sh.pack)) (d:=d) hc0 hp
    rw [e]
    exact ⟨rfl,pk [0] 2 H⟩
  refine sb ?_
  refine rn 2 S H t0 fun a w S H=>?_
  refine r_call (args:=#[.pointer (some ⟨db,0,none⟩),str ((Sh.pname k))]) S rfl rfl Tryz.call80 (newwbad_ct (H:=(pk [1,0] 2 H)) _ _ db (Sh.pname k) d (by omega) (by omega)) rfl rfl rfl fun v a w hR S=>?_
  obtain ⟨rfl,H⟩:=hR
  refine rs 5 S H t0 fun a w S H=>?_
  refine r_seq ?_
  refine sr 2 S H t0 fun a w S H=>?_
  refine r_test S rfl (fun h28=>?_) (fun h28=>?_)
  · skip
    refine sr 4 S H t0 fun a w S H=>?_
    refine wp_ret ?_
    refine x_thenRet ?_
    refine r_ret2 S H Tryz.results62 (ro_tmp S rfl) (ro_tmp S rfl) ?_
    have e:(Sh.split n s es k d)=Dk.Disk.create (Sh.pname k) d:=Rn.write_bad (by omega)
    rw [e]
    exact ⟨rfl,pk [0] 2 H⟩
  exfalso;omega

theorem one_ct (w:World) (fr:List Res) (hl:Laid fr) (db:Nat) (n:Int) (A:Option Addr) (c:Nat) (es:List E) (ok:SlOk fr 3 A es.length c (ecells es)) (hes:Sh.E32 es) (s:Int) (budget:Int) (k:Nat) (d:Dk.Disk) (hk:k < 5000) (hc:d.files.length<=90000000) (hbu:budget<=9223372036854775807) (hne:es.length<=1048576) (H:Sat w (diskR db d::fr)):
    Rt Tryz.prog 35 #[.pointer (some ⟨db,0,none⟩),.agg #[.int .i64 n,.slice A es.length c],.int .i64 s,.int .i64 budget,.int .i64 ((k:Nat):Int)] w fun v w'=>v=.int .i64 (((Sh.one n s es budget k d).2:Nat):Int)/\Sat w' (diskR db (Sh.one n s es budget k d).1::fr):=by
  refine en5 Tryz.func35 rfl Tryz.ntmps35 rfl fun a S=>?_
  have hdok:=H.diskOk
  have hcw:(Sh.split n s es k d).1.files.length<=d.files.length+1:=Rn.write_cnt _ _ _
  have hcb:=Sh.oneB_cnt (n:=n) (s:=s) (es:=es) (budget:=budget) (i:=k) (by omega) hdok
  have hmn:(Sh.mine n s k es).length<=es.length:=List.length_filter_le _ _
  refine sb ?_
  refine r_box (c:=#[.int .i64 n,.slice A es.length c]) S H rfl rfl rfl rfl rfl rfl fun a w b1 S H=>?_
  refine rs 1 S H t0 fun a w S H=>?_
  refine sb ?_
  refine rn 4 S H t0 fun a w S H=>?_
  refine r_call (args:=#[.pointer (some ⟨db,0,none⟩),.agg #[.int .i64 n,.slice A es.length c],.int .i64 s,.int .i64 ((k:Nat):Int)]) S rfl rfl Tryz.call62 (split_ct (H:=(pk [1,0] 2 H)) _ _ (hl.via fun _ H=>H.drop) db n A c es (ok.via fun _ H=>H.drop) hes s k d (by omega) (by omega)) rfl rfl rfl fun v a w hR S=>?_
  obtain ⟨rfl,H⟩:=hR
  refine rs 5 S H t0 fun a w S H=>?_
  refine r_seq ?_
  rcases Nat.eq_zero_or_pos (Sh.split n s es k d).2 with hc0 | hc0
  · skip
    have e0B:(Sh.oneB n s es budget k d)=((Xs.sortD (Sh.pname k) (Sh.sname k) [114,117,110] budget 4 0 (Sh.split n s es k d).1).1,(Xs.sortD (Sh.pname k) (Sh.sname k) [114,117,110] budget 4 0 (Sh.split n s es k d).1).2.2):=if_neg (by omega)
    rw [e0B] at hcb
    simp only at hcb
    refine sr 2 S H t0 fun a w S H=>?_
    refine r_test S rfl (fun h23=>?_) (fun h23=>?_)
    · skip
      refine r_region ?_
      refine rn 3 S H t0 fun a w S H=>?_
      refine r_call (args:=#[.int .i64 ((k:Nat):Int)]) S rfl rfl Tryz.call19 (shname_ct (H:=H) _ _ (hl.via fun _ H=>H.drop.drop) k (by omega)) rfl rfl rfl fun v a w hR S=>?_
      obtain ⟨rfl,H⟩:=hR
      refine rn 1 S H t0 fun a w S H=>?_
      refine r_call (args:=#[.pointer (some ⟨db,0,none⟩),str ((Sh.pname k)),str ((Sh.sname k)),str ([114,117,110]),.int .i64 budget,.int .i64 4,.int .i64 0]) S rfl rfl Tryz.call63 (sortD_ct (H:=H) _ _ (hl.via fun _ H=>H.drop) db (Sh.pname k) (Sh.sname k) ([114,117,110]) budget 4 0 ((Sh.split n s es k d).1) (by omega) (by omega) (by decide)) rfl rfl rfl fun v a w hR S=>?_
      obtain ⟨rfl,H⟩:=hR
      refine rn 4 S H t0 fun a w S H=>?_
      refine r_nil ?_
      refine x_then ?_
      refine r_seq ?_
      refine sb ?_
      refine rn 2 S H t0 fun a w S H=>?_
      refine r_call (args:=#[.pointer (some ⟨db,0,none⟩),str ((Sh.pname k))]) S rfl rfl Tryz.call18 (remove_ct (H:=H) _ _ db ((Xs.sortD (Sh.pname k) (Sh.sname k) ([114,117,110]) budget 4 0 ((Sh.split n s es k d).1)).1) (Sh.pname k) (by omega)) rfl rfl rfl fun v a w hR S=>?_
      obtain ⟨rfl,H⟩:=hR
      refine rs 1 S H t0 fun a w S H=>?_
      refine sr 2 S H t0 fun a w S H=>?_
      refine r_test S rfl (fun h37=>?_) (fun h37=>?_)
      · skip
        refine er 2 S H t0 fun a w S H=>?_
        refine x_then ?_
        refine sr 2 S H t0 fun a w S H=>?_
        refine wp_ret ?_
        refine r_ret1 S H Tryz.results35 (ro_tmp S rfl) ?_
        have e:(Sh.oneB n s es budget k d)=((Xs.sortD (Sh.pname k) (Sh.sname k) [114,117,110] budget 4 0 (Sh.split n s es k d).1).1,(Xs.sortD (Sh.pname k) (Sh.sname k) [114,117,110] budget 4 0 (Sh.split n s es k d).1).2.2):=if_neg (by omega)
        have e2:(Sh.one n s es budget k d)=Dk.Disk.remove (Sh.pname k) (Xs.sortD (Sh.pname k) (Sh.sname k) [114,117,110] budget 4 0 (Sh.split n s es k d).1).1:=by unfold Sh.one;rw [e,if_neg (by simp only;omega)]
        rw [e2]
        exact ⟨rfl,pk [0] 2 H⟩
      refine wp_skip ?_
      refine x_then ?_
      refine sr 2 S H t0 fun a w S H=>?_
      refine wp_ret ?_
      refine r_ret1 S H Tryz.results35 (ro_tmp S rfl) ?_
      have e:(Sh.oneB n s es budget k d)=((Xs.sortD (Sh.pname k) (Sh.sname k) [114,117,110] budget 4 0 (Sh.split n s es k d).1).1,(Xs.sortD (Sh.pname k) (Sh.sname k) [114,117,110] budget 4 0 (Sh.split n s es k d).1).2.2):=if_neg (by omega)
      have e2:(Sh.one n s es budget k d)=((Dk.Disk.remove (Sh.pname k) (Xs.sortD (Sh.pname k) (Sh.sname k) [114,117,110] budget 4 0 (Sh.split n s es k d).1).1).1,(Xs.sortD (Sh.pname k) (Sh.sname k) [114,117,110] budget 4 0 (Sh.split n s es k d).1).2.2):=by unfold Sh.one;rw [e,if_pos (by simp only;omega)]
      rw [e2]
      exact ⟨rfl,pk [0] 2 H⟩
    exfalso;omega
  refine sr 2 S H t0 fun a w S H=>?_
  refine r_test S rfl (fun h23=>?_) (fun h23=>?_)
  · skip
    exfalso;omega
  refine wp_skip ?_
  refine x_then ?_
  refine r_seq ?_
  refine sb ?_
  refine rn 2 S H t0 fun a w S H=>?_
  refine r_call (args:=#[.pointer (some ⟨db,0,none⟩),str ((Sh.pname k))]) S rfl rfl Tryz.call18 (remove_ct (H:=H) _ _ db ((Sh.split n s es k d).1) (Sh.pname k) (by omega)) rfl rfl rfl fun v a w hR S=>?_
  obtain ⟨rfl,H⟩:=hR
  refine rs 1 S H t0 fun a w S H=>?_
  refine sr 2 S H t0 fun a w S H=>?_
  refine r_test S rfl (fun h37=>?_) (fun h37=>?_)
  · skip
    exfalso;omega
  refine wp_skip ?_
  refine x_then ?_
  refine sr 2 S H t0 fun a w S H=>?_
  refine wp_ret ?_
  refine r_ret1 S H Tryz.results35 (ro_tmp S rfl) ?_
  have e:(Sh.oneB n s es budget k d)=(Sh.split n s es k d):=if_pos (by omega)
  have e2:(Sh.one n s es budget k d)=((Dk.Disk.remove (Sh.pname k) (Sh.split n s es k d).1).1,(Sh.split n s es k d).2):=by unfold Sh.one;rw [e,if_pos (by omega)]
  rw [e2]
  exact ⟨rfl,pk [0] 2 H⟩

end Go.Proofs.YtoffbmhmocfmnaaGreatDoor
namespace Go.Proofs.YtoffbmhmocfmnaaGreatDoor
open Go.RowKit Go.Cg
set_option linter.unusedVariables false
set_option linter.unusedSimpArgs false
set_option maxRecDepth 8000
set_option synthInstance.maxHeartbeats 1000000
set_option synthInstance.maxSize 1000000
theorem el22:Elem Tryz.prog 22 61 3 12 (.agg #[.int .u32 0,.int .u32 0,.int .u32 0]):=⟨Tryz.underlying22,by kernel_rfl,rfl,by decide⟩
theorem el72:Elem Tryz.prog 72 3 1 8 (.int .i64 0):=⟨Tryz.underlying72,by kernel_rfl,rfl,by decide⟩
open Go.Cg.Dk (By Nm)
open Go.Cg.Rn (R Bd)
open Go.Cg.Tr (E)
theorem bnds_ct (w:World) (fr:List Res) (n s:Int) (H:Sat w (fr)):
    Rt Tryz.prog 33 #[.int .i64 n,.int .i64 s] w fun v w'=>∃A c,v=.tuple #[.slice A (Sh.bnds n s).length c,.int .i64 (if Oc.part n s=true then 0 else 1)]/\Sat w' (row 3 1 (.slice A (Sh.bnds n s).length c) (Sh.bnds n s).length (ints (Sh.bnds n s))::fr):=by
  refine en2 Tryz.func33 rfl Tryz.ntmps33 rfl fun a S=>?_
  refine sr 2 S H t0 fun a w S H=>?_
  refine r_seq ?_
  refine sr 4 S H (by omega) fun a w S H=>?_
  refine r_cond S rfl (fun h11=>?_) (fun h11=>?_)
  · skip
    refine sr 2 S H t0 fun a w S H=>?_
    refine wp_ret ?_
    refine x_thenRet ?_
    refine r_ret2 S H Tryz.results33 (ro_tmp S rfl) (ro_tmp S rfl) ?_
    have hp:Oc.part n s=false:=by simpa using h11
    have e:Sh.bnds n s=[]:=by unfold Sh.bnds;rw [hp];rfl
    have H:=H.nilRow 3 1
    rw [e,hp]
    exact ⟨none,0,rfl,H⟩
  have hpt:Oc.part n s=true:=by simpa using h11
  have hpp:=hpt
  simp only [Oc.part,decide_eq_true_eq] at hpp
  obtain ⟨p1,p2,p3,p4⟩:=hpp
  obtain ⟨K,hK⟩:∃K:Nat,K=(s+1).toNat:=⟨_,rfl⟩
  refine wp_skip ?_
  refine x_then ?_
  refine sb ?_
  refine rn 1 S H t0 fun a w S H=>?_
  refine r_y S H (y_add S rfl rfl rfl (wi64 (by omega) (by omega))) rfl rfl rfl fun a S=>?_
  have S:=S.retell (v':=.int .i64 ((K:Nat):Int)) 13 rfl (int_eq (by omega))
  refine r_make (len:=K) S H rfl rfl rfl el72 (by simp only [maxLen];omega) (by omega) rfl rfl rfl fun a w b1 S H=>?_
  rw [made_ints] at H
  refine rs 1 S H t0 fun a w S H=>?_
  refine r_seq ?_
  refine sr 3 S H t0 fun a w S H=>?_
  refine r_block ?_
  refine r_loop (ι:=Nat×List Int×Nat×Nat) (fun ⟨i,xs,Ab,cb⟩ a w=>Slots a 29 [(0,.int .i64 n),(1,.int .i64 s),(4,.slice none 0 0),(5,.int .i64 0),(6,.slice (some ⟨Ab,0,none⟩) xs.length cb),(16,.int .i64 ((K:Nat):Int)),(17,.int .i64 ((i:Nat):Int)),(29,undef)]/\Sat w (row 3 1 (.slice (some ⟨Ab,0,none⟩) xs.length cb) xs.length (ints xs)::fr)/\(xs.length=K/\i<=K/\∀ j,j < i->xs.getD j 0=Sh.bnd n s (j:Int))) (fun ⟨i,xs,Ab,cb⟩=>K - i) (0,List.replicate K 0,b1,K) ⟨S.sub ⟨rfl,rfl,rfl,rfl,(by rw [List.length_replicate];rfl),rfl,rfl,rfl,trivial⟩,(by simpa using H),⟨by simp,Nat.zero_le _,fun j h=>absurd h (Nat.not_lt_zero _)⟩⟩ (fun ⟨i,xs,Ab,cb⟩ a w hI=>?_)
  obtain ⟨S,H,hI⟩:=hI
  obtain ⟨hxl,hil,hxs⟩:=hI
  refine sr 1 S H t0 fun a w S H=>?_
  refine r_seq ?_
  refine r_test S rfl (fun h18=>?_) (fun h18=>?_)
  · skip
    refine wp_skip ?_
    refine x_then ?_
    refine r_seq ?_
    refine r_block ?_
    refine sr 2 S H t0 fun a w S H=>?_
    refine r_region ?_
    refine rn 6 S H (by omega) fun a w S H=>?_
    refine r_y S H (y_index S rfl rfl rfl Tryz.underlying72 Tryz.sizeOf3 (by omega) (by omega)) rfl rfl rfl fun a S=>?_
    refine r_setRowV (L':=row 3 1 (.slice (some ⟨Ab,0,none⟩) xs.length cb) xs.length (ints (xs.set i (((i:Nat):Int)*n / s)))::fr) 0 S H rfl rfl rfl rfl Tryz.sizeOf3 rfl rfl (by first | omega | (simp<;>omega)) (xs':=ints (xs.set i (((i:Nat):Int)*n / s))) (ints_put (by omega) rfl) rfl rfl rfl fun w H=>?_
    refine r_nil ?_
    refine x_blockEnd ?_
    refine x_then ?_
    refine er 2 S H (by omega) fun a w S H=>?_
    refine x_then ?_
    have el:xs.length=(xs.set i (((i:Nat):Int)*n / s)).length:=by simp
    exact ⟨(i+1,xs.set i (((i:Nat):Int)*n / s),Ab,cb),⟨S.sub ⟨rfl,rfl,rfl,rfl,(by rw [<-el];rfl),rfl,rfl,rfl,trivial⟩,(by rw [<-el];exact H),⟨by simp;exact hxl,by omega,fun j hj=>by rw [Sh.set_getD (by omega)];by_cases e:j=i;(rw [if_pos e,e];rfl);(rw [if_neg e];exact hxs j (by omega))⟩⟩,by show K - (i+1) < K - i;omega⟩
  refine wp_exit ?_
  refine x_thenExit ?_
  refine x_thenExit ?_
  refine x_blockHere ?_
  refine x_then ?_
  refine sr 3 S H t0 fun a w S H=>?_
  refine wp_ret ?_
  refine r_ret2 S H Tryz.results33 (ro_tmp S rfl) (ro_tmp S rfl) ?_
  have e:xs=Sh.bnds n s:=Sh.bnds_of hpt hK hxl (fun j hj=>hxs j (by omega))
  rw [<-e,hpt]
  exact ⟨_,_,rfl,H⟩

theorem build_ct (w:World) (fr:List Res) (hl:Laid fr) (db:Nat) (n:Int) (A:Option Addr) (c:Nat) (es:List E) (ok:SlOk fr 3 A es.length c (ecells es)) (hes:Sh.E32 es) (s:Int) (budget:Int) (d:Dk.Disk) (hc:d.files.length<=1000000) (hbu:budget<=9223372036854775807) (H:Sat w (diskR db d::fr)):
    Rt Tryz.prog 13 #[.pointer (some ⟨db,0,none⟩),.agg #[.int .i64 n,.slice A es.length c],.int .i64 s,.int .i64 budget] w fun v w'=>v=.int .i64 (((Sh.build n s es budget d).2:Nat):Int)/\Sat w' (diskR db (Sh.build n s es budget d).1::fr)/\(Sh.build n s es budget d).1.files.length<=d.files.length+4*es.length+30000:=by
  refine en4 Tryz.func13 rfl Tryz.ntmps13 rfl fun a S=>?_
  refine sb ?_
  refine r_box (c:=#[.int .i64 n,.slice A es.length c]) S H rfl rfl rfl rfl rfl rfl fun a w b1 S H=>?_
  refine rs 1 S H t0 fun a w S H=>?_
  refine r_seq ?_
  refine sb ?_
  refine rn 3 S H t0 fun a w S H=>?_
  refine r_call (args:=#[.int .i64 n,.int .i64 s]) S rfl rfl Tryz.call33 (bnds_ct (H:=H) _ _ n s) rfl rfl rfl fun v a w hR S=>?_
  obtain ⟨A6,c7,rfl,H⟩:=hR
  refine rs 5 S H t0 fun a w S H=>?_
  rcases Bool.eq_false_or_eq_true (Oc.part n s) with hpt | hpt
  · skip
    have S:=S.retell (v':=.int .i64 0) 10 rfl (by rw [if_pos hpt])
    refine sb ?_
    refine rn 2 S H t0 fun a w S H=>?_
    have S:=S.retell (v':=.bool false) 22 rfl rfl
    refine rn 2 S H t0 fun a w S H=>?_
    refine r_call (args:=#[.agg #[.int .i64 n,.slice A es.length c]]) S rfl rfl Tryz.call34 (edges_ct (H:=H) _ _ n A c es (((ok.more _).more _).more _) (hes)) rfl rfl rfl fun v a w hR S=>?_
    obtain ⟨rfl,H⟩:=hR
    refine rn 3 S H t0 fun a w S H=>?_
    refine scO 1 S H (fun _=>t0) fun a w S H=>?_
    refine sn ?_
    refine r_cond S rfl (fun h31=>?_) (fun h31=>?_)
    · skip
      refine sr 1 S H t0 fun a w S H=>?_
      refine wp_ret ?_
      refine x_thenRet ?_
      refine r_ret1 S H Tryz.results13 (ro_tmp S rfl) ?_
      have e:(Sh.build n s es budget d)=(d,1):=Sh.build_bad (by simp only [Bool.or_eq_true,Bool.not_eq_true',decide_eq_true_eq] at h31;exact .inr h31)
      rw [e]
      exact ⟨rfl,pk [2] 3 H,by simp only;omega⟩
    refine wp_skip ?_
    refine x_then ?_
    refine r_seq ?_
    simp only [Bool.or_eq_false_iff,Bool.not_eq_false',decide_eq_false_iff_not] at h31
    have hgr:Tr.graph n es=true:=h31.1
    have hpl:=Sh.part_le hpt
    have hgl:es.length<=1048576:=by have hx:=hgr;simp only [Tr.graph,decide_eq_true_eq] at hx;omega
    obtain ⟨S0,rfl⟩:=Int.eq_ofNat_of_zero_le (show 0<=s by omega)
    have hbk:(Sh.build n S0 es budget d)=Sh.builds n S0 es budget S0 0 d:=Sh.build_ok (by rw [hpt,hgr];simp;omega)
    refine sr 2 S H t0 fun a w S H=>?_
    refine r_block ?_
    refine r_loop (ι:=Nat×Dk.Disk) (fun ⟨i,dd⟩ a w=>Slots a 55 [(0,.pointer (some ⟨db,0,none⟩)),(2,.int .i64 ((S0:Nat):Int)),(3,.int .i64 budget),(5,.pointer (some ⟨b1,0,none⟩)),(32,.int .i64 ((S0:Nat):Int)),(33,.int .i64 ((i:Nat):Int)),(55,undef)]/\Sat w (blk b1 (.cells #[.int .i64 n,.slice A es.length c] 24)::diskR db dd::fr)/\(i<=S0/\Sh.builds n S0 es budget (S0 - i) i dd=Sh.builds n S0 es budget S0 0 d/\dd.files.length<=d.files.length+4*Sh.cum n S0 es i+5*i)) (fun ⟨i,dd⟩=>S0 - i) (0,d) ⟨S.sub ⟨rfl,rfl,rfl,rfl,rfl,rfl,rfl,trivial⟩,pk [1,2] 3 H,⟨Nat.zero_le _,rfl,by omega⟩⟩ (fun ⟨i,dd⟩ a w hI=>?_)
    obtain ⟨S,H,hI⟩:=hI
    obtain ⟨his,hT,hdf⟩:=hI
    have hcu:=Sh.cum_le n S0 es i
    refine sr 1 S H t0 fun a w S H=>?_
    refine r_seq ?_
    refine r_test S rfl (fun h34=>?_) (fun h34=>?_)
    · skip
      refine wp_skip ?_
      refine x_then ?_
      refine r_seq ?_
      refine r_block ?_
      refine sr 2 S H t0 fun a w S H=>?_
      have hdok:=(pk [1] 2 H).diskOk
      have hoc:=Sh.one_cnt (n:=n) (s:=S0) (es:=es) (budget:=budget) (i:=i) (by omega) hdok
      have hcs:=Sh.cum_succ n S0 es i
      have hcu2:=Sh.cum_le n S0 es (i+1)
      refine sb ?_
      refine rn 5 S H t0 fun a w S H=>?_
      refine r_call (args:=#[.pointer (some ⟨db,0,none⟩),.agg #[.int .i64 n,.slice A es.length c],.int .i64 ((S0:Nat):Int),.int .i64 budget,.int .i64 ((i:Nat):Int)]) S rfl rfl Tryz.call35 (one_ct (H:=(pk [1,0] 2 H)) _ _ (hl.via fun _ H=>H.drop) db n A c es (ok.via fun _ H=>H.drop) hes ((S0:Nat):Int) budget i dd (by omega) (by omega) (by omega) (by omega)) rfl rfl rfl fun v a w hR S=>?_
      obtain ⟨rfl,H⟩:=hR
      refine rs 1 S H t0 fun a w S H=>?_
      refine sr 2 S H t0 fun a w S H=>?_
      refine r_test S rfl (fun h43=>?_) (fun h43=>?_)
      · skip
        refine r_seq ?_
        refine sr 2 S H t0 fun a w S H=>?_
        refine r_block ?_
        refine r_loop (ι:=Nat×Dk.Disk) (fun ⟨k,de⟩ a w=>Slots a 55 [(0,.pointer (some ⟨db,0,none⟩)),(2,.int .i64 ((S0:Nat):Int)),(3,.int .i64 budget),(5,.pointer (some ⟨b1,0,none⟩)),(11,.int .i64 ((i:Nat):Int)),(12,.int .i64 (((Sh.one n ((S0:Nat):Int) es budget i dd).2:Nat):Int)),(32,.int .i64 ((S0:Nat):Int)),(33,.int .i64 ((i:Nat):Int)),(34,.bool (decide (((i:Nat):Int) < ((S0:Nat):Int)))),(35,.int .i64 ((i:Nat):Int)),(36,.pointer (some ⟨db,0,none⟩)),(37,.agg #[.int .i64 n,.slice A es.length c]),(38,.int .i64 ((S0:Nat):Int)),(39,.int .i64 budget),(40,.int .i64 ((i:Nat):Int)),(41,.int .i64 (((Sh.one n ((S0:Nat):Int) es budget i dd).2:Nat):Int)),(42,.int .i64 (((Sh.one n ((S0:Nat):Int) es budget i dd).2:Nat):Int)),(43,.bool (decide ((((Sh.one n ((S0:Nat):Int) es budget i dd).2:Nat):Int)≠0))),(44,.int .i64 ((i:Nat):Int)),(45,.int .i64 ((k:Nat):Int)),(55,undef)]/\Sat w (diskR db de::fr)/\(k<=i/\Sh.undo (i - k) k de=Sh.undo i 0 (Sh.one n S0 es budget i dd).1/\de.files.length<=(Sh.one n S0 es budget i dd).1.files.length)) (fun ⟨k,de⟩=>i - k) (0,(Sh.one n S0 es budget i dd).1) ⟨S.sub ⟨rfl,rfl,rfl,rfl,rfl,rfl,rfl,rfl,rfl,rfl,rfl,rfl,rfl,rfl,rfl,rfl,rfl,rfl,rfl,rfl,rfl,trivial⟩,pk [0] 2 H,⟨Nat.zero_le _,rfl,Nat.le_refl _⟩⟩ (fun ⟨k,de⟩ a w hI=>?_)
        obtain ⟨S,H,hI⟩:=hI
        obtain ⟨hki,hU,hef⟩:=hI
        refine sr 1 S H t0 fun a w S H=>?_
        refine r_seq ?_
        refine r_test S rfl (fun h46=>?_) (fun h46=>?_)
        · skip
          refine wp_skip ?_
          refine x_then ?_
          refine r_seq ?_
          refine r_block ?_
          refine sr 2 S H t0 fun a w S H=>?_
          refine r_region ?_
          refine rn 2 S H t0 fun a w S H=>?_
          refine r_call (args:=#[.int .i64 ((k:Nat):Int)]) S rfl rfl Tryz.call19 (shname_ct (H:=H) _ _ (hl.via fun _ H=>H.drop) k (by omega)) rfl rfl rfl fun v a w hR S=>?_
          obtain ⟨rfl,H⟩:=hR
          refine r_call (args:=#[.pointer (some ⟨db,0,none⟩),str ((Sh.sname k))]) S rfl rfl Tryz.call18 (remove_ct (H:=H) _ _ db de (Sh.sname k) (by omega)) rfl rfl rfl fun v a w hR S=>?_
          obtain ⟨rfl,H⟩:=hR
          refine r_nil ?_
          refine x_blockEnd ?_
          refine x_then ?_
          refine er 2 S H (by omega) fun a w S H=>?_
          refine x_then ?_
          have hrl:=Dk.len_remove de (Sh.sname k)
          have H:=H
          exact ⟨(k+1,(Dk.Disk.remove (Sh.sname k) de).1),⟨S.sub ⟨rfl,rfl,rfl,rfl,rfl,rfl,rfl,rfl,rfl,rfl,rfl,rfl,rfl,rfl,rfl,rfl,rfl,rfl,rfl,rfl,rfl,trivial⟩,H,⟨by omega,by rw [<-hU,show i - k=(i - (k+1))+1 from by omega,Sh.undo],by omega⟩⟩,by show i - (k+1) < i - k;omega⟩
        refine wp_exit ?_
        refine x_thenExit ?_
        refine x_thenExit ?_
        refine x_blockHere ?_
        refine x_then ?_
        refine sr 2 S H t0 fun a w S H=>?_
        refine wp_ret ?_
        refine x_blockRet ?_
        refine x_thenRet ?_
        refine x_thenRet ?_
        refine x_blockRet ?_
        refine x_thenRet ?_
        refine r_ret1 S H Tryz.results13 (ro_tmp S rfl) ?_
        have hU2:Sh.undo i 0 (Sh.one n S0 es budget i dd).1=de:=by rw [<-hU,show i - k=0 from by omega];rfl
        rw [hbk,<-hT,show S0 - i=(S0 - (i+1))+1 from by omega,Sh.builds_bad (by omega),hU2]
        exact ⟨rfl,H,by simp only;omega⟩
      refine wp_skip ?_
      refine x_blockEnd ?_
      refine x_then ?_
      refine er 2 S H (by omega) fun a w S H=>?_
      refine x_then ?_
      have he0:(Sh.one n S0 es budget i dd).2=0:=by omega
      have H:=pk [1,0] 2 H
      exact ⟨(i+1,(Sh.one n S0 es budget i dd).1),⟨S.sub ⟨rfl,rfl,rfl,rfl,rfl,rfl,rfl,trivial⟩,H,⟨by omega,by rw [<-hT,show S0 - i=(S0 - (i+1))+1 from by omega,Sh.builds_one he0],by omega⟩⟩,by show S0 - (i+1) < S0 - i;omega⟩
    refine wp_exit ?_
    refine x_thenExit ?_
    refine x_thenExit ?_
    refine x_blockHere ?_
    refine x_then ?_
    refine sr 1 S H t0 fun a w S H=>?_
    refine wp_ret ?_
    refine r_ret1 S H Tryz.results13 (ro_tmp S rfl) ?_
    have hT2:Sh.builds n S0 es budget S0 0 d=(dd,0):=by rw [<-hT,show S0 - i=0 from by omega];rfl
    rw [hbk,hT2]
    exact ⟨rfl,pk [1] 2 H,by simp only;omega⟩
  have S:=S.retell (v':=.int .i64 1) 10 rfl (by rw [hpt];rfl)
  refine sb ?_
  refine rn 2 S H t0 fun a w S H=>?_
  have S:=S.retell (v':=.bool true) 22 rfl rfl
  refine rs 9 S H t0 fun a w S H=>?_
  refine r_condT S rfl ?_
  refine sr 1 S H t0 fun a w S H=>?_
  refine wp_ret ?_
  refine x_thenRet ?_
  refine r_ret1 S H Tryz.results13 (ro_tmp S rfl) ?_
  have e:(Sh.build n s es budget d)=(d,1):=Sh.build_bad (.inl hpt)
  rw [e]
  exact ⟨rfl,pk [2] 3 H,by simp only;omega⟩

theorem ecells_put':∀ {l:List E} {i:Nat} {x:E},i < l.length->putL (ecells l) (i*3) (ecell x)=ecells (l.set i x)
  | e::l,0,x,_=>by simp [putL,ecell,ecells]
  | e::l,i+1,x,h=>by
    have e3:∀ (q:E) (l:List E),ecells (q::l)=ecell q++ecells l:=fun q l=>by simp [ecells]
    rw [e3,show (i+1)*3=(ecell e).length+i*3 from by simp [ecell];omega,putL_app,ecells_put' (l:=l) (i:=i) (by simpa using h),List.set_cons_succ,e3]
theorem ecells_rep:∀ n:Nat,ecells (List.replicate n e0)=List.replicate (n*3) (Value.int .u32 ((0:Nat):Int))
  | 0=>rfl
  | n+1=>by
    have e3:∀ (q:E) (l:List E),ecells (q::l)=ecell q++ecells l:=fun q l=>by simp [ecells]
    rw [List.replicate_succ,e3,ecells_rep n,show (n+1)*3=n*3+1+1+1 from by omega,List.replicate_succ,List.replicate_succ,List.replicate_succ];rfl
theorem made_ecells (n:Nat):(madeCells (Value.agg #[Value.int .u32 0,Value.int .u32 0,Value.int .u32 0]).cells (n*3)).toList=ecells (List.replicate n e0):=by
  rw [ecells_rep]
  have hz:∀ i:Nat,(#[Value.int .u32 0,Value.int .u32 0,Value.int .u32 0]:Array Value)[i%3]! =Value.int .u32 0:=fun i=>by
    have h3:i%3=0\/i%3=1\/i%3=2:=by omega
    rcases h3 with h | h | h<;>rw [h]<;>rfl
  show (madeCells #[Value.int .u32 0,Value.int .u32 0,Value.int .u32 0] (n*3)).toList=_
  unfold madeCells
  apply List.ext_getElem
  · simp
  · intro j h1 h2
    rw [List.getElem_replicate,Array.getElem_toList,Array.getElem_map,Array.getElem_range]
    exact hz j
theorem ecells_put {l:List E} {i j:Nat} {x:E} (h:i < l.length) (hj:j=i*3:=by omega):putL (ecells l) j (ecell x)=ecells (l.set i x):=by subst hj;exact ecells_put' h
theorem shread_ct (w:World) (fr:List Res) (hl:Laid fr) (db k:Nat) (d:Dk.Disk) (hk:k < 100000) (hc:d.files.length<=4398046511104) (H:Sat w (diskR db d::fr)):
    Rt Tryz.prog 16 #[.pointer (some ⟨db,0,none⟩),.int .i64 ((k:Nat):Int)] w fun v w'=>∃A' c',v=.tuple #[.slice A' (Sh.reads k d).2.1.length c',.int .i64 (((Sh.reads k d).2.2:Nat):Int)]/\Sat w' (row 61 3 (.slice A' (Sh.reads k d).2.1.length c') (Sh.reads k d).2.1.length (ecells (Sh.reads k d).2.1)::diskR db (Sh.reads k d).1::fr):=by
  refine en2 Tryz.func16 rfl Tryz.ntmps16 rfl fun a S=>?_
  have hdok:=H.diskOk
  have hrf:=(Rn.read_facts (n:=Sh.sname k) hdok).1
  refine sr 2 S H t0 fun a w S H=>?_
  refine sb ?_
  refine rn 2 S H t0 fun a w S H=>?_
  refine r_call (args:=#[.int .i64 ((k:Nat):Int)]) S rfl rfl Tryz.call19 (shname_ct (H:=H) _ _ (hl.via fun _ H=>H.drop) k (by omega)) rfl rfl rfl fun v a w hR S=>?_
  obtain ⟨rfl,H⟩:=hR
  refine r_call (args:=#[.pointer (some ⟨db,0,none⟩),str ((Sh.sname k))]) S rfl rfl Tryz.call38 (read_ct (H:=H) _ _ db (Sh.sname k) d (by omega)) rfl rfl rfl fun v a w hR S=>?_
  obtain ⟨A1,c2,rfl,H⟩:=hR
  refine rs 5 S H t0 fun a w S H=>?_
  refine r_seq ?_
  refine sr 2 S H t0 fun a w S H=>?_
  refine r_test S rfl (fun h19=>?_) (fun h19=>?_)
  · skip
    refine sr 3 S H t0 fun a w S H=>?_
    refine wp_ret ?_
    refine x_thenRet ?_
    refine r_ret2 S H Tryz.results16 (ro_tmp S rfl) (ro_tmp S rfl) ?_
    have e:(Sh.reads k d)=((Rn.read (Sh.sname k) d).1,[],(Rn.read (Sh.sname k) d).2.2):=Sh.reads_bad (by omega)
    rw [e]
    have H:=H.nilRow 61 3
    exact ⟨none,0,rfl,pk [0,2] 3 H⟩
  refine wp_skip ?_
  refine x_then ?_
  refine sb ?_
  refine rn 2 S H t0 fun a w S H=>?_
  refine r_make (len:=((Rn.read (Sh.sname k) d).2.1.length)) S H rfl rfl rfl el22 (by simp only [maxLen];omega) (by omega) rfl rfl rfl fun a w b3 S H=>?_
  rw [made_ecells] at H
  refine rs 1 S H t0 fun a w S H=>?_
  refine r_seq ?_
  refine sr 3 S H t0 fun a w S H=>?_
  refine r_block ?_
  refine r_loop (ι:=Nat×List E×Option Addr×Nat) (fun ⟨i,xs,Ae,ce⟩ a w=>Slots a 38 [(4,.slice none 0 0),(5,.int .i64 0),(8,.slice Ae xs.length ce),(24,.slice A1 ((Rn.read (Sh.sname k) d).2.1.length) c2),(25,.int .i64 (((Rn.read (Sh.sname k) d).2.1.length:Nat):Int)),(26,.int .i64 ((i:Nat):Int)),(38,undef)]/\Sat w (row 61 3 (.slice Ae xs.length ce) xs.length (ecells xs)::row 91 2 (.slice A1 ((Rn.read (Sh.sname k) d).2.1.length) c2) ((Rn.read (Sh.sname k) d).2.1.length) (recs ((Rn.read (Sh.sname k) d).2.1))::diskR db (Rn.read (Sh.sname k) d).1::fr)/\(xs.length=(Rn.read (Sh.sname k) d).2.1.length/\i<=(Rn.read (Sh.sname k) d).2.1.length/\∀ j,j < i->xs.getD j e0=Sh.unpack ((Rn.read (Sh.sname k) d).2.1.getD j (0,0)))) (fun ⟨i,xs,Ae,ce⟩=>(Rn.read (Sh.sname k) d).2.1.length - i) (0,List.replicate ((Rn.read (Sh.sname k) d).2.1.length) e0,(some ⟨b3,0,none⟩),((Rn.read (Sh.sname k) d).2.1.length)) ⟨S.sub ⟨rfl,rfl,(by rw [List.length_replicate];rfl),rfl,rfl,rfl,rfl,trivial⟩,(by simpa using (H)),⟨by simp,Nat.zero_le _,fun j h=>absurd h (Nat.not_lt_zero _)⟩⟩ (fun ⟨i,xs,Ae,ce⟩ a w hI=>?_)
  obtain ⟨S,H,hI⟩:=hI
  obtain ⟨hxl,hil2,hxs⟩:=hI
  refine sr 1 S H t0 fun a w S H=>?_
  refine r_seq ?_
  refine r_test S rfl (fun h27=>?_) (fun h27=>?_)
  · skip
    refine wp_skip ?_
    refine x_then ?_
    refine r_seq ?_
    refine r_block ?_
    refine sb ?_
    refine rn 1 S H t0 fun a w S H=>?_
    obtain ⟨b5,rfl⟩:=H.rowAt (i:=1) rfl (by first | omega | (simp<;>omega))
    refine r_y S H (y_index S rfl rfl rfl Tryz.underlying86 Tryz.sizeOf91 (by omega) (by omega)) rfl rfl rfl fun a S=>?_
    refine r_y S H (y_loadAggAt [.int .u64 (((((Rn.read (Sh.sname k) d).2.1).getD i (0,0)).1:Nat):Int),.int .u64 (((((Rn.read (Sh.sname k) d).2.1).getD i (0,0)).2:Nat):Int)] S rfl rfl (fun w=>⟨Tryz.isAgg91 w,Tryz.sizeOf91 w⟩) rfl (fun w H=>(SlOk.ofRow (i:=1) H rfl).cells w H (recs_from (i:=i) (by first | omega | (simp<;>omega))))) rfl rfl rfl fun a S=>?_
    refine r_alloc S H rfl Tryz.zeroValue91 rfl rfl rfl rfl fun a w b7 S H=>?_
    replace H:Sat _ (blk b7 (.cells #[.int .u64 0,.int .u64 0] 91)::row 61 3 (.slice Ae xs.length ce) xs.length (ecells xs)::row 91 2 (.slice (some ⟨b5,0,none⟩) ((Rn.read (Sh.sname k) d).2.1.length) c2) ((Rn.read (Sh.sname k) d).2.1.length) (recs ((Rn.read (Sh.sname k) d).2.1))::diskR db (Rn.read (Sh.sname k) d).1::fr):=H
    refine rs 2 S H t0 fun a w S H=>?_
    refine r_region ?_
    refine rn 3 S H t0 fun a w S H=>?_
    refine r_call (args:=#[.agg #[.int .u64 (((((Rn.read (Sh.sname k) d).2.1).getD i (0,0)).1:Nat):Int),.int .u64 (((((Rn.read (Sh.sname k) d).2.1).getD i (0,0)).2:Nat):Int)]]) S rfl rfl Tryz.call39 (unpack_ct (H:=H) _ _ (((Rn.read (Sh.sname k) d).2.1).getD i (0,0))) rfl rfl rfl fun v a w hR S=>?_
    obtain ⟨rfl,H⟩:=hR
    obtain ⟨b8,rfl⟩:=H.rowAt (i:=1) rfl (by first | omega | (simp<;>omega))
    refine r_y S H (y_index S rfl rfl rfl Tryz.underlying22 Tryz.sizeOf61 (by omega) (by omega)) rfl rfl rfl fun a S=>?_
    refine r_setRows (vs:=[.int .u32 (((Sh.unpack (((Rn.read (Sh.sname k) d).2.1).getD i (0,0))).f:Nat):Int),.int .u32 (((Sh.unpack (((Rn.read (Sh.sname k) d).2.1).getD i (0,0))).t:Nat):Int),.int .u32 (((Sh.unpack (((Rn.read (Sh.sname k) d).2.1).getD i (0,0))).w:Nat):Int)]) (xs':=ecells (xs.set i (Sh.unpack (((Rn.read (Sh.sname k) d).2.1).getD i (0,0))))) (L':=blk b7 (.cells #[.int .u64 (((((Rn.read (Sh.sname k) d).2.1).getD i (0,0)).1:Nat):Int),.int .u64 (((((Rn.read (Sh.sname k) d).2.1).getD i (0,0)).2:Nat):Int)] 91)::row 61 3 (.slice (some ⟨b8,0,none⟩) xs.length ce) xs.length (ecells (xs.set i (Sh.unpack (((Rn.read (Sh.sname k) d).2.1).getD i (0,0)))))::row 91 2 (.slice (some ⟨b5,0,none⟩) ((Rn.read (Sh.sname k) d).2.1.length) c2) ((Rn.read (Sh.sname k) d).2.1.length) (recs ((Rn.read (Sh.sname k) d).2.1))::diskR db (Rn.read (Sh.sname k) d).1::fr) 1 S H rfl rfl rfl rfl Tryz.sizeOf61 rfl rfl (by simp [Value.oneCell']) (by first | omega | (simp<;>omega)) (ecells_put (by first | omega | (simp<;>omega))) rfl rfl rfl fun w H=>?_
    refine r_nil ?_
    refine x_blockEnd ?_
    refine x_then ?_
    refine er 2 S H (by omega) fun a w S H=>?_
    refine x_then ?_
    have el:xs.length=(xs.set i (Sh.unpack (((Rn.read (Sh.sname k) d).2.1).getD i (0,0)))).length:=by simp
    have H:=pk [1,2,3] 4 H
    exact ⟨(i+1,xs.set i (Sh.unpack (((Rn.read (Sh.sname k) d).2.1).getD i (0,0))),(some ⟨b8,0,none⟩),ce),⟨S.sub ⟨rfl,rfl,(by rw [<-el];rfl),rfl,rfl,rfl,rfl,trivial⟩,(by rw [<-el];exact H),⟨by simp;exact hxl,by omega,fun j hj=>(by rw [Xs.getD_set (by omega)];by_cases e:j=i;(rw [if_pos e,e]);(rw [if_neg e];exact hxs j (by omega)))⟩⟩,by show (Rn.read (Sh.sname k) d).2.1.length - (i+1) < (Rn.read (Sh.sname k) d).2.1.length - i;omega⟩
  refine wp_exit ?_
  refine x_thenExit ?_
  refine x_thenExit ?_
  refine x_blockHere ?_
  refine x_then ?_
  refine sr 3 S H t0 fun a w S H=>?_
  refine wp_ret ?_
  refine r_ret2 S H Tryz.results16 (ro_tmp S rfl) (ro_tmp S rfl) ?_
  have hx:xs=(Rn.read (Sh.sname k) d).2.1.map Sh.unpack:=List.ext_getElem (by simp [hxl]) (fun j h1 h2=>by have:=hxs j (by omega);rw [List.getD_eq_getElem?_getD,List.getElem?_eq_getElem h1,List.getD_eq_getElem?_getD,List.getElem?_eq_getElem (by omega)] at this;rw [List.getElem_map];exact this)
  have e:(Sh.reads k d)=((Rn.read (Sh.sname k) d).1,xs,0):=by rw [hx];exact Sh.reads_ok (by omega)
  rw [e]
  exact ⟨_,_,rfl,pk [0,2] 3 H⟩

end Go.Proofs.YtoffbmhmocfmnaaGreatDoor
namespace Go.Proofs.YtoffbmhmocfmnaaGreatDoor
open Go.RowKit Go.Cg
set_option linter.unusedVariables false
set_option linter.unusedSimpArgs false
set_option maxRecDepth 8000
set_option synthInstance.maxHeartbeats 1000000
set_option synthInstance.maxSize 1000000
open Go.Cg.Dk (By Nm)
open Go.Cg.Rn (R Bd Rs RsOk RsFit)
open Go.Cg.Tr (E)
open Go.Cg.Sh (Cur Sw)
def ptrs (l:List Nat):List Value:=l.map fun b=>.pointer (some ⟨b,0,none⟩)
@[simp] theorem len_ptrs (l:List Nat):(ptrs l).length=l.length:=by simp [ptrs]
theorem one_ptrs (l:List Nat):∀ u∈ptrs l,u.oneCell'=true:=by intro u hu;simp only [ptrs,List.mem_map] at hu;obtain ⟨x,_,rfl⟩:=hu;rfl
theorem ptrs_app (l l':List Nat):ptrs l++ptrs l'=ptrs (l++l'):=by simp [ptrs]
theorem ptrs_at {l:List Nat} {i:Nat} (h:i < l.length):(ptrs l)[i*1]? =some (.pointer (some ⟨l.getD i 0,0,none⟩)):=by
  rw [Nat.mul_one,ptrs,List.getElem?_map,List.getElem?_eq_getElem h,List.getD_eq_getElem?_getD,List.getElem?_eq_getElem h];rfl
/-- a cursor that may be gone on with -/
structure CurOk (c:Cur):Prop where
  ok:RsOk c.1.2.1 c.1.2.2
  pos:c.1.2.2.1<=c.1.2.1
  sz:c.1.2.1<=17592186044416
  ef:c.2.1.f < 4294967296
theorem CurOk.moves {c:Cur} (h:CurOk c) (d:Dk.Disk):CurOk (Sh.moves c d).2.1:=⟨(h.ok.next (n:=c.1.1) (d:=d)).1,Xs.rnext_pos h.pos,h.sz,Nat.mod_lt _ (by decide)⟩
theorem moves_ct (w:World) (fr:List Res) (db cb rb:Nat) (c:Cur) (d:Dk.Disk) (ho:CurOk c) (hc:d.files.length<=4398046511104) (H:Sat w (blk cb (.cells #[.pointer (some ⟨rb,0,none⟩),.int .u32 ((c.2.1.f:Nat):Int),.int .u32 ((c.2.1.t:Nat):Int),.int .u32 ((c.2.1.w:Nat):Int),.bool c.2.2] 84)::rdrR rb db c.1.1 c.1.2.1 c.1.2.2 0::diskR db d::fr)):
    Rt Tryz.prog 64 #[.pointer (some ⟨cb,0,none⟩)] w fun v w'=>v=.int .i64 (((Sh.moves c d).2.2:Nat):Int)/\Sat w' (blk cb (.cells #[.pointer (some ⟨rb,0,none⟩),.int .u32 (((Sh.moves c d).2.1.2.1.f:Nat):Int),.int .u32 (((Sh.moves c d).2.1.2.1.t:Nat):Int),.int .u32 (((Sh.moves c d).2.1.2.1.w:Nat):Int),.bool ((Sh.moves c d).2.1.2.2)] 84)::rdrR rb db ((Sh.moves c d).2.1.1.1) ((Sh.moves c d).2.1.1.2.1) ((Sh.moves c d).2.1.1.2.2) ((Sh.moves c d).2.2)::diskR db (Sh.moves c d).1::fr):=by
  refine en1 Tryz.func64 rfl Tryz.ntmps64 rfl fun a S=>?_
  refine sr 1 S H t0 fun a w S H=>?_
  refine sb ?_
  refine rn 4 S H t0 fun a w S H=>?_
  refine r_call (args:=#[.pointer (some ⟨rb,0,none⟩)]) S rfl rfl Tryz.call65 (nextd_ct (H:=(pk [1,2,0] 3 H)) _ _ rb db c.1.1 c.1.2.1 c.1.2.2 d ho.ok (by omega) (by have:=ho.pos;have:=ho.sz;omega) (ho.sz)) rfl rfl rfl fun v a w hR S=>?_
  obtain ⟨rfl,H⟩:=hR
  refine rn 4 S H t0 fun a w S H=>?_
  refine r_alloc S H rfl Tryz.zeroValue91 rfl rfl rfl rfl fun a w b1 S H=>?_
  replace H:Sat _ (blk b1 (.cells #[.int .u64 0,.int .u64 0] 91)::rdrR rb db c.1.1 c.1.2.1 ((Rn.rnext c.1.1 c.1.2.1 c.1.2.2 d).2.1) ((Rn.rnext c.1.1 c.1.2.1 c.1.2.2 d).2.2.2)::diskR db (Rn.rnext c.1.1 c.1.2.1 c.1.2.2 d).1::blk cb (.cells #[.pointer (some ⟨rb,0,none⟩),.int .u32 ((c.2.1.f:Nat):Int),.int .u32 ((c.2.1.t:Nat):Int),.int .u32 ((c.2.1.w:Nat):Int),.bool c.2.2] 84)::fr):=H
  refine rs 3 S H t0 fun a w S H=>?_
  refine sb ?_
  refine rn 3 S H t0 fun a w S H=>?_
  refine r_call (args:=#[.agg #[.int .u64 ((((Rn.rnext c.1.1 c.1.2.1 c.1.2.2 d).2.2.1.getD (0,0)).1:Nat):Int),.int .u64 ((((Rn.rnext c.1.1 c.1.2.1 c.1.2.2 d).2.2.1.getD (0,0)).2:Nat):Int)]]) S rfl rfl Tryz.call39 (unpack_ct (H:=H) _ _ ((Rn.rnext c.1.1 c.1.2.1 c.1.2.2 d).2.2.1.getD (0,0))) rfl rfl rfl fun v a w hR S=>?_
  obtain ⟨rfl,H⟩:=hR
  refine rs 7 S H t0 fun a w S H=>?_
  refine sr 2 S H t0 fun a w S H=>?_
  refine wp_ret ?_
  refine r_ret1 S H Tryz.results64 (ro_tmp S rfl) ?_
  exact ⟨rfl,pk [3,1,2] 4 H⟩

end Go.Proofs.YtoffbmhmocfmnaaGreatDoor
namespace Go.Proofs.YtoffbmhmocfmnaaGreatDoor
open Go.RowKit Go.Cg
set_option linter.unusedVariables false
set_option linter.unusedSimpArgs false
set_option maxRecDepth 8000
set_option synthInstance.maxHeartbeats 1000000
set_option synthInstance.maxSize 1000000
open Go.Cg.Dk (By Nm)
open Go.Cg.Rn (R Bd Rs RsOk RsFit)
open Go.Cg.Tr (E)
open Go.Cg.Sh (Cur Sw cur0)
/-- a cursor: its block, its reader -/
def curR (db fb rb:Nat) (c:Cur):Res:=star [fact (CurOk c),blk fb (.cells #[.pointer (some ⟨rb,0,none⟩),.int .u32 ((c.2.1.f:Nat):Int),.int .u32 ((c.2.1.t:Nat):Int),.int .u32 ((c.2.1.w:Nat):Int),.bool c.2.2] 84),rdrR rb db c.1.1 c.1.2.1 c.1.2.2 0]
theorem Sat.openCur {w:World} {L:List Res} {db fb rb:Nat} {c:Cur} (H:Sat w (curR db fb rb c::L)):CurOk c/\Sat w (blk fb (.cells #[.pointer (some ⟨rb,0,none⟩),.int .u32 ((c.2.1.f:Nat):Int),.int .u32 ((c.2.1.t:Nat):Int),.int .u32 ((c.2.1.w:Nat):Int),.bool c.2.2] 84)::rdrR rb db c.1.1 c.1.2.1 c.1.2.2 0::L):=by
  obtain ⟨h,H⟩:=sat_fact.1 (sat_star.1 H);exact ⟨h,H⟩
theorem Sat.shutCur {w:World} {L:List Res} {db fb rb:Nat} {c:Cur} (h:CurOk c) (H:Sat w (blk fb (.cells #[.pointer (some ⟨rb,0,none⟩),.int .u32 ((c.2.1.f:Nat):Int),.int .u32 ((c.2.1.t:Nat):Int),.int .u32 ((c.2.1.w:Nat):Int),.bool c.2.2] 84)::rdrR rb db c.1.1 c.1.2.1 c.1.2.2 0::L)):Sat w (curR db fb rb c::L):=sat_star.2 (sat_fact.2 ⟨h,H⟩)
def curRows (db:Nat) (bf br:List Nat) (cs:List Cur):List Res:=(bf.zip (br.zip cs)).map fun p=>curR db p.1 p.2.1 p.2.2
/-- cursors, by their addresses -/
def cursR (db:Nat) (bf br:List Nat) (cs:List Cur):Res:=star (fact (bf.length=cs.length/\br.length=cs.length)::curRows db bf br cs)
theorem Sat.noCurs {w:World} {L:List Res} (db:Nat) (H:Sat w L):Sat w (cursR db [] [] []::L):=sat_star.2 (sat_fact.2 ⟨⟨rfl,rfl⟩,H⟩)
theorem Sat.cursLen {w:World} {L:List Res} {db:Nat} {bf br:List Nat} {cs:List Cur} (H:Sat w (cursR db bf br cs::L)):bf.length=cs.length/\br.length=cs.length:=(sat_fact.1 (sat_star.1 H)).1
theorem Sat.cursIn {w:World} {L:List Res} {db fb rb:Nat} {bf br:List Nat} {cs:List Cur} {c:Cur} (H:Sat w (curR db fb rb c::cursR db bf br cs::L)):Sat w (cursR db (bf++[fb]) (br++[rb]) (cs++[c])::L):=by
  have H1:=sat_star.1 (H.perm (List.Perm.swap _ _ _))
  obtain ⟨hl,H1⟩:=sat_fact.1 H1
  refine sat_star.2 (sat_fact.2 ⟨by simp [hl],?_⟩)
  have e:curRows db (bf++[fb]) (br++[rb]) (cs++[c])=curRows db bf br cs++[curR db fb rb c]:=by unfold curRows;rw [List.zip_append hl.2,List.zip_append (by simp;omega)];simp
  refine H1.perm ?_
  show (curRows db bf br cs++(curR db fb rb c::L)).Perm (curRows db (bf++[fb]) (br++[rb]) (cs++[c])++L)
  rw [e,List.append_assoc];exact List.Perm.refl _
theorem curRows_at {db:Nat} {bf br:List Nat} {cs:List Cur} {i:Nat} (hl:bf.length=cs.length/\br.length=cs.length) (hi:i < cs.length) (x:Cur):curRows db bf br (cs.set i x)=(curRows db bf br cs).take i++curR db (bf.getD i 0) (br.getD i 0) x::(curRows db bf br cs).drop (i+1):=by
  have e1:bf.zip (br.zip (cs.set i x))=(bf.zip (br.zip cs)).set i (bf.getD i 0,br.getD i 0,x):=by
    apply List.ext_getElem
    · simp
    · intro j h1 h2
      simp only [List.getElem_zip,List.getElem_set]
      split
      · rename_i e;subst e
        rw [List.getD_eq_getElem?_getD,List.getElem?_eq_getElem (by omega),List.getD_eq_getElem?_getD,List.getElem?_eq_getElem (by omega)];rfl
      · rfl
  unfold curRows
  rw [e1,List.map_set,List.set_eq_take_append_cons_drop,if_pos (by simp;omega)]
theorem Sat.cursOut {w:World} {L:List Res} {db:Nat} {bf br:List Nat} {cs:List Cur} {i:Nat} (H:Sat w (cursR db bf br cs::L)) (hi:i < cs.length):∃M:Res,Sat w (curR db (bf.getD i 0) (br.getD i 0) (cs.getD i cur0)::M::L)/\
    ∀ (w':World) (L':List Res) (c':Cur),Sat w' (curR db (bf.getD i 0) (br.getD i 0) c'::M::L')->Sat w' (cursR db bf br (cs.set i c')::L'):=by
  obtain ⟨hl,H1⟩:=sat_fact.1 (sat_star.1 H)
  have e0:cs=cs.set i (cs.getD i cur0):=by
    rw [List.getD_eq_getElem?_getD,List.getElem?_eq_getElem hi];simp
  refine ⟨star ((curRows db bf br cs).take i++(curRows db bf br cs).drop (i+1)),?_,fun w' L' c' H'=>?_⟩
  · have e1:=curRows_at (db:=db) hl hi (cs.getD i cur0)
    rw [<-e0] at e1
    have H2:Sat w (curRows db bf br cs++L):=H1
    rw [e1,List.append_assoc,List.cons_append] at H2
    have H3:=H2.perm List.perm_middle
    refine Sat.perm (sat_star.2 ?_) (List.Perm.swap _ _ _)
    rw [<-List.append_assoc] at H3
    exact H3.perm (List.perm_middle (l₁:=_++_)).symm
  · refine sat_star.2 (sat_fact.2 ⟨by simpa using hl,?_⟩)
    have H2:=sat_star.1 (H'.perm (List.Perm.swap _ _ _))
    show Sat w' (curRows db bf br (cs.set i c')++L')
    rw [curRows_at hl hi,List.append_assoc,List.cons_append]
    rw [List.append_assoc] at H2
    refine H2.perm ?_
    refine List.Perm.append_left _ ?_
    exact List.perm_middle
/-- cursors, where nothing failed -/
def cursO (db:Nat) (bf br:List Nat) (cs:List Cur) (k:Nat):Res:=if k=0 then cursR db bf br cs else star []
theorem Sat.cursBad {w:World} {L:List Res} {db:Nat} {bf br:List Nat} {cs:List Cur} {k:Nat} (h:k≠0) (H:Sat w L):Sat w (cursO db bf br cs k::L):=by unfold cursO;rw [if_neg h];exact sat_star.2 H
theorem Sat.cursGood {w:World} {L:List Res} {db:Nat} {bf br:List Nat} {cs:List Cur} {k:Nat} (h:k=0) (H:Sat w (cursR db bf br cs::L)):Sat w (cursO db bf br cs k::L):=by unfold cursO;rw [if_pos h];exact H
theorem mid_getC (dn l:List Cur) (c:Cur):(dn++c::l).getD dn.length cur0=c:=by simp
theorem mid_setC (dn l:List Cur) (c x:Cur):(dn++c::l).set dn.length x=(dn++[x])++l:=by simp
theorem window_f_ct (w:World) (fr:List Res) (db zb:Nat) (A:Option Addr) (c0:Nat) (Ae:Option Addr) (ne ce at_ ec:Nat) (bf br:List Nat) (cs:List Cur) (d:Dk.Disk) (e:Int) (hbl:bf.length<=4096) (hps:(cs.map Sh.cpot).sum<=20000000000000) (hc:d.files.length<=4398046511104) (H:Sat w (cursR db bf br cs::blk zb (.cells #[.slice A bf.length c0,.slice Ae ne ce,.int .i64 ((at_:Nat):Int),.int .i64 ((ec:Nat):Int),.bool false] 78)::row 82 1 (.slice A bf.length c0) bf.length (ptrs bf)::diskR db d::fr)):
    Rt Tryz.prog 37 #[.pointer (some ⟨zb,0,none⟩),.int .i64 e] w fun v w'=>∃A' c',v=.tuple #[.slice A' (Sh.window e false [] cs [] d).2.2.1.length c',.int .i64 (((Sh.window e false [] cs [] d).2.2.2:Nat):Int)]/\Sat w' (row 61 3 (.slice A' (Sh.window e false [] cs [] d).2.2.1.length c') (Sh.window e false [] cs [] d).2.2.1.length (ecells (Sh.window e false [] cs [] d).2.2.1)::blk zb (.cells #[.slice A bf.length c0,.slice Ae ne ce,.int .i64 ((at_:Nat):Int),.int .i64 ((ec:Nat):Int),.bool (false||decide ((Sh.window e false [] cs [] d).2.2.2=0))] 78)::row 82 1 (.slice A bf.length c0) bf.length (ptrs bf)::cursO db bf br (Sh.window e false [] cs [] d).2.1 (Sh.window e false [] cs [] d).2.2.2::diskR db (Sh.window e false [] cs [] d).1::fr):=by
  refine en2 Tryz.func37 rfl Tryz.ntmps37 rfl fun a S=>?_
  have hcl:=Sat.cursLen H
  refine sr 2 S H t0 fun a w S H=>?_
  refine r_seq ?_
  refine sr 6 S H t0 fun a w S H=>?_
  refine r_block ?_
  have H:=H.nilRow 61 3
  refine r_loop (ι:=Nat×List Cur×List Cur×List E×Dk.Disk×Option Addr×Nat) (fun ⟨i,dn,rest,out,dd,Ao,co⟩ a w=>Slots a 60 [(0,.pointer (some ⟨zb,0,none⟩)),(1,.int .i64 e),(4,.slice Ao out.length co),(13,.slice A bf.length c0),(14,.int .i64 ((bf.length:Nat):Int)),(15,.int .i64 ((i:Nat):Int)),(60,undef)]/\Sat w (blk zb (.cells #[.slice A bf.length c0,.slice Ae ne ce,.int .i64 ((at_:Nat):Int),.int .i64 ((ec:Nat):Int),.bool false] 78)::row 82 1 (.slice A bf.length c0) bf.length (ptrs bf)::cursR db bf br (dn++rest)::row 61 3 (.slice Ao out.length co) out.length (ecells out)::diskR db dd::fr)/\(dn.length=i/\i+rest.length=bf.length/\Sh.window e false dn rest out dd=(Sh.window e false [] cs [] d)/\dd.files.length=d.files.length/\16*out.length+(rest.map Sh.cpot).sum<=(cs.map Sh.cpot).sum)) (fun ⟨i,dn,rest,out,dd,Ao,co⟩=>bf.length - i) (0,[],cs,[],d,none,0) ⟨S.sub ⟨rfl,rfl,rfl,rfl,rfl,rfl,rfl,trivial⟩,pk [2,3,1,0,4] 5 H,⟨rfl,by rw [hcl.1];exact Nat.zero_add _,rfl,rfl,by simp⟩⟩ (fun ⟨i,dn,rest,out,dd,Ao,co⟩ a w hI=>?_)
  obtain ⟨S,H,hI⟩:=hI
  obtain ⟨hdn,hrl,hT,hdf,hol⟩:=hI
  refine sr 1 S H t0 fun a w S H=>?_
  refine r_seq ?_
  refine r_test S rfl (fun h16=>?_) (fun h16=>?_)
  · skip
    refine wp_skip ?_
    refine x_then ?_
    refine r_seq ?_
    refine r_block ?_
    refine sb ?_
    obtain ⟨b1,rfl⟩:=H.rowAt (i:=1) rfl (by first | omega | (simp<;>omega))
    refine r_y S H (y_index S rfl rfl rfl Tryz.underlying76 Tryz.sizeOf82 (by omega) (by omega)) rfl rfl rfl fun a S=>?_
    refine r_y S H (y_loadAt S rfl rfl Tryz.isAgg82 (fun w H=>(SlOk.ofRow (i:=1) H rfl).cell w H (ptrs_at (i:=i) (by first | omega | (simp<;>omega))))) rfl rfl rfl fun a S=>?_
    refine rs 1 S H t0 fun a w S H=>?_
    refine r_seq ?_
    obtain ⟨c,l,rfl⟩:∃c l,rest=c::l:=by cases rest with | nil=>(simp at hrl;omega) | cons c l=>exact ⟨c,l,rfl⟩
    have hlen2:=Sat.cursLen ((pk [2,0,1,3,4] 5 H))
    obtain ⟨MR,H,hback⟩:=Sat.cursOut (i:=i) ((pk [2,0,1,3,4] 5 H)) (by simp;omega)
    rw [show (dn++c::l).getD i cur0=c from by rw [<-hdn];exact mid_getC dn l c] at H
    obtain ⟨ho,H⟩:=Sat.openCur H
    have hrp:=Sh.rpot_le ho.sz ho.ok
    have hcp:=Sh.cpot_ge c
    simp only [List.map_cons,List.sum_cons] at hol
    have hef:=ho.ef
    have hpm:=Sh.rpot_moves c dd ho.pos ho.ok
    have hom:=ho.moves dd
    have hmc:=Sh.moves_cnt c dd
    replace H:Sat _ (blk (bf.getD i 0) (.cells #[.pointer (some ⟨(br.getD i 0),0,none⟩),.int .u32 ((c.2.1.f:Nat):Int),.int .u32 ((c.2.1.t:Nat):Int),.int .u32 ((c.2.1.w:Nat):Int),.bool c.2.2] 84)::rdrR (br.getD i 0) db c.1.1 c.1.2.1 c.1.2.2 0::MR::blk zb (.cells #[.slice (some ⟨b1,0,none⟩) bf.length c0,.slice Ae ne ce,.int .i64 ((at_:Nat):Int),.int .i64 ((ec:Nat):Int),.bool false] 78)::row 82 1 (.slice (some ⟨b1,0,none⟩) bf.length c0) bf.length (ptrs bf)::row 61 3 (.slice Ao out.length co) out.length (ecells out)::diskR db dd::fr):=H
    refine sr 5 S H t0 fun a w S H=>?_
    refine r_condT S rfl ?_
    refine sb ?_
    refine rn 1 S H t0 fun a w S H=>?_
    refine r_call (args:=#[.pointer (some ⟨(bf.getD i 0),0,none⟩)]) S rfl rfl Tryz.call64 (moves_ct (H:=(pk [0,1,6,2,3,4,5] 7 H)) _ _ db (bf.getD i 0) (br.getD i 0) c dd ho (by omega)) rfl rfl rfl fun v a w hR S=>?_
    obtain ⟨rfl,H⟩:=hR
    refine rs 1 S H t0 fun a w S H=>?_
    refine sr 2 S H t0 fun a w S H=>?_
    refine r_test S rfl (fun h27=>?_) (fun h27=>?_)
    · skip
      refine sr 3 S H t0 fun a w S H=>?_
      refine wp_ret ?_
      refine x_thenRet ?_
      refine x_blockRet ?_
      refine x_thenRet ?_
      refine x_thenRet ?_
      refine x_blockRet ?_
      refine x_thenRet ?_
      refine r_ret2 S H Tryz.results37 (ro_tmp S rfl) (ro_tmp S rfl) ?_
      have eW:(Sh.window e false [] cs [] d)=((Sh.moves c dd).1,dn++(Sh.moves c dd).2.1::l,[],(Sh.moves c dd).2.2):=by rw [<-hT,Sh.window_bad (by omega)]
      rw [eW]
      have hbd:(false||decide ((Sh.moves c dd).2.2=0))=false:=by rw [decide_eq_false (by omega)];rfl
      rw [hbd]
      have H:=H.nilRow 61 3
      have H:=Sat.cursBad (db:=db) (bf:=bf) (br:=br) (cs:=dn++(Sh.moves c dd).2.1::l) (show (Sh.moves c dd).2.2≠0 by omega) H
      exact ⟨none,0,rfl,pk [1,6,7,0,4] 9 H⟩
    have he0:(Sh.moves c dd).2.2=0:=by omega
    refine wp_skip ?_
    refine x_then ?_
    refine r_block ?_
    rw [he0] at H
    refine r_loop (ι:=Nat×Cur×List E×Dk.Disk×Option Addr×Nat) (fun ⟨k,c1,out1,de,Ap,cp⟩ a w=>Slots a 60 [(0,.pointer (some ⟨zb,0,none⟩)),(1,.int .i64 e),(4,.slice Ap out1.length cp),(7,.pointer (some ⟨(bf.getD i 0),0,none⟩)),(8,.int .i64 (((Sh.moves c dd).2.2:Nat):Int)),(13,.slice (some ⟨b1,0,none⟩) bf.length c0),(14,.int .i64 ((bf.length:Nat):Int)),(15,.int .i64 ((i:Nat):Int)),(16,.bool (decide (((i:Nat):Int) < ((bf.length:Nat):Int)))),(17,.pointer (some ⟨b1,0+i*1,none⟩)),(18,.pointer (some ⟨(bf.getD i 0),0,none⟩)),(19,.pointer (some ⟨zb,0,none⟩)),(20,.pointer (some ⟨zb,0,none⟩)),(21,.pointer (some ⟨zb,4,none⟩)),(22,.bool false),(23,.bool true),(24,.pointer (some ⟨(bf.getD i 0),0,none⟩)),(25,.int .i64 (((Sh.moves c dd).2.2:Nat):Int)),(26,.int .i64 (((Sh.moves c dd).2.2:Nat):Int)),(27,.bool (decide ((((Sh.moves c dd).2.2:Nat):Int)≠0))),(60,undef)]/\Sat w (blk (bf.getD i 0) (.cells #[.pointer (some ⟨(br.getD i 0),0,none⟩),.int .u32 ((c1.2.1.f:Nat):Int),.int .u32 ((c1.2.1.t:Nat):Int),.int .u32 ((c1.2.1.w:Nat):Int),.bool c1.2.2] 84)::rdrR (br.getD i 0) db c1.1.1 c1.1.2.1 c1.1.2.2 0::MR::blk zb (.cells #[.slice (some ⟨b1,0,none⟩) bf.length c0,.slice Ae ne ce,.int .i64 ((at_:Nat):Int),.int .i64 ((ec:Nat):Int),.bool false] 78)::row 82 1 (.slice (some ⟨b1,0,none⟩) bf.length c0) bf.length (ptrs bf)::row 61 3 (.slice Ap out1.length cp) out1.length (ecells out1)::diskR db de::fr)/\(Sh.take1 e k c1 out1 de=Sh.take1 e (Sh.cleft (Sh.moves c dd).2.1+1) (Sh.moves c dd).2.1 out (Sh.moves c dd).1/\CurOk c1/\1<=k/\(c1.2.2=true->Rn.rleft c1.1.2.1 c1.1.2.2+1 < k)/\de.files.length=d.files.length/\16*out1.length+Sh.cpot c1+(l.map Sh.cpot).sum<=(cs.map Sh.cpot).sum)) (fun ⟨k,c1,out1,de,Ap,cp⟩=>k) (Sh.cleft (Sh.moves c dd).2.1+1,(Sh.moves c dd).2.1,out,(Sh.moves c dd).1,Ao,co) ⟨S.sub ⟨rfl,rfl,rfl,rfl,rfl,rfl,rfl,rfl,rfl,rfl,rfl,rfl,rfl,rfl,rfl,rfl,rfl,rfl,rfl,rfl,rfl,trivial⟩,pk [0,1,3,4,5,6,2] 7 H,⟨rfl,hom,Nat.succ_le_succ (Nat.zero_le _),fun _=>by unfold Sh.cleft;omega,by omega,by omega⟩⟩ (fun ⟨k,c1,out1,de,Ap,cp⟩ a w hI=>?_)
    obtain ⟨S,H,hI⟩:=hI
    obtain ⟨hT2,ho1,hk1,hfl,hfc,hpt⟩:=hI
    have he1f:=ho1.ef
    refine r_seq ?_
    rcases Bool.eq_false_or_eq_true c1.2.2 with hi | hi
    · skip
      refine sb ?_
      refine rn 4 S H t0 fun a w S H=>?_
      refine r_y S H (y_move S rfl rfl) rfl rfl rfl fun a S=>?_
      have S:=S.retell (v':=.bool true) 33 rfl (by rw [hi])
      refine rs 9 S H (by omega) fun a w S H=>?_
      refine r_test S rfl (fun h42=>?_) (fun h42=>?_)
      · skip
        refine wp_skip ?_
        refine x_then ?_
        refine r_block ?_
        refine sb ?_
        refine rn 5 S H t0 fun a w S H=>?_
        refine r_lit (vs:=#[(0,.agg #[.int .u32 ((c1.2.1.f:Nat):Int),.int .u32 ((c1.2.1.t:Nat):Int),.int .u32 ((c1.2.1.w:Nat):Int)])]) (cs:=ecells [c1.2.1]) S H rfl rfl el22 (by kernel_rfl) (by decide) (by rfl) rfl rfl rfl fun a w b3 S H=>?_
        refine r_appendS (L':=fun A4 c5=>row 61 3 (.slice (some ⟨b3,0,none⟩) 1 1) 1 (ecells [c1.2.1])::blk (bf.getD i 0) (.cells #[.pointer (some ⟨(br.getD i 0),0,none⟩),.int .u32 ((c1.2.1.f:Nat):Int),.int .u32 ((c1.2.1.t:Nat):Int),.int .u32 ((c1.2.1.w:Nat):Int),.bool c1.2.2] 84)::rdrR (br.getD i 0) db c1.1.1 c1.1.2.1 c1.1.2.2 0::MR::blk zb (.cells #[.slice (some ⟨b1,0,none⟩) bf.length c0,.slice Ae ne ce,.int .i64 ((at_:Nat):Int),.int .i64 ((ec:Nat):Int),.bool false] 78)::row 82 1 (.slice (some ⟨b1,0,none⟩) bf.length c0) bf.length (ptrs bf)::row 61 3 (.slice A4 (out1.length+1) c5) (out1.length+1) (ecells (out1++([c1.2.1])))::diskR db de::fr) (xs':=ecells (out1++([c1.2.1]))) 6 S H rfl rfl rfl rfl el22 (SlOk.ofRow (i:=0) H rfl) (one_ecells _) (by simp only [maxLen];first | omega | (simp<;>omega)) (by first | omega | (simp<;>omega)) (ecells_app out1 ([c1.2.1])) (by first | omega | (simp<;>omega)) (fun _ _=>rfl) rfl rfl rfl fun a w A4 c5 hA4 S H=>?_
        refine rs 1 S H t0 fun a w S H=>?_
        refine sb ?_
        refine rn 1 S H t0 fun a w S H=>?_
        refine r_call (args:=#[.pointer (some ⟨(bf.getD i 0),0,none⟩)]) S rfl rfl Tryz.call64 (moves_ct (H:=(pk [1,2,7,0,3,4,5,6] 8 H)) _ _ db (bf.getD i 0) (br.getD i 0) c1 de ho1 (by omega)) rfl rfl rfl fun v a w hR S=>?_
        obtain ⟨rfl,H⟩:=hR
        refine rs 1 S H t0 fun a w S H=>?_
        refine sr 2 S H t0 fun a w S H=>?_
        refine r_test S rfl (fun h53=>?_) (fun h53=>?_)
        · skip
          refine sr 3 S H t0 fun a w S H=>?_
          refine wp_ret ?_
          refine x_blockRet ?_
          refine x_thenRet ?_
          refine x_blockRet ?_
          refine x_blockRet ?_
          refine x_thenRet ?_
          refine x_thenRet ?_
          refine x_blockRet ?_
          refine x_thenRet ?_
          refine r_ret2 S H Tryz.results37 (ro_tmp S rfl) (ro_tmp S rfl) ?_
          obtain ⟨k,rfl⟩:∃j,k=j+1:=⟨k - 1,by omega⟩
          have hgo:c1.2.2=true/\(c1.2.1.f:Int) < e:=⟨hi,by omega⟩
          have htb:=Sh.take1_bad (out:=out1) (k:=k) hgo (show (Sh.moves c1 de).2.2≠0 by omega)
          rw [hT2] at htb
          have eW:(Sh.window e false [] cs [] d)=((Sh.moves c1 de).1,dn++(Sh.moves c1 de).2.1::l,[],(Sh.moves c1 de).2.2):=by rw [<-hT,Sh.window_f he0,htb,if_pos (by simp only;omega)]
          rw [eW]
          have hbd:(false||decide ((Sh.moves c1 de).2.2=0))=false:=by rw [decide_eq_false (by omega)];rfl
          rw [hbd]
          have H:=H.nilRow 61 3
          have H:=Sat.cursBad (db:=db) (bf:=bf) (br:=br) (cs:=dn++(Sh.moves c1 de).2.1::l) (show (Sh.moves c1 de).2.2≠0 by omega) H
          exact ⟨none,0,rfl,pk [1,7,8,0,4] 10 H⟩
        refine wp_skip ?_
        refine x_blockEnd ?_
        refine x_then ?_
        have he1:(Sh.moves c1 de).2.2=0:=by omega
        obtain ⟨k,rfl⟩:∃j,k=j+1:=⟨k - 1,by omega⟩
        have hgo:c1.2.2=true/\(c1.2.1.f:Int) < e:=⟨hi,by omega⟩
        have htm:=Sh.take1_more (out:=out1) (k:=k) hgo he1
        rw [hT2] at htm
        have hfu:=hfl hi
        have hnn:=(ho1.ok.next (n:=c1.1.1) (d:=de)).2
        have hp1:=Sh.rpot_moves c1 de ho1.pos ho1.ok
        have hc1e:Sh.cpot c1=Sh.rpot c1+16:=by unfold Sh.cpot;rw [if_pos hi]
        have hmc1:=Sh.moves_cnt c1 de
        have en:out1.length+1=(out1++[c1.2.1]).length:=by simp
        have H:=pk [0,1,4,5,6,7,2] 8 H
        rw [he1,en] at H
        exact ⟨(k,(Sh.moves c1 de).2.1,out1++[c1.2.1],(Sh.moves c1 de).1,A4,c5),⟨S.sub ⟨rfl,rfl,(by rw [<-en];rfl),rfl,rfl,rfl,rfl,rfl,rfl,rfl,rfl,rfl,rfl,rfl,rfl,rfl,rfl,rfl,rfl,rfl,rfl,trivial⟩,H,⟨htm.symm,ho1.moves de,by omega,fun hi2=>by have h9:=hnn hi2;have h9b:Rn.rleft (Sh.moves c1 de).2.1.1.2.1 (Sh.moves c1 de).2.1.1.2.2 < Rn.rleft c1.1.2.1 c1.1.2.2:=h9;omega,by omega,by simp;omega⟩⟩,by show k < k+1;omega⟩
      refine wp_exit ?_
      refine x_thenExit ?_
      refine x_thenExit ?_
      refine x_blockHere ?_
      refine x_blockEnd ?_
      refine x_then ?_
      refine er 2 S H (by omega) fun a w S H=>?_
      refine x_then ?_
      have hts:Sh.take1 e k c1 out1 de=(de,c1,out1,0):=Sh.take1_stop (fun hx=>by have:=hx.2;omega) hk1
      rw [hts] at hT2
      have hwn:Sh.window e false (dn++[c1]) l out1 de=(Sh.window e false [] cs [] d):=by rw [<-hT,Sh.window_f he0,<-hT2,if_neg (by simp)]
      have H:=hback _ _ c1 (Sat.shutCur ho1 (H))
      rw [<-hdn,mid_setC] at H
      have H:=pk [1,2,0,3,4] 5 H
      exact ⟨(i+1,dn++[c1],l,out1,de,Ap,cp),⟨S.sub ⟨rfl,rfl,rfl,rfl,rfl,rfl,rfl,trivial⟩,H,⟨by simp;omega,by simp at hrl;omega,hwn,by omega,by omega⟩⟩,by show bf.length - (i+1) < bf.length - i;omega⟩
    refine sb ?_
    refine rn 4 S H t0 fun a w S H=>?_
    refine r_y S H (y_move S rfl rfl) rfl rfl rfl fun a S=>?_
    have S:=S.retell (v':=.bool false) 33 rfl (by rw [hi])
    refine rs 9 S H t0 fun a w S H=>?_
    refine r_condF S rfl ?_
    refine wp_exit ?_
    refine x_thenExit ?_
    refine x_thenExit ?_
    refine x_blockHere ?_
    refine x_blockEnd ?_
    refine x_then ?_
    refine er 2 S H (by omega) fun a w S H=>?_
    refine x_then ?_
    have hts:Sh.take1 e k c1 out1 de=(de,c1,out1,0):=Sh.take1_stop (fun hx=>by have:=hx.1;rw [hi] at this;cases this) hk1
    rw [hts] at hT2
    have hwn:Sh.window e false (dn++[c1]) l out1 de=(Sh.window e false [] cs [] d):=by rw [<-hT,Sh.window_f he0,<-hT2,if_neg (by simp)]
    have H:=hback _ _ c1 (Sat.shutCur ho1 (H))
    rw [<-hdn,mid_setC] at H
    have H:=pk [1,2,0,3,4] 5 H
    exact ⟨(i+1,dn++[c1],l,out1,de,Ap,cp),⟨S.sub ⟨rfl,rfl,rfl,rfl,rfl,rfl,rfl,trivial⟩,H,⟨by simp;omega,by simp at hrl;omega,hwn,by omega,by omega⟩⟩,by show bf.length - (i+1) < bf.length - i;omega⟩
  refine wp_exit ?_
  refine x_thenExit ?_
  refine x_thenExit ?_
  refine x_blockHere ?_
  refine x_then ?_
  refine sr 4 S H t0 fun a w S H=>?_
  refine sr 3 S H t0 fun a w S H=>?_
  refine wp_ret ?_
  refine r_ret2 S H Tryz.results37 (ro_tmp S rfl) (ro_tmp S rfl) ?_
  have hr0:rest=[]:=List.eq_nil_of_length_eq_zero (by omega)
  subst hr0
  have eW:(Sh.window e false [] cs [] d)=(dd,dn,out,0):=by rw [<-hT];rfl
  rw [eW]
  rw [List.append_nil] at H
  have H:=Sat.cursGood (k:=0) rfl (pk [2,3,0,1,4] 5 H)
  exact ⟨_,_,rfl,pk [1,2,3,0,4] 5 H⟩

theorem window_t_ct (w:World) (fr:List Res) (db zb:Nat) (A:Option Addr) (c0:Nat) (Ae:Option Addr) (ne ce at_ ec:Nat) (bf br:List Nat) (cs:List Cur) (d:Dk.Disk) (e:Int) (hbl:bf.length<=4096) (hps:(cs.map Sh.cpot).sum<=20000000000000) (hc:d.files.length<=4398046511104) (H:Sat w (cursR db bf br cs::blk zb (.cells #[.slice A bf.length c0,.slice Ae ne ce,.int .i64 ((at_:Nat):Int),.int .i64 ((ec:Nat):Int),.bool true] 78)::row 82 1 (.slice A bf.length c0) bf.length (ptrs bf)::diskR db d::fr)):
    Rt Tryz.prog 37 #[.pointer (some ⟨zb,0,none⟩),.int .i64 e] w fun v w'=>∃A' c',v=.tuple #[.slice A' (Sh.window e true [] cs [] d).2.2.1.length c',.int .i64 (((Sh.window e true [] cs [] d).2.2.2:Nat):Int)]/\Sat w' (row 61 3 (.slice A' (Sh.window e true [] cs [] d).2.2.1.length c') (Sh.window e true [] cs [] d).2.2.1.length (ecells (Sh.window e true [] cs [] d).2.2.1)::blk zb (.cells #[.slice A bf.length c0,.slice Ae ne ce,.int .i64 ((at_:Nat):Int),.int .i64 ((ec:Nat):Int),.bool (true||decide ((Sh.window e true [] cs [] d).2.2.2=0))] 78)::row 82 1 (.slice A bf.length c0) bf.length (ptrs bf)::cursO db bf br (Sh.window e true [] cs [] d).2.1 (Sh.window e true [] cs [] d).2.2.2::diskR db (Sh.window e true [] cs [] d).1::fr):=by
  refine en2 Tryz.func37 rfl Tryz.ntmps37 rfl fun a S=>?_
  have hcl:=Sat.cursLen H
  refine sr 2 S H t0 fun a w S H=>?_
  refine r_seq ?_
  refine sr 6 S H t0 fun a w S H=>?_
  refine r_block ?_
  have H:=H.nilRow 61 3
  refine r_loop (ι:=Nat×List Cur×List Cur×List E×Dk.Disk×Option Addr×Nat) (fun ⟨i,dn,rest,out,dd,Ao,co⟩ a w=>Slots a 60 [(0,.pointer (some ⟨zb,0,none⟩)),(1,.int .i64 e),(4,.slice Ao out.length co),(13,.slice A bf.length c0),(14,.int .i64 ((bf.length:Nat):Int)),(15,.int .i64 ((i:Nat):Int)),(60,undef)]/\Sat w (blk zb (.cells #[.slice A bf.length c0,.slice Ae ne ce,.int .i64 ((at_:Nat):Int),.int .i64 ((ec:Nat):Int),.bool true] 78)::row 82 1 (.slice A bf.length c0) bf.length (ptrs bf)::cursR db bf br (dn++rest)::row 61 3 (.slice Ao out.length co) out.length (ecells out)::diskR db dd::fr)/\(dn.length=i/\i+rest.length=bf.length/\Sh.window e true dn rest out dd=(Sh.window e true [] cs [] d)/\dd.files.length=d.files.length/\16*out.length+(rest.map Sh.cpot).sum<=(cs.map Sh.cpot).sum)) (fun ⟨i,dn,rest,out,dd,Ao,co⟩=>bf.length - i) (0,[],cs,[],d,none,0) ⟨S.sub ⟨rfl,rfl,rfl,rfl,rfl,rfl,rfl,trivial⟩,pk [2,3,1,0,4] 5 H,⟨rfl,by rw [hcl.1];exact Nat.zero_add _,rfl,rfl,by simp⟩⟩ (fun ⟨i,dn,rest,out,dd,Ao,co⟩ a w hI=>?_)
  obtain ⟨S,H,hI⟩:=hI
  obtain ⟨hdn,hrl,hT,hdf,hol⟩:=hI
  refine sr 1 S H t0 fun a w S H=>?_
  refine r_seq ?_
  refine r_test S rfl (fun h16=>?_) (fun h16=>?_)
  · skip
    refine wp_skip ?_
    refine x_then ?_
    refine r_seq ?_
    refine r_block ?_
    refine sb ?_
    obtain ⟨b1,rfl⟩:=H.rowAt (i:=1) rfl (by first | omega | (simp<;>omega))
    refine r_y S H (y_index S rfl rfl rfl Tryz.underlying76 Tryz.sizeOf82 (by omega) (by omega)) rfl rfl rfl fun a S=>?_
    refine r_y S H (y_loadAt S rfl rfl Tryz.isAgg82 (fun w H=>(SlOk.ofRow (i:=1) H rfl).cell w H (ptrs_at (i:=i) (by first | omega | (simp<;>omega))))) rfl rfl rfl fun a S=>?_
    refine rs 1 S H t0 fun a w S H=>?_
    refine r_seq ?_
    obtain ⟨c,l,rfl⟩:∃c l,rest=c::l:=by cases rest with | nil=>(simp at hrl;omega) | cons c l=>exact ⟨c,l,rfl⟩
    have hlen2:=Sat.cursLen ((pk [2,0,1,3,4] 5 H))
    obtain ⟨MR,H,hback⟩:=Sat.cursOut (i:=i) ((pk [2,0,1,3,4] 5 H)) (by simp;omega)
    rw [show (dn++c::l).getD i cur0=c from by rw [<-hdn];exact mid_getC dn l c] at H
    obtain ⟨ho,H⟩:=Sat.openCur H
    have hrp:=Sh.rpot_le ho.sz ho.ok
    have hcp:=Sh.cpot_ge c
    simp only [List.map_cons,List.sum_cons] at hol
    have hef:=ho.ef
    have hpm:=Sh.rpot_moves c dd ho.pos ho.ok
    have hom:=ho.moves dd
    have hmc:=Sh.moves_cnt c dd
    replace H:Sat _ (blk (bf.getD i 0) (.cells #[.pointer (some ⟨(br.getD i 0),0,none⟩),.int .u32 ((c.2.1.f:Nat):Int),.int .u32 ((c.2.1.t:Nat):Int),.int .u32 ((c.2.1.w:Nat):Int),.bool c.2.2] 84)::rdrR (br.getD i 0) db c.1.1 c.1.2.1 c.1.2.2 0::MR::blk zb (.cells #[.slice (some ⟨b1,0,none⟩) bf.length c0,.slice Ae ne ce,.int .i64 ((at_:Nat):Int),.int .i64 ((ec:Nat):Int),.bool true] 78)::row 82 1 (.slice (some ⟨b1,0,none⟩) bf.length c0) bf.length (ptrs bf)::row 61 3 (.slice Ao out.length co) out.length (ecells out)::diskR db dd::fr):=H
    refine sr 5 S H t0 fun a w S H=>?_
    refine r_condF S rfl ?_
    refine wp_skip ?_
    refine x_then ?_
    refine r_block ?_
    refine r_loop (ι:=Nat×Cur×List E×Dk.Disk×Option Addr×Nat) (fun ⟨k,c1,out1,de,Ap,cp⟩ a w=>Slots a 60 [(0,.pointer (some ⟨zb,0,none⟩)),(1,.int .i64 e),(4,.slice Ap out1.length cp),(7,.pointer (some ⟨(bf.getD i 0),0,none⟩)),(13,.slice (some ⟨b1,0,none⟩) bf.length c0),(14,.int .i64 ((bf.length:Nat):Int)),(15,.int .i64 ((i:Nat):Int)),(16,.bool (decide (((i:Nat):Int) < ((bf.length:Nat):Int)))),(17,.pointer (some ⟨b1,0+i*1,none⟩)),(18,.pointer (some ⟨(bf.getD i 0),0,none⟩)),(19,.pointer (some ⟨zb,0,none⟩)),(20,.pointer (some ⟨zb,0,none⟩)),(21,.pointer (some ⟨zb,4,none⟩)),(22,.bool true),(23,.bool false),(60,undef)]/\Sat w (blk (bf.getD i 0) (.cells #[.pointer (some ⟨(br.getD i 0),0,none⟩),.int .u32 ((c1.2.1.f:Nat):Int),.int .u32 ((c1.2.1.t:Nat):Int),.int .u32 ((c1.2.1.w:Nat):Int),.bool c1.2.2] 84)::rdrR (br.getD i 0) db c1.1.1 c1.1.2.1 c1.1.2.2 0::MR::blk zb (.cells #[.slice (some ⟨b1,0,none⟩) bf.length c0,.slice Ae ne ce,.int .i64 ((at_:Nat):Int),.int .i64 ((ec:Nat):Int),.bool true] 78)::row 82 1 (.slice (some ⟨b1,0,none⟩) bf.length c0) bf.length (ptrs bf)::row 61 3 (.slice Ap out1.length cp) out1.length (ecells out1)::diskR db de::fr)/\(Sh.take1 e k c1 out1 de=Sh.take1 e (Sh.cleft c+1) c out dd/\CurOk c1/\1<=k/\(c1.2.2=true->Rn.rleft c1.1.2.1 c1.1.2.2+1 < k)/\de.files.length=d.files.length/\16*out1.length+Sh.cpot c1+(l.map Sh.cpot).sum<=(cs.map Sh.cpot).sum)) (fun ⟨k,c1,out1,de,Ap,cp⟩=>k) (Sh.cleft c+1,c,out,dd,Ao,co) ⟨S.sub ⟨rfl,rfl,rfl,rfl,rfl,rfl,rfl,rfl,rfl,rfl,rfl,rfl,rfl,rfl,rfl,rfl,trivial⟩,H,⟨rfl,ho,Nat.succ_le_succ (Nat.zero_le _),fun _=>by unfold Sh.cleft;omega,by omega,by omega⟩⟩ (fun ⟨k,c1,out1,de,Ap,cp⟩ a w hI=>?_)
    obtain ⟨S,H,hI⟩:=hI
    obtain ⟨hT2,ho1,hk1,hfl,hfc,hpt⟩:=hI
    have he1f:=ho1.ef
    refine r_seq ?_
    rcases Bool.eq_false_or_eq_true c1.2.2 with hi | hi
    · skip
      refine sb ?_
      refine rn 4 S H t0 fun a w S H=>?_
      refine r_y S H (y_move S rfl rfl) rfl rfl rfl fun a S=>?_
      have S:=S.retell (v':=.bool true) 33 rfl (by rw [hi])
      refine rs 9 S H (by omega) fun a w S H=>?_
      refine r_test S rfl (fun h42=>?_) (fun h42=>?_)
      · skip
        refine wp_skip ?_
        refine x_then ?_
        refine r_block ?_
        refine sb ?_
        refine rn 5 S H t0 fun a w S H=>?_
        refine r_lit (vs:=#[(0,.agg #[.int .u32 ((c1.2.1.f:Nat):Int),.int .u32 ((c1.2.1.t:Nat):Int),.int .u32 ((c1.2.1.w:Nat):Int)])]) (cs:=ecells [c1.2.1]) S H rfl rfl el22 (by kernel_rfl) (by decide) (by rfl) rfl rfl rfl fun a w b3 S H=>?_
        refine r_appendS (L':=fun A4 c5=>row 61 3 (.slice (some ⟨b3,0,none⟩) 1 1) 1 (ecells [c1.2.1])::blk (bf.getD i 0) (.cells #[.pointer (some ⟨(br.getD i 0),0,none⟩),.int .u32 ((c1.2.1.f:Nat):Int),.int .u32 ((c1.2.1.t:Nat):Int),.int .u32 ((c1.2.1.w:Nat):Int),.bool c1.2.2] 84)::rdrR (br.getD i 0) db c1.1.1 c1.1.2.1 c1.1.2.2 0::MR::blk zb (.cells #[.slice (some ⟨b1,0,none⟩) bf.length c0,.slice Ae ne ce,.int .i64 ((at_:Nat):Int),.int .i64 ((ec:Nat):Int),.bool true] 78)::row 82 1 (.slice (some ⟨b1,0,none⟩) bf.length c0) bf.length (ptrs bf)::row 61 3 (.slice A4 (out1.length+1) c5) (out1.length+1) (ecells (out1++([c1.2.1])))::diskR db de::fr) (xs':=ecells (out1++([c1.2.1]))) 6 S H rfl rfl rfl rfl el22 (SlOk.ofRow (i:=0) H rfl) (one_ecells _) (by simp only [maxLen];first | omega | (simp<;>omega)) (by first | omega | (simp<;>omega)) (ecells_app out1 ([c1.2.1])) (by first | omega | (simp<;>omega)) (fun _ _=>rfl) rfl rfl rfl fun a w A4 c5 hA4 S H=>?_
        refine rs 1 S H t0 fun a w S H=>?_
        refine sb ?_
        refine rn 1 S H t0 fun a w S H=>?_
        refine r_call (args:=#[.pointer (some ⟨(bf.getD i 0),0,none⟩)]) S rfl rfl Tryz.call64 (moves_ct (H:=(pk [1,2,7,0,3,4,5,6] 8 H)) _ _ db (bf.getD i 0) (br.getD i 0) c1 de ho1 (by omega)) rfl rfl rfl fun v a w hR S=>?_
        obtain ⟨rfl,H⟩:=hR
        refine rs 1 S H t0 fun a w S H=>?_
        refine sr 2 S H t0 fun a w S H=>?_
        refine r_test S rfl (fun h53=>?_) (fun h53=>?_)
        · skip
          refine sr 3 S H t0 fun a w S H=>?_
          refine wp_ret ?_
          refine x_blockRet ?_
          refine x_thenRet ?_
          refine x_blockRet ?_
          refine x_blockRet ?_
          refine x_thenRet ?_
          refine x_thenRet ?_
          refine x_blockRet ?_
          refine x_thenRet ?_
          refine r_ret2 S H Tryz.results37 (ro_tmp S rfl) (ro_tmp S rfl) ?_
          obtain ⟨k,rfl⟩:∃j,k=j+1:=⟨k - 1,by omega⟩
          have hgo:c1.2.2=true/\(c1.2.1.f:Int) < e:=⟨hi,by omega⟩
          have htb:=Sh.take1_bad (out:=out1) (k:=k) hgo (show (Sh.moves c1 de).2.2≠0 by omega)
          rw [hT2] at htb
          have eW:(Sh.window e true [] cs [] d)=((Sh.moves c1 de).1,dn++(Sh.moves c1 de).2.1::l,[],(Sh.moves c1 de).2.2):=by rw [<-hT,Sh.window_t,htb,if_pos (by simp only;omega)]
          rw [eW]
          have hbd:(true||decide ((Sh.moves c1 de).2.2=0))=true:=by rfl
          rw [hbd]
          have H:=H.nilRow 61 3
          have H:=Sat.cursBad (db:=db) (bf:=bf) (br:=br) (cs:=dn++(Sh.moves c1 de).2.1::l) (show (Sh.moves c1 de).2.2≠0 by omega) H
          exact ⟨none,0,rfl,pk [1,7,8,0,4] 10 H⟩
        refine wp_skip ?_
        refine x_blockEnd ?_
        refine x_then ?_
        have he1:(Sh.moves c1 de).2.2=0:=by omega
        obtain ⟨k,rfl⟩:∃j,k=j+1:=⟨k - 1,by omega⟩
        have hgo:c1.2.2=true/\(c1.2.1.f:Int) < e:=⟨hi,by omega⟩
        have htm:=Sh.take1_more (out:=out1) (k:=k) hgo he1
        rw [hT2] at htm
        have hfu:=hfl hi
        have hnn:=(ho1.ok.next (n:=c1.1.1) (d:=de)).2
        have hp1:=Sh.rpot_moves c1 de ho1.pos ho1.ok
        have hc1e:Sh.cpot c1=Sh.rpot c1+16:=by unfold Sh.cpot;rw [if_pos hi]
        have hmc1:=Sh.moves_cnt c1 de
        have en:out1.length+1=(out1++[c1.2.1]).length:=by simp
        have H:=pk [0,1,4,5,6,7,2] 8 H
        rw [he1,en] at H
        exact ⟨(k,(Sh.moves c1 de).2.1,out1++[c1.2.1],(Sh.moves c1 de).1,A4,c5),⟨S.sub ⟨rfl,rfl,(by rw [<-en];rfl),rfl,rfl,rfl,rfl,rfl,rfl,rfl,rfl,rfl,rfl,rfl,rfl,rfl,trivial⟩,H,⟨htm.symm,ho1.moves de,by omega,fun hi2=>by have h9:=hnn hi2;have h9b:Rn.rleft (Sh.moves c1 de).2.1.1.2.1 (Sh.moves c1 de).2.1.1.2.2 < Rn.rleft c1.1.2.1 c1.1.2.2:=h9;omega,by omega,by simp;omega⟩⟩,by show k < k+1;omega⟩
      refine wp_exit ?_
      refine x_thenExit ?_
      refine x_thenExit ?_
      refine x_blockHere ?_
      refine x_blockEnd ?_
      refine x_then ?_
      refine er 2 S H (by omega) fun a w S H=>?_
      refine x_then ?_
      have hts:Sh.take1 e k c1 out1 de=(de,c1,out1,0):=Sh.take1_stop (fun hx=>by have:=hx.2;omega) hk1
      rw [hts] at hT2
      have hwn:Sh.window e true (dn++[c1]) l out1 de=(Sh.window e true [] cs [] d):=by rw [<-hT,Sh.window_t,<-hT2,if_neg (by simp)]
      have H:=hback _ _ c1 (Sat.shutCur ho1 (H))
      rw [<-hdn,mid_setC] at H
      have H:=pk [1,2,0,3,4] 5 H
      exact ⟨(i+1,dn++[c1],l,out1,de,Ap,cp),⟨S.sub ⟨rfl,rfl,rfl,rfl,rfl,rfl,rfl,trivial⟩,H,⟨by simp;omega,by simp at hrl;omega,hwn,by omega,by omega⟩⟩,by show bf.length - (i+1) < bf.length - i;omega⟩
    refine sb ?_
    refine rn 4 S H t0 fun a w S H=>?_
    refine r_y S H (y_move S rfl rfl) rfl rfl rfl fun a S=>?_
    have S:=S.retell (v':=.bool false) 33 rfl (by rw [hi])
    refine rs 9 S H t0 fun a w S H=>?_
    refine r_condF S rfl ?_
    refine wp_exit ?_
    refine x_thenExit ?_
    refine x_thenExit ?_
    refine x_blockHere ?_
    refine x_blockEnd ?_
    refine x_then ?_
    refine er 2 S H (by omega) fun a w S H=>?_
    refine x_then ?_
    have hts:Sh.take1 e k c1 out1 de=(de,c1,out1,0):=Sh.take1_stop (fun hx=>by have:=hx.1;rw [hi] at this;cases this) hk1
    rw [hts] at hT2
    have hwn:Sh.window e true (dn++[c1]) l out1 de=(Sh.window e true [] cs [] d):=by rw [<-hT,Sh.window_t,<-hT2,if_neg (by simp)]
    have H:=hback _ _ c1 (Sat.shutCur ho1 (H))
    rw [<-hdn,mid_setC] at H
    have H:=pk [1,2,0,3,4] 5 H
    exact ⟨(i+1,dn++[c1],l,out1,de,Ap,cp),⟨S.sub ⟨rfl,rfl,rfl,rfl,rfl,rfl,rfl,trivial⟩,H,⟨by simp;omega,by simp at hrl;omega,hwn,by omega,by omega⟩⟩,by show bf.length - (i+1) < bf.length - i;omega⟩
  refine wp_exit ?_
  refine x_thenExit ?_
  refine x_thenExit ?_
  refine x_blockHere ?_
  refine x_then ?_
  refine sr 4 S H t0 fun a w S H=>?_
  refine sr 3 S H t0 fun a w S H=>?_
  refine wp_ret ?_
  refine r_ret2 S H Tryz.results37 (ro_tmp S rfl) (ro_tmp S rfl) ?_
  have hr0:rest=[]:=List.eq_nil_of_length_eq_zero (by omega)
  subst hr0
  have eW:(Sh.window e true [] cs [] d)=(dd,dn,out,0):=by rw [<-hT];rfl
  rw [eW]
  rw [List.append_nil] at H
  have H:=Sat.cursGood (k:=0) rfl (pk [2,3,0,1,4] 5 H)
  exact ⟨_,_,rfl,pk [1,2,3,0,4] 5 H⟩

end Go.Proofs.YtoffbmhmocfmnaaGreatDoor
