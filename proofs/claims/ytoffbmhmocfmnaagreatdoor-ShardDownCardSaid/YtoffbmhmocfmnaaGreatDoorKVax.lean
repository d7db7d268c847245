/- Laws of the model, walks of functions of the program, and what they rest on. No condition. -/
import Derived.Test.YtoffbmhmocfmnaaGreatDoorKVaw
import Derived.Test.YtoffbmhmocfmnaaGreatDoorKVak
import Derived.Laws.BitsLemmas
namespace Go.Proofs.YtoffbmhmocfmnaaGreatDoor
open Go.RowKit Go.Cg
set_option linter.unusedVariables false
set_option linter.unusedSimpArgs false
set_option maxRecDepth 8000
set_option synthInstance.maxHeartbeats 1000000
set_option synthInstance.maxSize 1000000
theorem el76:Elem Tryz.prog 76 82 1 8 (.pointer none):=⟨Tryz.underlying76,by kernel_rfl,rfl,by decide⟩
open Go.Cg.Dk (By Nm)
open Go.Cg.Rn (R Bd Rs RsOk RsFit)
open Go.Cg.Tr (E)
open Go.Cg.Sh (Cur Sw cur0)
theorem Sat.only {w:World} {R:Res} {L:List Res} (H:Sat w (R::L)):Sat w [R]:=H.sub (List.Sublist.cons_cons _ (List.nil_sublist _))
/-- a sweep as it may be -/
structure SwOk (n:Nat) (s:Sw):Prop where
  few:n<=4096
  pot:s.err=0->(s.l.map Sh.cpot).sum<=20000000000000
  le:s.at_<=s.ends.length
  en:s.ends.length<=4096
/-- a sweep: its block, its cursors, where intervals end -/
def swR (db zb:Nat) (s:Sw):Res:=ex fun q:(List Nat×List Nat)×(Option Addr×Nat)×(Option Addr×Nat)×Res=>star [fact (SwOk q.1.1.length s/\SlOk [q.2.2.2] 1 q.2.2.1.1 s.ends.length q.2.2.1.2 (ints s.ends)),blk zb (.cells #[.slice q.2.1.1 q.1.1.length q.2.1.2,.slice q.2.2.1.1 s.ends.length q.2.2.1.2,.int .i64 ((s.at_:Nat):Int),.int .i64 ((s.err:Nat):Int),.bool s.begun] 78),row 82 1 (.slice q.2.1.1 q.1.1.length q.2.1.2) q.1.1.length (ptrs q.1.1),q.2.2.2,cursO db q.1.1 q.1.2 s.l s.err]
theorem Sat.openSw {w:World} {L:List Res} {db zb:Nat} {s:Sw} (H:Sat w (swR db zb s::L)):∃(bf br:List Nat) (A:Option Addr) (c:Nat) (Ae:Option Addr) (ce:Nat) (TR:Res),SwOk bf.length s/\SlOk [TR] 1 Ae s.ends.length ce (ints s.ends)/\Sat w (blk zb (.cells #[.slice A bf.length c,.slice Ae s.ends.length ce,.int .i64 ((s.at_:Nat):Int),.int .i64 ((s.err:Nat):Int),.bool s.begun] 78)::row 82 1 (.slice A bf.length c) bf.length (ptrs bf)::TR::cursO db bf br s.l s.err::L):=by
  obtain ⟨⟨⟨bf,br⟩,⟨A,c⟩,⟨Ae,ce⟩,TR⟩,H⟩:=sat_ex.1 H
  obtain ⟨⟨h1,h2⟩,H⟩:=sat_fact.1 (sat_star.1 H)
  exact ⟨bf,br,A,c,Ae,ce,TR,h1,h2,H⟩
theorem Sat.shutSw {w:World} {L:List Res} {db zb c ce:Nat} {s:Sw} {bf br:List Nat} {A Ae:Option Addr} {TR:Res} (h1:SwOk bf.length s) (h2:SlOk [TR] 1 Ae s.ends.length ce (ints s.ends)) (H:Sat w (blk zb (.cells #[.slice A bf.length c,.slice Ae s.ends.length ce,.int .i64 ((s.at_:Nat):Int),.int .i64 ((s.err:Nat):Int),.bool s.begun] 78)::row 82 1 (.slice A bf.length c) bf.length (ptrs bf)::TR::cursO db bf br s.l s.err::L)):Sat w (swR db zb s::L):=
  sat_ex.2 ⟨((bf,br),(A,c),(Ae,ce),TR),sat_star.2 (sat_fact.2 ⟨⟨h1,h2⟩,H⟩)⟩
/-- a sweep, if there is one -/
def swO (db zb:Nat) (o:Option Sw):Res:=match o with
  | some s=>swR db zb s
  | none=>star []
theorem Sat.noSw {w:World} {L:List Res} (db zb:Nat) (H:Sat w L):Sat w (swO db zb none::L):=sat_star.2 H
theorem newsweep_ct (w:World) (fr:List Res) (hl:Laid fr) (db:Nat) (n s:Int) (d:Dk.Disk) (hc:d.files.length<=4398046511104) (H:Sat w (diskR db d::fr)):
    Rt Tryz.prog 14 #[.pointer (some ⟨db,0,none⟩),.int .i64 n,.int .i64 s] w fun v w'=>∃zb,v=.tuple #[.pointer ((Sh.newSweep n s d).2.1.map fun _=>⟨zb,0,none⟩),.int .i64 (((Sh.newSweep n s d).2.2:Nat):Int)]/\Sat w' (swO db zb (Sh.newSweep n s d).2.1::diskR db (Sh.newSweep n s d).1::fr):=by
  refine en3 Tryz.func14 rfl Tryz.ntmps14 rfl fun a S=>?_
  refine sr 2 S H t0 fun a w S H=>?_
  refine sb ?_
  refine rn 2 S H t0 fun a w S H=>?_
  refine r_call (args:=#[.int .i64 n,.int .i64 s]) S rfl rfl Tryz.call33 (bnds_ct (H:=H) _ _ n s) rfl rfl rfl fun v a w hR S=>?_
  obtain ⟨A5,c6,rfl,H⟩:=hR
  refine rs 5 S H t0 fun a w S H=>?_
  refine r_seq ?_
  rcases Bool.eq_false_or_eq_true (Oc.part n s) with hpt | hpt
  · skip
    have S:=S.retell (v':=.int .i64 0) 9 rfl (by rw [if_pos hpt])
    refine sr 2 S H t0 fun a w S H=>?_
    have S:=S.retell (v':=.bool false) 21 rfl rfl
    refine r_condF S rfl ?_
    refine wp_skip ?_
    refine x_then ?_
    have hpl:=Sh.part_le hpt
    obtain ⟨S0,rfl⟩:=Int.eq_ofNat_of_zero_le (show 0<=s by omega)
    have hbl:(Sh.bnds n S0).length=S0+1:=by unfold Sh.bnds;rw [if_pos hpt];simp
    have hdok:=(pk [1] 2 H).diskOk
    have hszs:=fun k=>Sh.szs_le k d.files hdok.ris
    have hfit:Dk.used d.files<=d.room:=hdok.fit
    have hrm:=hdok.room
    refine sb ?_
    refine rn 1 S H t0 fun a w S H=>?_
    refine r_y S H (y_sliceL (k:=1) S rfl rfl rfl Tryz.underlying72 Tryz.sizeOf3 (by first | omega | (simp<;>omega)) (by first | omega | (simp<;>omega))) rfl rfl rfl fun a S=>?_
    refine r_y S H (y_build (vs:=#[(1,.slice (shift A5 (1*1) (decide (c6=1))) ((Sh.bnds n ((S0:Nat):Int)).length - 1) (c6 - 1))]) (v:=.agg #[.slice none 0 0,.slice (shift A5 (1*1) (decide (c6=1))) ((Sh.bnds n ((S0:Nat):Int)).length - 1) (c6 - 1),.int .i64 0,.int .i64 0,.bool false]) S rfl rfl (fun w=>by kernel_rfl)) rfl rfl rfl fun a S=>?_
    refine r_box (c:=#[.slice none 0 0,.slice (shift A5 (1*1) (decide (c6=1))) ((Sh.bnds n ((S0:Nat):Int)).length - 1) (c6 - 1),.int .i64 0,.int .i64 0,.bool false]) S H rfl rfl rfl rfl rfl rfl fun a w b7 S H=>?_
    refine rs 1 S H t0 fun a w S H=>?_
    refine r_seq ?_
    refine sr 2 S H t0 fun a w S H=>?_
    refine r_block ?_
    have H:=H.nilRow 82 1
    have H:=Sat.noCurs db H
    refine r_loop (ι:=Nat×List Nat×List Nat×List Cur×Dk.Disk×Option Addr×Nat) (fun ⟨i,bf,br,cs,dd,Ap,cp⟩ a w=>Slots a 55 [(0,.pointer (some ⟨db,0,none⟩)),(10,.pointer (some ⟨b7,0,none⟩)),(27,.int .i64 ((S0:Nat):Int)),(28,.int .i64 ((i:Nat):Int)),(55,undef)]/\Sat w (blk b7 (.cells #[.slice Ap bf.length cp,.slice (shift A5 (1*1) (decide (c6=1))) ((Sh.bnds n ((S0:Nat):Int)).length - 1) (c6 - 1),.int .i64 0,.int .i64 0,.bool false] 78)::row 82 1 (.slice Ap bf.length cp) bf.length (ptrs bf)::cursR db bf br cs::row 3 1 (.slice A5 ((Sh.bnds n ((S0:Nat):Int)).length) c6) ((Sh.bnds n ((S0:Nat):Int)).length) (ints (Sh.bnds n ((S0:Nat):Int)))::diskR db dd::fr)/\(i<=S0/\bf.length=i/\Sh.opens (S0 - i) i cs dd=(Sh.opens S0 0 [] d)/\dd.files=d.files/\(cs.map Sh.cpot).sum=Sh.szs d.files i)) (fun ⟨i,bf,br,cs,dd,Ap,cp⟩=>S0 - i) (0,[],[],[],d,none,0) ⟨S.sub ⟨rfl,rfl,rfl,rfl,rfl,trivial⟩,pk [2,1,0,3,4] 5 H,⟨Nat.zero_le _,rfl,rfl,rfl,rfl⟩⟩ (fun ⟨i,bf,br,cs,dd,Ap,cp⟩ a w hI=>?_)
    obtain ⟨S,H,hI⟩:=hI
    obtain ⟨his,hbfl,hT,hdf,hpo⟩:=hI
    have hdfl:=congrArg List.length hdf
    refine sr 1 S H t0 fun a w S H=>?_
    refine r_seq ?_
    refine r_test S rfl (fun h29=>?_) (fun h29=>?_)
    · skip
      refine wp_skip ?_
      refine x_then ?_
      refine r_seq ?_
      refine r_block ?_
      refine sr 2 S H t0 fun a w S H=>?_
      have hdk:=(pk [4] 5 H).diskOk
      rcases Nat.eq_zero_or_pos (Dk.Disk.size (Sh.sname i) dd).2.2 with hz0 | hz0
      · skip
        refine sb ?_
        refine rn 2 S H t0 fun a w S H=>?_
        refine r_call (args:=#[.int .i64 ((i:Nat):Int)]) S rfl rfl Tryz.call19 (shname_ct (H:=H) _ _ (hl.via fun _ H=>H.drop.drop.drop.drop.drop) i (by omega)) rfl rfl rfl fun v a w hR S=>?_
        obtain ⟨rfl,H⟩:=hR
        refine r_call (args:=#[.pointer (some ⟨db,0,none⟩),str ((Sh.sname i))]) S rfl rfl Tryz.call36 (newrd_ct (H:=(pk [4,0,1,2,3] 5 H)) _ _ db (Sh.sname i) dd (by omega) (by omega)) rfl rfl rfl fun v a w hR S=>?_
        obtain ⟨b8,rfl,H⟩:=hR
        refine rs 5 S H t0 fun a w S H=>?_
        refine r_seq ?_
        refine sr 2 S H t0 fun a w S H=>?_
        have S:=S.retell (v':=.bool false) 39 rfl rfl
        refine r_condF S rfl ?_
        refine wp_skip ?_
        refine x_then ?_
        refine r_region ?_
        refine rn 6 S H t0 fun a w S H=>?_
        refine r_y S H (y_build (vs:=#[(0,.pointer (some ⟨b8,0,none⟩))]) (v:=.agg #[.pointer (some ⟨b8,0,none⟩),.int .u32 0,.int .u32 0,.int .u32 0,.bool false]) S rfl rfl (fun w=>by kernel_rfl)) rfl rfl rfl fun a S=>?_
        refine r_box (c:=#[.pointer (some ⟨b8,0,none⟩),.int .u32 0,.int .u32 0,.int .u32 0,.bool false]) S H rfl rfl rfl rfl rfl rfl fun a w b9 S H=>?_
        refine r_lit (vs:=#[(0,.pointer (some ⟨b9,0,none⟩))]) (cs:=ptrs [b9]) S H rfl rfl el76 (by kernel_rfl) (by decide) (by rfl) rfl rfl rfl fun a w b10 S H=>?_
        refine r_appendS (L':=fun A11 c12=>row 82 1 (.slice (some ⟨b10,0,none⟩) 1 1) 1 (ptrs [b9])::blk b9 (.cells #[.pointer (some ⟨b8,0,none⟩),.int .u32 0,.int .u32 0,.int .u32 0,.bool false] 84)::rdrR b8 db (Sh.sname i) ((Dk.Disk.size (Sh.sname i) dd).2.1) (0,[],false) 0::diskR db (Dk.Disk.size (Sh.sname i) dd).1::blk b7 (.cells #[.slice Ap bf.length cp,.slice (shift A5 (1*1) (decide (c6=1))) ((Sh.bnds n ((S0:Nat):Int)).length - 1) (c6 - 1),.int .i64 0,.int .i64 0,.bool false] 78)::row 82 1 (.slice A11 (bf.length+1) c12) (bf.length+1) (ptrs (bf++([b9])))::cursR db bf br cs::row 3 1 (.slice A5 ((Sh.bnds n ((S0:Nat):Int)).length) c6) ((Sh.bnds n ((S0:Nat):Int)).length) (ints (Sh.bnds n ((S0:Nat):Int)))::fr) (xs':=ptrs (bf++([b9]))) 5 S H rfl rfl rfl rfl el76 (SlOk.ofRow (i:=0) H rfl) (one_ptrs _) (by simp only [maxLen];first | omega | (simp<;>omega)) (by first | omega | (simp<;>omega)) (ptrs_app bf ([b9])) (by first | omega | (simp<;>omega)) (fun _ _=>rfl) rfl rfl rfl fun a w A11 c12 hA11 S H=>?_
        refine rn 3 S H t0 fun a w S H=>?_
        refine r_nil ?_
        refine x_blockEnd ?_
        refine x_then ?_
        refine er 2 S H (by omega) fun a w S H=>?_
        refine x_then ?_
        have hco:CurOk ((Sh.sname i,(Dk.Disk.size (Sh.sname i) dd).2.1,(0,[],false)),⟨0,0,0⟩,false):=⟨RsOk.start _,Nat.zero_le _,by show (Dk.Disk.size (Sh.sname i) dd).2.1<=_;exact Dk.size_le hdk _,by show (0:Nat) < _;omega⟩
        obtain ⟨hsf,fl,hfg,hfn⟩:=Sh.size_same hz0
        have H:=Sat.cursIn (Sat.shutCur (c:=((Sh.sname i,(Dk.Disk.size (Sh.sname i) dd).2.1,(0,[],false)),⟨0,0,0⟩,false)) hco (pk [1,2,6,4,5,7,3] 8 H))
        have H:=pk [1,2,0,3,4] 5 H
        have en:bf.length+1=(bf++[b9]).length:=by simp
        rw [en] at H
        exact ⟨(i+1,bf++[b9],br++[b8],cs++[((Sh.sname i,(Dk.Disk.size (Sh.sname i) dd).2.1,(0,[],false)),⟨0,0,0⟩,false)],(Dk.Disk.size (Sh.sname i) dd).1,A11,c12),⟨S.sub ⟨rfl,rfl,rfl,rfl,rfl,trivial⟩,H,⟨by omega,by simp;omega,by rw [<-hT,show S0 - i=(S0 - (i+1))+1 from by omega,Sh.opens_one hz0],hsf.trans hdf,by rw [List.map_append,List.sum_append,hpo,Sh.szs];rw [<-hdf,hfg];simp [Sh.cpot,Sh.rpot,hfn]⟩⟩,by show S0 - (i+1) < S0 - i;omega⟩
      refine sb ?_
      refine rn 2 S H t0 fun a w S H=>?_
      refine r_call (args:=#[.int .i64 ((i:Nat):Int)]) S rfl rfl Tryz.call19 (shname_ct (H:=H) _ _ (hl.via fun _ H=>H.drop.drop.drop.drop.drop) i (by omega)) rfl rfl rfl fun v a w hR S=>?_
      obtain ⟨rfl,H⟩:=hR
      refine r_call (args:=#[.pointer (some ⟨db,0,none⟩),str ((Sh.sname i))]) S rfl rfl Tryz.call36 (newrbad_ct (H:=(pk [4,0,1,2,3] 5 H)) _ _ db (Sh.sname i) dd (by omega) (by omega)) rfl rfl rfl fun v a w hR S=>?_
      obtain ⟨rfl,H⟩:=hR
      refine rs 5 S H t0 fun a w S H=>?_
      refine r_seq ?_
      refine sr 2 S H t0 fun a w S H=>?_
      refine r_test S rfl (fun h39=>?_) (fun h39=>?_)
      · skip
        refine sr 3 S H t0 fun a w S H=>?_
        refine wp_ret ?_
        refine x_thenRet ?_
        refine x_blockRet ?_
        refine x_thenRet ?_
        refine x_thenRet ?_
        refine x_blockRet ?_
        refine x_thenRet ?_
        refine r_ret2 S H Tryz.results14 (ro_tmp S rfl) (ro_tmp S rfl) ?_
        have eO:(Sh.opens S0 0 [] d)=((Dk.Disk.size (Sh.sname i) dd).1,cs,(Dk.Disk.size (Sh.sname i) dd).2.2):=by rw [<-hT,show S0 - i=(S0 - (i+1))+1 from by omega,Sh.opens_bad (by omega)]
        have eN:(Sh.newSweep n S0 d)=((Dk.Disk.size (Sh.sname i) dd).1,none,(Dk.Disk.size (Sh.sname i) dd).2.2):=by rw [Sh.newSweep_bad hpt (by show (Sh.opens S0 0 [] d).2.2≠0;rw [eO];simp only;omega)];show ((Sh.opens S0 0 [] d).1,none,(Sh.opens S0 0 [] d).2.2)=_;rw [eO]
        rw [eN]
        have H:=Sat.noSw db 0 H
        exact ⟨0,rfl,pk [0,1] 6 H⟩
      exfalso;omega
    refine wp_exit ?_
    refine x_thenExit ?_
    refine x_thenExit ?_
    refine x_blockHere ?_
    refine x_then ?_
    refine sr 3 S H t0 fun a w S H=>?_
    refine wp_ret ?_
    refine r_ret2 S H Tryz.results14 (ro_tmp S rfl) (ro_tmp S rfl) ?_
    have eO:(Sh.opens S0 0 [] d)=(dd,cs,0):=by rw [<-hT,show S0 - i=0 from by omega];rfl
    have eN:(Sh.newSweep n S0 d)=(dd,some ⟨cs,Sh.ends n S0,0,0,false⟩,0):=by rw [Sh.newSweep_ok hpt (by show (Sh.opens S0 0 [] d).2.2=0;rw [eO])];show ((Sh.opens S0 0 [] d).1,some (⟨(Sh.opens S0 0 [] d).2.1,Sh.ends n S0,0,0,false⟩:Sw),0)=_;rw [eO]
    rw [eN]
    obtain ⟨x0,hx0⟩:=Sh.bnds_ends hpt
    have hel:=Sh.ends_len n S0
    have hS0:(((S0:Nat):Int)).toNat=S0:=rfl
    have HI:=Sat.only (pk [3] 5 H)
    have e9:((Sh.bnds n ((S0:Nat):Int)).length - 1)=(Sh.ends n S0).length:=by omega
    have e8:(ints (Sh.bnds n ((S0:Nat):Int))).drop (1*1)=ints (Sh.ends n S0):=by rw [hx0];rfl
    have okE:=(SlOk.ofRow (i:=0) HI rfl).tail 1 (by omega)
    rw [e8,e9] at okE
    have H9:=Sat.cursGood (k:=0) rfl (pk [2,0,1,3,4] 5 H)
    rw [e9] at H9
    have H:=Sat.shutSw (bf:=bf) (br:=br) (s:=⟨cs,Sh.ends n S0,0,0,false⟩) ⟨by omega,fun _=>by show (cs.map Sh.cpot).sum<=_;have:=hszs i;omega,Nat.zero_le _,by show (Sh.ends n S0).length<=_;omega⟩ okE (pk [1,2,3,0,4] 5 H9)
    exact ⟨_,rfl,H⟩
  have S:=S.retell (v':=.int .i64 1) 9 rfl (by rw [hpt];rfl)
  refine sr 2 S H t0 fun a w S H=>?_
  have S:=S.retell (v':=.bool true) 21 rfl rfl
  refine r_condT S rfl ?_
  refine sr 3 S H t0 fun a w S H=>?_
  refine wp_ret ?_
  refine x_thenRet ?_
  refine r_ret2 S H Tryz.results14 (ro_tmp S rfl) (ro_tmp S rfl) ?_
  rw [Sh.newSweep_arg hpt]
  have H:=Sat.noSw db 0 H
  exact ⟨0,rfl,pk [0,2] 3 H⟩

end Go.Proofs.YtoffbmhmocfmnaaGreatDoor
namespace Go.Proofs.YtoffbmhmocfmnaaGreatDoor
open Go.RowKit Go.Cg
set_option linter.unusedVariables false
set_option linter.unusedSimpArgs false
set_option maxRecDepth 8000
set_option synthInstance.maxHeartbeats 1000000
set_option synthInstance.maxSize 1000000
open Go.Cg.Dk (By Nm)
open Go.Cg.Rn (R Bd Rs RsOk RsFit)
open Go.Cg.Tr (E)
open Go.Cg.Sh (Cur Sw cur0)
theorem Sat.cursIs {w:World} {L:List Res} {db:Nat} {bf br:List Nat} {cs:List Cur} {k:Nat} (h:k=0) (H:Sat w (cursO db bf br cs k::L)):Sat w (cursR db bf br cs::L):=by unfold cursO at H;rw [if_pos h] at H;exact H
theorem Sat.cursOks {w:World} {L:List Res} {db:Nat} {bf br:List Nat} {cs:List Cur} (H:Sat w (cursR db bf br cs::L)):∀ c∈cs,Sh.COk c:=by
  intro c hc
  obtain ⟨i,hi,rfl⟩:=List.getElem_of_mem hc
  obtain ⟨M,H1,_⟩:=Sat.cursOut H hi
  have h:=(Sat.openCur H1).1
  rw [List.getD_eq_getElem?_getD,List.getElem?_eq_getElem hi] at h
  exact ⟨h.ok,h.pos⟩
theorem snext_ct (w:World) (fr:List Res) (db zb:Nat) (s:Sw) (d:Dk.Disk) (hc:d.files.length<=4398046511104) (H:Sat w (swR db zb s::diskR db d::fr)):
    Rt Tryz.prog 15 #[.pointer (some ⟨zb,0,none⟩)] w fun v w'=>∃A' c',v=.tuple #[.slice A' (Sh.next s d).2.2.1.length c',.bool (Sh.next s d).2.2.2.1,.int .i64 (((Sh.next s d).2.2.2.2:Nat):Int)]/\Sat w' (row 61 3 (.slice A' (Sh.next s d).2.2.1.length c') (Sh.next s d).2.2.1.length (ecells (Sh.next s d).2.2.1)::swR db zb (Sh.next s d).2.1::diskR db (Sh.next s d).1::fr):=by
  refine en1 Tryz.func15 rfl Tryz.ntmps15 rfl fun a S=>?_
  obtain ⟨bf,br,Ap,cp,Ae,ce,TR,hs,okE,H⟩:=Sat.openSw H
  have hs1:=hs.few
  have hs2:=hs.le
  have hs3:=hs.en
  replace H:Sat _ (blk zb (.cells #[.slice Ap bf.length cp,.slice Ae s.ends.length ce,.int .i64 ((s.at_:Nat):Int),.int .i64 ((s.err:Nat):Int),.bool s.begun] 78)::row 82 1 (.slice Ap bf.length cp) bf.length (ptrs bf)::TR::cursO db bf br s.l s.err::diskR db d::fr):=H
  refine sr 3 S H t0 fun a w S H=>?_
  refine r_seq ?_
  apply qb H rfl (by kernel_rfl)
  · skip
    refine qn 6 S t0 fun a S=>?_
    refine qO 9 S (fun _=>t0) fun a S=>?_
    exact q_nil S
  · intro a w S H
    refine r_cond S rfl (fun h21=>?_) (fun h21=>?_)
    · skip
      refine qr 7 S H t0 fun a w S H=>?_
      refine wp_ret ?_
      refine x_thenRet ?_
      refine r_ret3 S H Tryz.results15 (ro_tmp S rfl) (ro_tmp S rfl) (ro_tmp S rfl) ?_
      have hbd:s.err≠0\/s.at_=s.ends.length:=by simp only [Bool.or_eq_true,decide_eq_true_eq] at h21;omega
      rw [Sh.next_bad hbd]
      have H:=Sat.shutSw hs okE (H)
      have H:=H.nilRow 61 3
      exact ⟨none,0,rfl,H⟩
    refine wp_skip ?_
    refine x_then ?_
    refine r_seq ?_
    simp only [Bool.or_eq_false_iff,decide_eq_false_iff_not] at h21
    have hgo:¬ (s.err≠0\/s.at_=s.ends.length):=by omega
    have he0:s.err=0:=by omega
    have H:=Sat.cursIs he0 ((pk [3,0,1,2,4] 5 H))
    replace H:Sat _ (cursR db bf br s.l::blk zb (.cells #[.slice Ap bf.length cp,.slice Ae s.ends.length ce,.int .i64 ((s.at_:Nat):Int),.int .i64 ((s.err:Nat):Int),.bool s.begun] 78)::row 82 1 (.slice Ap bf.length cp) bf.length (ptrs bf)::TR::diskR db d::fr):=H
    have hco:=Sat.cursOks H
    rcases Bool.eq_false_or_eq_true s.begun with hbg | hbg
    · skip
      rw [hbg] at H
      replace H:Sat _ (cursR db bf br s.l::blk zb (.cells #[.slice Ap bf.length cp,.slice Ae s.ends.length ce,.int .i64 ((s.at_:Nat):Int),.int .i64 ((s.err:Nat):Int),.bool true] 78)::row 82 1 (.slice Ap bf.length cp) bf.length (ptrs bf)::TR::diskR db d::fr):=H
      have hps:=Sh.window_pot (s.ends.getD s.at_ 0) true s.l [] [] d hco
      rw [List.nil_append] at hps
      refine r_seq ?_
      refine ha [2,3] 5 H fun w H HS=>?_
      refine tk 0 S HS fun a S=>?_
      refine tk 1 S HS fun a S=>?_
      refine tk 2 S HS fun a S=>?_
      refine tk 3 S HS fun a S=>?_
      refine tk 4 S HS fun a S=>?_
      refine tk 6 S HS fun a S=>?_
      refine tk 7 S HS fun a S=>?_
      refine tk 8 S HS fun a S=>?_
      refine hmemo [true,true,true,true,true,true,true,true,true,true,false,false,false,false,false,false,false,false,false,false] 10 (fun a w=>Slots a 61 [(0,.pointer (some ⟨zb,0,none⟩)),(2,.slice none 0 0),(3,.bool false),(4,.int .i64 0),(27,.pointer (some ⟨zb,0,none⟩)),(28,.pointer (some ⟨zb,0,none⟩)),(32,.slice Ae s.ends.length ce),(36,.int .i64 ((s.at_:Nat):Int)),(61,undef)]/\Sat w (cursR db bf br s.l::blk zb (.cells #[.slice Ap bf.length cp,.slice Ae s.ends.length ce,.int .i64 ((s.at_:Nat):Int),.int .i64 ((s.err:Nat):Int),.bool true] 78)::row 82 1 (.slice Ap bf.length cp) bf.length (ptrs bf)::TR::diskR db d::fr)) ?_ fun K0=>?_
      · rintro a w ⟨S,H⟩
        have HS:Sat w _:=pk [2,3] 5 H
        obtain ⟨b7,o8,rfl⟩:=(okE.via fun _ H=>Sat.only (pk [1] 2 H)).addr HS (by first | omega | (simp<;>omega))
        refine tkY 10 S HS rfl (y_index S rfl rfl rfl Tryz.underlying72 Tryz.sizeOf3 (by omega) (by omega)) rfl rfl rfl fun a S=>?_
        refine tkY 11 S HS rfl (y_loadAt S rfl rfl Tryz.isAgg3 (fun w H=>(okE.via fun _ H=>Sat.only (pk [1] 2 H)).cell w H (ints_at (i:=s.at_) (by first | omega | (simp<;>omega))))) rfl rfl rfl fun a S=>?_
        refine h1 12 ?_
        refine r_call (args:=#[.pointer (some ⟨zb,0,none⟩),.int .i64 (s.ends.getD s.at_ 0)]) S rfl rfl Tryz.call37 (window_t_ct (H:=(pk [0,1,2,4,3] 5 H)) _ _ db zb Ap cp (some ⟨b7,o8,none⟩) s.ends.length ce s.at_ s.err bf br s.l d (s.ends.getD s.at_ 0) hs1 (hs.pot he0) (by omega)) rfl rfl rfl fun v a w hR S=>?_
        obtain ⟨A11,c12,rfl,H⟩:=hR
        refine sn ?_
        refine hk (pk [2,5] 6 H) fun HS=>?_
        refine tk 13 S HS fun a S=>?_
        refine tk 14 S HS fun a S=>?_
        refine tk 15 S HS fun a S=>?_
        refine tk 16 S HS fun a S=>?_
        refine tk 17 S HS fun a S=>?_
        refine tk 18 S HS fun a S=>?_
        refine h1 19 ?_
        refine rs 1 S H t0 fun a w S H=>?_
        refine hk (pk [2,5] 6 H) fun HS=>?_
        refine hz ?_
        refine x_then ?_
        refine sr 5 S H t0 fun a w S H=>?_
        refine r_test S rfl (fun h48=>?_) (fun h48=>?_)
        · skip
          refine qr 7 S H t0 fun a w S H=>?_
          refine wp_ret ?_
          refine x_thenRet ?_
          refine r_ret3 S H Tryz.results15 (ro_tmp S rfl) (ro_tmp S rfl) (ro_tmp S rfl) ?_
          have eN:(Sh.next s d)=((Sh.window (s.ends.getD s.at_ 0) true [] s.l [] d).1,{ s with l:=(Sh.window (s.ends.getD s.at_ 0) true [] s.l [] d).2.1,err:=(Sh.window (s.ends.getD s.at_ 0) true [] s.l [] d).2.2.2 },[],false,(Sh.window (s.ends.getD s.at_ 0) true [] s.l [] d).2.2.2):=by rw [Sh.next_go hgo,hbg,if_pos (by omega)]
          rw [eN]
          have hbb:(true||decide ((Sh.window (s.ends.getD s.at_ 0) true [] s.l [] d).2.2.2=0))=s.begun:=by rw [hbg,decide_eq_false (by omega)];rfl
          rw [hbb] at H
          have H:=Sat.shutSw (s:={ s with l:=(Sh.window (s.ends.getD s.at_ 0) true [] s.l [] d).2.1,err:=(Sh.window (s.ends.getD s.at_ 0) true [] s.l [] d).2.2.2 }) ⟨hs1,fun h=>absurd h (by show (Sh.window (s.ends.getD s.at_ 0) true [] s.l [] d).2.2.2≠0;omega),hs2,hs3⟩ okE (pk [1,2,5,3,4] 6 H)
          have H:=H.nilRow 61 3
          exact ⟨none,0,rfl,H⟩
        refine wp_skip ?_
        refine x_then ?_
        refine sr 8 S H (by omega) fun a w S H=>?_
        refine sr 4 S H t0 fun a w S H=>?_
        refine wp_ret ?_
        refine r_ret3 S H Tryz.results15 (ro_tmp S rfl) (ro_tmp S rfl) (ro_tmp S rfl) ?_
        have hc0:(Sh.window (s.ends.getD s.at_ 0) true [] s.l [] d).2.2.2=0:=by omega
        have eN:(Sh.next s d)=((Sh.window (s.ends.getD s.at_ 0) true [] s.l [] d).1,{ s with l:=(Sh.window (s.ends.getD s.at_ 0) true [] s.l [] d).2.1,at_:=s.at_+1,begun:=true,err:=0 },(Sh.window (s.ends.getD s.at_ 0) true [] s.l [] d).2.2.1,true,0):=by rw [Sh.next_go hgo,hbg,if_neg (by omega)]
        rw [eN]
        have hbb:(true||decide ((Sh.window (s.ends.getD s.at_ 0) true [] s.l [] d).2.2.2=0))=true:=by rw [decide_eq_true hc0];simp
        have H:=pk [1,2,5,3,0,4] 6 H
        rw [hbb,hc0] at H
        have H:=Sat.shutSw (s:={ s with l:=(Sh.window (s.ends.getD s.at_ 0) true [] s.l [] d).2.1,at_:=s.at_+1,begun:=true,err:=0 }) ⟨hs1,fun _=>Nat.le_trans hps (hs.pot he0),by show s.at_+1<=s.ends.length;omega,hs3⟩ okE H
        exact ⟨_,_,rfl,pk [1,0,2] 3 H⟩
      refine h2 5 9 ?_ ?_
      · skip
        refine rs 1 S H t0 fun a w S H=>?_
        refine hk (pk [2,3] 5 H) fun HS=>?_
        refine h1 9 ?_
        refine rs 1 S H t0 fun a w S H=>?_
        refine hk (pk [2,3] 5 H) fun HS=>?_
        exact K0 _ _ ⟨S.sub ⟨rfl,rfl,rfl,rfl,rfl,rfl,rfl,rfl,rfl,trivial⟩,H⟩
      · skip
        refine rs 1 S H t0 fun a w S H=>?_
        refine hk (pk [2,3] 5 H) fun HS=>?_
        refine h1 5 ?_
        refine rs 1 S H t0 fun a w S H=>?_
        refine hk (pk [2,3] 5 H) fun HS=>?_
        exact K0 _ _ ⟨S.sub ⟨rfl,rfl,rfl,rfl,rfl,rfl,rfl,rfl,rfl,trivial⟩,H⟩
    rw [hbg] at H
    replace H:Sat _ (cursR db bf br s.l::blk zb (.cells #[.slice Ap bf.length cp,.slice Ae s.ends.length ce,.int .i64 ((s.at_:Nat):Int),.int .i64 ((s.err:Nat):Int),.bool false] 78)::row 82 1 (.slice Ap bf.length cp) bf.length (ptrs bf)::TR::diskR db d::fr):=H
    have hps:=Sh.window_pot (s.ends.getD s.at_ 0) false s.l [] [] d hco
    rw [List.nil_append] at hps
    refine r_seq ?_
    refine ha [2,3] 5 H fun w H HS=>?_
    refine tk 0 S HS fun a S=>?_
    refine tk 1 S HS fun a S=>?_
    refine tk 2 S HS fun a S=>?_
    refine tk 3 S HS fun a S=>?_
    refine tk 4 S HS fun a S=>?_
    refine tk 6 S HS fun a S=>?_
    refine tk 7 S HS fun a S=>?_
    refine tk 8 S HS fun a S=>?_
    refine hmemo [true,true,true,true,true,true,true,true,true,true,false,false,false,false,false,false,false,false,false,false] 10 (fun a w=>Slots a 61 [(0,.pointer (some ⟨zb,0,none⟩)),(2,.slice none 0 0),(3,.bool false),(4,.int .i64 0),(27,.pointer (some ⟨zb,0,none⟩)),(28,.pointer (some ⟨zb,0,none⟩)),(32,.slice Ae s.ends.length ce),(36,.int .i64 ((s.at_:Nat):Int)),(61,undef)]/\Sat w (cursR db bf br s.l::blk zb (.cells #[.slice Ap bf.length cp,.slice Ae s.ends.length ce,.int .i64 ((s.at_:Nat):Int),.int .i64 ((s.err:Nat):Int),.bool false] 78)::row 82 1 (.slice Ap bf.length cp) bf.length (ptrs bf)::TR::diskR db d::fr)) ?_ fun K0=>?_
    · rintro a w ⟨S,H⟩
      have HS:Sat w _:=pk [2,3] 5 H
      obtain ⟨b19,o20,rfl⟩:=(okE.via fun _ H=>Sat.only (pk [1] 2 H)).addr HS (by first | omega | (simp<;>omega))
      refine tkY 10 S HS rfl (y_index S rfl rfl rfl Tryz.underlying72 Tryz.sizeOf3 (by omega) (by omega)) rfl rfl rfl fun a S=>?_
      refine tkY 11 S HS rfl (y_loadAt S rfl rfl Tryz.isAgg3 (fun w H=>(okE.via fun _ H=>Sat.only (pk [1] 2 H)).cell w H (ints_at (i:=s.at_) (by first | omega | (simp<;>omega))))) rfl rfl rfl fun a S=>?_
      refine h1 12 ?_
      refine r_call (args:=#[.pointer (some ⟨zb,0,none⟩),.int .i64 (s.ends.getD s.at_ 0)]) S rfl rfl Tryz.call37 (window_f_ct (H:=(pk [0,1,2,4,3] 5 H)) _ _ db zb Ap cp (some ⟨b19,o20,none⟩) s.ends.length ce s.at_ s.err bf br s.l d (s.ends.getD s.at_ 0) hs1 (hs.pot he0) (by omega)) rfl rfl rfl fun v a w hR S=>?_
      obtain ⟨A23,c24,rfl,H⟩:=hR
      refine sn ?_
      refine hk (pk [2,5] 6 H) fun HS=>?_
      refine tk 13 S HS fun a S=>?_
      refine tk 14 S HS fun a S=>?_
      refine tk 15 S HS fun a S=>?_
      refine tk 16 S HS fun a S=>?_
      refine tk 17 S HS fun a S=>?_
      refine tk 18 S HS fun a S=>?_
      refine h1 19 ?_
      refine rs 1 S H t0 fun a w S H=>?_
      refine hk (pk [2,5] 6 H) fun HS=>?_
      refine hz ?_
      refine x_then ?_
      refine sr 5 S H t0 fun a w S H=>?_
      refine r_test S rfl (fun h48=>?_) (fun h48=>?_)
      · skip
        refine qr 7 S H t0 fun a w S H=>?_
        refine wp_ret ?_
        refine x_thenRet ?_
        refine r_ret3 S H Tryz.results15 (ro_tmp S rfl) (ro_tmp S rfl) (ro_tmp S rfl) ?_
        have eN:(Sh.next s d)=((Sh.window (s.ends.getD s.at_ 0) false [] s.l [] d).1,{ s with l:=(Sh.window (s.ends.getD s.at_ 0) false [] s.l [] d).2.1,err:=(Sh.window (s.ends.getD s.at_ 0) false [] s.l [] d).2.2.2 },[],false,(Sh.window (s.ends.getD s.at_ 0) false [] s.l [] d).2.2.2):=by rw [Sh.next_go hgo,hbg,if_pos (by omega)]
        rw [eN]
        have hbb:(false||decide ((Sh.window (s.ends.getD s.at_ 0) false [] s.l [] d).2.2.2=0))=s.begun:=by rw [hbg,decide_eq_false (by omega)];rfl
        rw [hbb] at H
        have H:=Sat.shutSw (s:={ s with l:=(Sh.window (s.ends.getD s.at_ 0) false [] s.l [] d).2.1,err:=(Sh.window (s.ends.getD s.at_ 0) false [] s.l [] d).2.2.2 }) ⟨hs1,fun h=>absurd h (by show (Sh.window (s.ends.getD s.at_ 0) false [] s.l [] d).2.2.2≠0;omega),hs2,hs3⟩ okE (pk [1,2,5,3,4] 6 H)
        have H:=H.nilRow 61 3
        exact ⟨none,0,rfl,H⟩
      refine wp_skip ?_
      refine x_then ?_
      refine sr 8 S H (by omega) fun a w S H=>?_
      refine sr 4 S H t0 fun a w S H=>?_
      refine wp_ret ?_
      refine r_ret3 S H Tryz.results15 (ro_tmp S rfl) (ro_tmp S rfl) (ro_tmp S rfl) ?_
      have hc0:(Sh.window (s.ends.getD s.at_ 0) false [] s.l [] d).2.2.2=0:=by omega
      have eN:(Sh.next s d)=((Sh.window (s.ends.getD s.at_ 0) false [] s.l [] d).1,{ s with l:=(Sh.window (s.ends.getD s.at_ 0) false [] s.l [] d).2.1,at_:=s.at_+1,begun:=true,err:=0 },(Sh.window (s.ends.getD s.at_ 0) false [] s.l [] d).2.2.1,true,0):=by rw [Sh.next_go hgo,hbg,if_neg (by omega)]
      rw [eN]
      have hbb:(false||decide ((Sh.window (s.ends.getD s.at_ 0) false [] s.l [] d).2.2.2=0))=true:=by rw [decide_eq_true hc0];simp
      have H:=pk [1,2,5,3,0,4] 6 H
      rw [hbb,hc0] at H
      have H:=Sat.shutSw (s:={ s with l:=(Sh.window (s.ends.getD s.at_ 0) false [] s.l [] d).2.1,at_:=s.at_+1,begun:=true,err:=0 }) ⟨hs1,fun _=>Nat.le_trans hps (hs.pot he0),by show s.at_+1<=s.ends.length;omega,hs3⟩ okE H
      exact ⟨_,_,rfl,pk [1,0,2] 3 H⟩
    refine h2 5 9 ?_ ?_
    · skip
      refine rs 1 S H t0 fun a w S H=>?_
      refine hk (pk [2,3] 5 H) fun HS=>?_
      refine h1 9 ?_
      refine rs 1 S H t0 fun a w S H=>?_
      refine hk (pk [2,3] 5 H) fun HS=>?_
      exact K0 _ _ ⟨S.sub ⟨rfl,rfl,rfl,rfl,rfl,rfl,rfl,rfl,rfl,trivial⟩,H⟩
    · skip
      refine rs 1 S H t0 fun a w S H=>?_
      refine hk (pk [2,3] 5 H) fun HS=>?_
      refine h1 5 ?_
      refine rs 1 S H t0 fun a w S H=>?_
      refine hk (pk [2,3] 5 H) fun HS=>?_
      exact K0 _ _ ⟨S.sub ⟨rfl,rfl,rfl,rfl,rfl,rfl,rfl,rfl,rfl,trivial⟩,H⟩

end Go.Proofs.YtoffbmhmocfmnaaGreatDoor
namespace Go.Proofs.YtoffbmhmocfmnaaGreatDoor
open Go.RowKit Go.Cg
set_option linter.unusedVariables false
set_option linter.unusedSimpArgs false
set_option maxRecDepth 8000
set_option synthInstance.maxHeartbeats 1000000
set_option synthInstance.maxSize 1000000
open Go.Cg.Rn (R Bd Up)
open Go.Cg.Tr (E graph)
instance decE:DecidableEq E:=fun a b=>decidable_of_iff (a.f=b.f/\a.t=b.t/\a.w=b.w) (by obtain ⟨x,y,z⟩:=a;obtain ⟨x',y',z'⟩:=b;simp)
theorem dropE_step {p:E->Prop} {l:List E} {k:Nat} (h0:0 < k) (hk:k<=l.length) (h:p (l.getD (k - 1) e0)) (ha:∀ x∈l.drop k,p x):∀ x∈l.drop (k - 1),p x:=by
  intro x hx
  rw [List.drop_eq_getElem_cons (by omega)] at hx
  rcases List.mem_cons.1 hx with rfl | hx
  · rw [List.getD_eq_getElem?_getD,List.getElem?_eq_getElem (by omega)] at h;exact h
  · rw [show k - 1+1=k from by omega] at hx;exact ha x hx
theorem mid_all {l:List E} {g:E} {i:Nat} (hl:l.length=i):l++[g]=l.take i++(if i=l.length then g else l.getD i e0)::l.drop i:=by
  subst hl;rw [if_pos rfl,List.take_length,List.drop_length]

theorem rgraph_ct (w:World) (fr:List Res) (n:Int) (A:Option Addr) (c:Nat) (es:List E) (ok:SlOk fr 3 A es.length c (ecells es)) (hes:Sh.E32 es) (H:Sat w (fr)):
    Rt Tryz.prog 22 #[.agg #[.int .i64 n,.slice A es.length c]] w fun v w'=>v=.bool (graph n es)/\Sat w' fr:=by
  refine en1 Tryz.func22 rfl Tryz.ntmps22 rfl fun a S=>?_
  have hcap:=ok.le
  have hmax:c<=9223372036854775807:=ok.cap
  refine sb ?_
  refine r_box (c:=#[.int .i64 n,.slice A es.length c]) S H rfl rfl rfl rfl rfl rfl fun a w b1 S H=>?_
  refine rs 1 S H t0 fun a w S H=>?_
  refine r_seq ?_
  refine sb ?_
  refine rn 4 S H t0 fun a w S H=>?_
  refine scO 2 S H (fun _=>t0) fun a w S H=>?_
  refine rn 1 S H t0 fun a w S H=>?_
  refine scO 3 S H (fun _=>t0) fun a w S H=>?_
  refine sn ?_
  refine r_cond S rfl (fun h17=>?_) (fun h17=>?_)
  · skip
    refine sr 1 S H t0 fun a w S H=>?_
    refine wp_ret ?_
    refine x_thenRet ?_
    refine r_ret1 S H Tryz.results22 (ro_tmp S rfl) ?_
    refine ⟨congrArg Value.bool ?_,H.drop⟩
    symm
    unfold graph
    rw [decide_eq_false_iff_not];intro h;simp at h17;omega
  refine wp_skip ?_
  refine x_then ?_
  refine r_seq ?_
  refine sr 1 S H t0 fun a w S H=>?_
  refine r_block ?_
  refine r_loop (ι:=Nat) (fun k a w=>Slots a 47 [(1,.pointer (some ⟨b1,0,none⟩)),(3,.int .i64 ((k:Nat):Int)),(47,undef)]/\Sat w (blk b1 (.cells #[.int .i64 n,.slice A es.length c] 24)::fr)/\(k<=es.length/\∀ j,j < k->((es.getD j e0).f:Int) < n/\((es.getD j e0).t:Int) < n)) (fun k=>es.length - k) 0 ⟨S.sub ⟨rfl,rfl,rfl,trivial⟩,H,⟨Nat.zero_le _,fun j hj=>absurd hj (Nat.not_lt_zero j)⟩⟩ (fun k a w hI=>?_)
  obtain ⟨S,H,hI⟩:=hI
  obtain ⟨hk,hne⟩:=hI
  refine r_seq ?_
  refine sr 5 S H t0 fun a w S H=>?_
  refine r_test S rfl (fun h22=>?_) (fun h22=>?_)
  · skip
    refine wp_skip ?_
    refine x_then ?_
    refine r_seq ?_
    refine r_block ?_
    have hb:=hes _ (getDE_mem (by omega:k < es.length))
    obtain ⟨b2,o3,rfl⟩:=ok.addr (H.drop) (by omega)
    rcases Decidable.em (n<=(((es.getD k e0).f:Nat):Int)) with h0 | h0
    · skip
      apply qb H rfl (by kernel_rfl)
      · skip
        refine qn 3 S t0 fun a S=>?_
        refine q_y S (y_index S rfl rfl rfl Tryz.underlying22 Tryz.sizeOf61 (by omega) (by omega)) rfl rfl rfl fun a S=>?_
        refine qn 1 S t0 fun a S=>?_
        refine q_y S (y_loadAt S rfl rfl Tryz.isAgg59 (fun w H=>(ok.more _).cell w H (ecells_f (i:=k) (by omega)))) rfl rfl rfl fun a S=>?_
        refine qn 3 S (by omega) fun a S=>?_
        refine q_y S (y_ge S rfl rfl rfl) rfl rfl rfl fun a S=>?_
        have S:=S.retell (v':=.bool true) 34 rfl (by rw [decide_eq_true (by omega)])
        refine qn 12 S t0 fun a S=>?_
        exact q_nil S
      · intro a w S H
        refine r_condT S rfl ?_
        refine sr 1 S H t0 fun a w S H=>?_
        refine wp_ret ?_
        refine x_blockRet ?_
        refine x_thenRet ?_
        refine x_thenRet ?_
        refine x_blockRet ?_
        refine x_thenRet ?_
        refine r_ret1 S H Tryz.results22 (ro_tmp S rfl) ?_
        refine ⟨congrArg Value.bool ?_,H.drop⟩
        symm
        unfold graph
        rw [decide_eq_false_iff_not];intro h;have h1:=h.2.2.2 _ (getDE_mem (by omega:k < es.length));omega
    apply qb H rfl (by kernel_rfl)
    · skip
      refine qn 3 S t0 fun a S=>?_
      refine q_y S (y_index S rfl rfl rfl Tryz.underlying22 Tryz.sizeOf61 (by omega) (by omega)) rfl rfl rfl fun a S=>?_
      refine qn 1 S t0 fun a S=>?_
      refine q_y S (y_loadAt S rfl rfl Tryz.isAgg59 (fun w H=>(ok.more _).cell w H (ecells_f (i:=k) (by omega)))) rfl rfl rfl fun a S=>?_
      refine qn 3 S (by omega) fun a S=>?_
      refine q_y S (y_ge S rfl rfl rfl) rfl rfl rfl fun a S=>?_
      have S:=S.retell (v':=.bool false) 34 rfl (by rw [decide_eq_false (by omega)])
      refine qn 4 S t0 fun a S=>?_
      refine q_y S (y_index S rfl rfl rfl Tryz.underlying22 Tryz.sizeOf61 (by omega) (by omega)) rfl rfl rfl fun a S=>?_
      refine qn 1 S t0 fun a S=>?_
      refine q_y S (y_loadAt S rfl rfl Tryz.isAgg59 (fun w H=>(ok.more _).cell w H (ecells_t (i:=k) (by omega)))) rfl rfl rfl fun a S=>?_
      refine qn 5 S (by omega) fun a S=>?_
      exact q_nil S
    · intro a w S H
      refine r_test S rfl (fun h46=>?_) (fun h46=>?_)
      · skip
        refine sr 1 S H t0 fun a w S H=>?_
        refine wp_ret ?_
        refine x_blockRet ?_
        refine x_thenRet ?_
        refine x_thenRet ?_
        refine x_blockRet ?_
        refine x_thenRet ?_
        refine r_ret1 S H Tryz.results22 (ro_tmp S rfl) ?_
        refine ⟨congrArg Value.bool ?_,H.drop⟩
        symm
        unfold graph
        rw [decide_eq_false_iff_not];intro h;have h1:=h.2.2.2 _ (getDE_mem (by omega:k < es.length));omega
      refine wp_skip ?_
      refine x_blockEnd ?_
      refine x_then ?_
      refine er 3 S H (by omega) fun a w S H=>?_
      refine x_then ?_
      exact ⟨(k+1),⟨S.sub ⟨rfl,rfl,rfl,trivial⟩,H,⟨by omega,fun j hj=>by rcases Nat.lt_succ_iff_lt_or_eq.1 hj with h | h;(exact hne j h);(subst h;omega)⟩⟩,by show es.length - (k+1) < es.length - k;omega⟩
  refine wp_exit ?_
  refine x_thenExit ?_
  refine x_thenExit ?_
  refine x_blockHere ?_
  refine x_then ?_
  refine sr 1 S H t0 fun a w S H=>?_
  refine wp_ret ?_
  refine r_ret1 S H Tryz.results22 (ro_tmp S rfl) ?_
  refine ⟨congrArg Value.bool ?_,H.drop⟩
  symm
  unfold graph
  rw [decide_eq_true_eq];simp at h17;refine ⟨by omega,by omega,by omega,fun e he=>?_⟩
  obtain ⟨j,hj,e1⟩:=List.mem_iff_getElem.1 he
  have h2:=hne j (by omega)
  rw [List.getD_eq_getElem?_getD,List.getElem?_eq_getElem hj] at h2
  simp only [Option.getD_some,e1] at h2
  exact h2

theorem less2_ct (w:World) (fr:List Res) (x y:E) (ha:x.f < 4294967296) (hb:y.f < 4294967296) (H:Sat w (fr)):
    Rt Tryz.prog 66 #[.agg #[.int .u32 ((x.f:Nat):Int),.int .u32 ((x.t:Nat):Int),.int .u32 ((x.w:Nat):Int)],.agg #[.int .u32 ((y.f:Nat):Int),.int .u32 ((y.t:Nat):Int),.int .u32 ((y.w:Nat):Int)]] w fun v w'=>v=.bool (Sh.less2 x y)/\Sat w' fr:=by
  refine en2 Tryz.func66 rfl Tryz.ntmps66 rfl fun a S=>?_
  refine sb ?_
  refine r_box (c:=#[.int .u32 ((x.f:Nat):Int),.int .u32 ((x.t:Nat):Int),.int .u32 ((x.w:Nat):Int)]) S H rfl rfl rfl rfl rfl rfl fun a w b1 S H=>?_
  refine r_box (c:=#[.int .u32 ((y.f:Nat):Int),.int .u32 ((y.t:Nat):Int),.int .u32 ((y.w:Nat):Int)]) S H rfl rfl rfl rfl rfl rfl fun a w b2 S H=>?_
  refine rs 1 S H t0 fun a w S H=>?_
  refine r_seq ?_
  refine sr 5 S H t0 fun a w S H=>?_
  refine r_test S rfl (fun h9=>?_) (fun h9=>?_)
  · skip
    refine sr 6 S H t0 fun a w S H=>?_
    refine wp_ret ?_
    refine x_thenRet ?_
    refine r_ret1 S H Tryz.results66 (ro_tmp S rfl) ?_
    rw [Sh.less2_eq ha hb]
    exact ⟨congrArg Value.bool (decide_eq_decide.2 (by omega)),H.drop.drop⟩
  refine wp_skip ?_
  refine x_then ?_
  refine r_seq ?_
  refine sr 5 S H t0 fun a w S H=>?_
  refine r_test S rfl (fun h19=>?_) (fun h19=>?_)
  · skip
    refine sr 6 S H t0 fun a w S H=>?_
    refine wp_ret ?_
    refine x_thenRet ?_
    refine r_ret1 S H Tryz.results66 (ro_tmp S rfl) ?_
    rw [Sh.less2_eq ha hb]
    exact ⟨congrArg Value.bool (decide_eq_decide.2 (by omega)),H.drop.drop⟩
  refine wp_skip ?_
  refine x_then ?_
  refine sr 6 S H t0 fun a w S H=>?_
  refine wp_ret ?_
  refine r_ret1 S H Tryz.results66 (ro_tmp S rfl) ?_
  rw [Sh.less2_eq ha hb]
  exact ⟨congrArg Value.bool (decide_eq_decide.2 (by omega)),H.drop.drop⟩

theorem sort2_ct (w:World) (fr:List Res) (A:Option Addr) (c:Nat) (es:List E) (ok:SlOk fr 3 A es.length c (ecells es)) (hes:Sh.E32 es) (hn:es.length<=1099511627776) (H:Sat w (fr)):
    Rt Tryz.prog 40 #[.slice A es.length c] w fun v w'=>∃A' c',v=.slice A' es.length c'/\Sat w' (row 61 3 (.slice A' es.length c') es.length (ecells (Sh.esort Sh.pack2 es))::fr):=by
  refine en1 Tryz.func40 rfl Tryz.ntmps40 rfl fun a S=>?_
  have hcap:=ok.le
  have hmax:c<=9223372036854775807:=ok.cap
  refine sr 1 S H t0 fun a w S H=>?_
  refine sb ?_
  refine r_lit (vs:=#[]) (cs:=ecells []) S H rfl rfl el22 (by kernel_rfl) (by decide) (by rfl) rfl rfl rfl fun a w b1 S H=>?_
  refine rs 1 S H t0 fun a w S H=>?_
  refine r_seq ?_
  refine sr 1 S H t0 fun a w S H=>?_
  refine r_block ?_
  refine r_loop (ι:=Nat×Option Addr×Nat) (fun ⟨i,Ao,co⟩ a w=>Slots a 63 [(0,.slice A es.length c),(2,.slice none 0 0),(3,.slice Ao i co),(4,.int .i64 ((i:Nat):Int)),(63,undef)]/\Sat w (row 61 3 (.slice Ao i co) i (ecells (Sh.esort Sh.pack2 (es.take i)))::fr)/\(i<=es.length)) (fun ⟨i,Ao,co⟩=>es.length - i) (0,(some ⟨b1,0,none⟩),0) ⟨S.sub ⟨rfl,rfl,rfl,rfl,rfl,trivial⟩,H,(Nat.zero_le _)⟩ (fun ⟨i,Ao,co⟩ a w hI=>?_)
  obtain ⟨S,H,hI⟩:=hI
  have hil:=hI
  have hle:(Sh.esort Sh.pack2 (es.take i)).length=i:=by rw [Sh.esort_len,List.length_take];omega
  refine r_seq ?_
  refine sr 4 S H t0 fun a w S H=>?_
  refine r_test S rfl (fun h11=>?_) (fun h11=>?_)
  · skip
    refine wp_skip ?_
    refine x_then ?_
    refine r_seq ?_
    refine r_block ?_
    refine sr 3 S H t0 fun a w S H=>?_
    refine r_seq ?_
    refine r_block ?_
    refine r_loop (ι:=Nat) (fun k a w=>Slots a 63 [(0,.slice A es.length c),(2,.slice none 0 0),(3,.slice Ao i co),(4,.int .i64 ((i:Nat):Int)),(5,.int .i64 ((k:Nat):Int)),(8,.int .i64 ((i:Nat):Int)),(9,.slice A es.length c),(10,.int .i64 ((es.length:Nat):Int)),(11,.bool (decide (((i:Nat):Int) < ((es.length:Nat):Int)))),(14,.slice Ao i co),(15,.int .i64 ((i:Nat):Int)),(63,undef)]/\Sat w (row 61 3 (.slice Ao i co) i (ecells (Sh.esort Sh.pack2 (es.take i)))::fr)/\(k<=i/\∀ x∈(Sh.esort Sh.pack2 (es.take i)).drop k,Sh.less2 (es.getD i e0) x=true)) (fun k=>k) i ⟨S.sub ⟨rfl,rfl,rfl,rfl,rfl,rfl,rfl,rfl,rfl,rfl,rfl,rfl,trivial⟩,H,⟨Nat.le_refl _,by rw [List.drop_of_length_le (by omega)];simp⟩⟩ (fun k a w hI=>?_)
    obtain ⟨S,H,hI⟩:=hI
    obtain ⟨hki,ha⟩:=hI
    refine r_seq ?_
    obtain ⟨b2,o3,rfl⟩:=ok.addr (H.drop) (by omega)
    rcases Nat.eq_zero_or_pos k with h0 | h0
    · skip
      apply qb H rfl (by kernel_rfl)
      · skip
        refine qn 1 S t0 fun a S=>?_
        refine q_y S (y_gt S rfl rfl rfl) rfl rfl rfl fun a S=>?_
        have S:=S.retell (v':=.bool false) 17 rfl (by rw [decide_eq_false (by omega)])
        refine qn 12 S t0 fun a S=>?_
        exact q_nil S
      · intro a w S H
        refine r_condF S rfl ?_
        refine wp_exit ?_
        refine x_thenExit ?_
        refine x_thenExit ?_
        refine x_blockHere ?_
        refine x_then ?_
        refine sb ?_
        refine rn 3 S H t0 fun a w S H=>?_
        refine r_y S H (y_index S rfl rfl rfl Tryz.underlying22 Tryz.sizeOf61 (by omega) (by omega)) rfl rfl rfl fun a S=>?_
        refine r_y S H (y_loadAggAt [.int .u32 (((es.getD i e0).f:Nat):Int),.int .u32 (((es.getD i e0).t:Nat):Int),.int .u32 (((es.getD i e0).w:Nat):Int)] S rfl rfl (fun w=>⟨Tryz.isAgg61 w,Tryz.sizeOf61 w⟩) rfl (fun w H=>(ok.more _).cells w H (ecells_from (i:=i) (by first | omega | (simp<;>omega))))) rfl rfl rfl fun a S=>?_
        refine r_lit (vs:=#[(0,.agg #[.int .u32 (((es.getD i e0).f:Nat):Int),.int .u32 (((es.getD i e0).t:Nat):Int),.int .u32 (((es.getD i e0).w:Nat):Int)])]) (cs:=ecells [(es.getD i e0)]) S H rfl rfl el22 (by kernel_rfl) (by decide) (by rfl) rfl rfl rfl fun a w b4 S H=>?_
        refine r_appendS (L':=fun A5 c6=>row 61 3 (.slice (some ⟨b4,0,none⟩) 1 1) 1 (ecells [(es.getD i e0)])::row 61 3 (.slice A5 (i+1) c6) (i+1) (ecells ((Sh.esort Sh.pack2 (es.take i))++([(es.getD i e0)])))::fr) (xs':=ecells ((Sh.esort Sh.pack2 (es.take i))++([(es.getD i e0)]))) 1 S H rfl rfl rfl rfl el22 (SlOk.ofRow (i:=0) H rfl) (one_ecells _) (by simp only [maxLen];first | omega | (simp<;>omega)) (by first | omega | (simp<;>omega)) (ecells_app (Sh.esort Sh.pack2 (es.take i)) ([(es.getD i e0)])) (by first | omega | (simp<;>omega)) (fun _ _=>rfl) rfl rfl rfl fun a w A5 c6 hA5 S H=>?_
        refine rs 1 S H t0 fun a w S H=>?_
        refine r_seq ?_
        refine sb ?_
        refine rn 2 S H t0 fun a w S H=>?_
        refine r_y S H (y_sub S rfl rfl rfl (wi64 (by omega) (by omega))) rfl rfl rfl fun a S=>?_
        have S:=S.retell (v':=.int .i64 ((i:Nat):Int)) 41 rfl (int_eq (by omega))
        refine rs 1 S H t0 fun a w S H=>?_
        refine r_block ?_
        obtain ⟨b7,rfl⟩:=H.rowAt (i:=1) rfl (by omega)
        refine r_loop (ι:=List E×Nat) (fun ⟨o,j⟩ a w=>Slots a 63 [(0,.slice (some ⟨b2,o3,none⟩) es.length c),(2,.slice none 0 0),(3,.slice (some ⟨b7,0,none⟩) (i+1) c6),(4,.int .i64 ((i:Nat):Int)),(5,.int .i64 ((k:Nat):Int)),(6,.int .i64 ((j:Nat):Int)),(8,.int .i64 ((i:Nat):Int)),(9,.slice (some ⟨b2,o3,none⟩) es.length c),(10,.int .i64 ((es.length:Nat):Int)),(11,.bool (decide (((i:Nat):Int) < ((es.length:Nat):Int)))),(14,.slice Ao i co),(15,.int .i64 ((i:Nat):Int)),(16,.int .i64 ((k:Nat):Int)),(17,.bool false),(18,.bool false),(19,undef),(20,undef),(21,undef),(22,undef),(23,undef),(24,undef),(25,undef),(26,undef),(27,undef),(28,undef),(29,.bool false),(32,.slice Ao i co),(33,.slice (some ⟨b2,o3,none⟩) es.length c),(34,.int .i64 ((i:Nat):Int)),(35,.pointer (some ⟨b2,o3+i*3,none⟩)),(36,.agg #[.int .u32 (((es.getD i e0).f:Nat):Int),.int .u32 (((es.getD i e0).t:Nat):Int),.int .u32 (((es.getD i e0).w:Nat):Int)]),(37,.slice (some ⟨b4,0,none⟩) 1 1),(38,.slice (some ⟨b7,0,none⟩) (i+1) c6),(39,.slice (some ⟨b7,0,none⟩) (i+1) c6),(40,.int .i64 ((i+1:Nat):Int)),(41,.int .i64 ((i:Nat):Int)),(63,undef)]/\Sat w (row 61 3 (.slice (some ⟨b7,0,none⟩) (i+1) c6) (i+1) (ecells o)::fr)/\(k<=j/\j<=i/\o=((Sh.esort Sh.pack2 (es.take i)).take j++(if j=(Sh.esort Sh.pack2 (es.take i)).length then (es.getD i e0) else (Sh.esort Sh.pack2 (es.take i)).getD j e0)::(Sh.esort Sh.pack2 (es.take i)).drop j))) (fun ⟨o,j⟩=>j) ((Sh.esort Sh.pack2 (es.take i))++([(es.getD i e0)]),i) ⟨S.sub ⟨rfl,rfl,rfl,rfl,rfl,rfl,rfl,rfl,rfl,rfl,rfl,rfl,rfl,rfl,rfl,rfl,rfl,rfl,rfl,rfl,rfl,rfl,rfl,rfl,rfl,rfl,rfl,rfl,rfl,rfl,rfl,rfl,rfl,rfl,rfl,rfl,rfl,trivial⟩,pk [1] 2 H,⟨by omega,Nat.le_refl _,mid_all hle⟩⟩ (fun ⟨o,j⟩ a w hI=>?_)
        obtain ⟨S,H,hI⟩:=hI
        obtain ⟨hkj,hji,ho⟩:=hI
        have hol:o.length=i+1:=by rw [ho];simp;omega
        refine r_seq ?_
        refine sr 3 S H t0 fun a w S H=>?_
        refine r_test S rfl (fun h44=>?_) (fun h44=>?_)
        · skip
          refine wp_skip ?_
          refine x_then ?_
          refine r_seq ?_
          refine r_block ?_
          refine r_region ?_
          refine rn 4 S H t0 fun a w S H=>?_
          refine r_y S H (y_sub S rfl rfl rfl (wi64 (by omega) (by omega))) rfl rfl rfl fun a S=>?_
          have S:=S.retell (v':=.int .i64 (((j - 1):Nat):Int)) 51 rfl (int_eq (by omega))
          refine r_y S H (y_index S rfl rfl rfl Tryz.underlying22 Tryz.sizeOf61 (by omega) (by omega)) rfl rfl rfl fun a S=>?_
          refine r_y S H (y_loadAggAt [.int .u32 (((o.getD (j - 1) e0).f:Nat):Int),.int .u32 (((o.getD (j - 1) e0).t:Nat):Int),.int .u32 (((o.getD (j - 1) e0).w:Nat):Int)] S rfl rfl (fun w=>⟨Tryz.isAgg61 w,Tryz.sizeOf61 w⟩) rfl (fun w H=>(SlOk.ofRow (i:=0) H rfl).cells w H (ecells_from (i:=(j - 1)) (by first | omega | (simp<;>omega))))) rfl rfl rfl fun a S=>?_
          refine r_y S H (y_index S rfl rfl rfl Tryz.underlying22 Tryz.sizeOf61 (by omega) (by omega)) rfl rfl rfl fun a S=>?_
          refine r_setRows (vs:=[.int .u32 (((o.getD (j - 1) e0).f:Nat):Int),.int .u32 (((o.getD (j - 1) e0).t:Nat):Int),.int .u32 (((o.getD (j - 1) e0).w:Nat):Int)]) (xs':=ecells (o.set j (o.getD (j - 1) e0))) (L':=row 61 3 (.slice (some ⟨b7,0,none⟩) (i+1) c6) (i+1) (ecells (o.set j (o.getD (j - 1) e0)))::fr) 0 S H rfl rfl rfl rfl Tryz.sizeOf61 rfl rfl (by simp [Value.oneCell']) (by first | omega | (simp<;>omega)) (ecells_put (by first | omega | (simp<;>omega))) rfl rfl rfl fun w H=>?_
          refine r_nil ?_
          refine x_blockEnd ?_
          refine x_then ?_
          refine r_region ?_
          refine rn 1 S H t0 fun a w S H=>?_
          refine r_y S H (y_sub S rfl rfl rfl (wi64 (by omega) (by omega))) rfl rfl rfl fun a S=>?_
          have S:=S.retell (v':=.int .i64 (((j - 1):Nat):Int)) 46 rfl (int_eq (by omega))
          refine rn 1 S H t0 fun a w S H=>?_
          refine r_nil ?_
          refine x_then ?_
          exact ⟨(o.set j (o.getD (j - 1) e0),j - 1),⟨S.sub ⟨rfl,rfl,rfl,rfl,rfl,rfl,rfl,rfl,rfl,rfl,rfl,rfl,rfl,rfl,rfl,rfl,rfl,rfl,rfl,rfl,rfl,rfl,rfl,rfl,rfl,rfl,rfl,rfl,rfl,rfl,rfl,rfl,rfl,rfl,rfl,rfl,rfl,trivial⟩,H,⟨by omega,by omega,Sh.shift_step (k:=k) (by omega) (by omega) ho⟩⟩,by show j - 1 < j;omega⟩
        refine wp_exit ?_
        refine x_thenExit ?_
        refine x_thenExit ?_
        refine x_blockHere ?_
        refine x_then ?_
        refine r_region ?_
        refine rn 4 S H t0 fun a w S H=>?_
        refine r_y S H (y_index S rfl rfl rfl Tryz.underlying22 Tryz.sizeOf61 (by omega) (by omega)) rfl rfl rfl fun a S=>?_
        refine r_y S H (y_loadAggAt [.int .u32 (((es.getD i e0).f:Nat):Int),.int .u32 (((es.getD i e0).t:Nat):Int),.int .u32 (((es.getD i e0).w:Nat):Int)] S rfl rfl (fun w=>⟨Tryz.isAgg61 w,Tryz.sizeOf61 w⟩) rfl (fun w H=>(ok.more _).cells w H (ecells_from (i:=i) (by first | omega | (simp<;>omega))))) rfl rfl rfl fun a S=>?_
        refine r_y S H (y_index S rfl rfl rfl Tryz.underlying22 Tryz.sizeOf61 (by omega) (by omega)) rfl rfl rfl fun a S=>?_
        refine r_setRows (vs:=[.int .u32 (((es.getD i e0).f:Nat):Int),.int .u32 (((es.getD i e0).t:Nat):Int),.int .u32 (((es.getD i e0).w:Nat):Int)]) (xs':=ecells (o.set k (es.getD i e0))) (L':=row 61 3 (.slice (some ⟨b7,0,none⟩) (i+1) c6) (i+1) (ecells (o.set k (es.getD i e0)))::fr) 0 S H rfl rfl rfl rfl Tryz.sizeOf61 rfl rfl (by simp [Value.oneCell']) (by first | omega | (simp<;>omega)) (ecells_put (by first | omega | (simp<;>omega))) rfl rfl rfl fun w H=>?_
        refine r_nil ?_
        refine x_blockEnd ?_
        refine x_then ?_
        refine er 3 S H (by omega) fun a w S H=>?_
        refine x_then ?_
        have hmd:o.set k (es.getD i e0)=Sh.esort Sh.pack2 (es.take (i+1)):=by rw [show k=j from by omega,ho,Sh.midE_set (by omega),Sh.midE_done Sh.pack2_inj ((hes.take i).sort _) (hes.at (by omega)) (Sh.esort_up _ _) (by omega) (by rw [<-show k=j from by omega];exact ha) (by rw [<-show k=j from by omega];exact fun hx=>absurd hx (by omega))];exact Sh.esort_take Sh.pack2_inj hes (by omega)
        have H:=H
        rw [hmd] at H
        exact ⟨(i+1,(some ⟨b7,0,none⟩),c6),⟨S.sub ⟨rfl,rfl,rfl,rfl,rfl,trivial⟩,H,(by omega)⟩,by show es.length - (i+1) < es.length - i;omega⟩
    obtain ⟨b8,rfl⟩:=H.rowAt (i:=0) rfl (by omega)
    apply qb H rfl (by kernel_rfl)
    · skip
      refine qn 1 S t0 fun a S=>?_
      refine q_y S (y_gt S rfl rfl rfl) rfl rfl rfl fun a S=>?_
      have S:=S.retell (v':=.bool true) 17 rfl (by rw [decide_eq_true (by omega)])
      refine qn 3 S t0 fun a S=>?_
      refine q_y S (y_index S rfl rfl rfl Tryz.underlying22 Tryz.sizeOf61 (by omega) (by omega)) rfl rfl rfl fun a S=>?_
      refine q_y S (y_loadAggAt [.int .u32 (((es.getD i e0).f:Nat):Int),.int .u32 (((es.getD i e0).t:Nat):Int),.int .u32 (((es.getD i e0).w:Nat):Int)] S rfl rfl (fun w=>⟨Tryz.isAgg61 w,Tryz.sizeOf61 w⟩) rfl (fun w H=>(ok.more _).cells w H (ecells_from (i:=i) (by first | omega | (simp<;>omega))))) rfl rfl rfl fun a S=>?_
      refine qn 2 S t0 fun a S=>?_
      refine q_y S (y_sub S rfl rfl rfl (wi64 (by omega) (by omega))) rfl rfl rfl fun a S=>?_
      have S:=S.retell (v':=.int .i64 (((k - 1):Nat):Int)) 25 rfl (int_eq (by omega))
      refine q_y S (y_index S rfl rfl rfl Tryz.underlying22 Tryz.sizeOf61 (by omega) (by omega)) rfl rfl rfl fun a S=>?_
      refine q_y S (y_loadAggAt [.int .u32 ((((Sh.esort Sh.pack2 (es.take i)).getD (k - 1) e0).f:Nat):Int),.int .u32 ((((Sh.esort Sh.pack2 (es.take i)).getD (k - 1) e0).t:Nat):Int),.int .u32 ((((Sh.esort Sh.pack2 (es.take i)).getD (k - 1) e0).w:Nat):Int)] S rfl rfl (fun w=>⟨Tryz.isAgg61 w,Tryz.sizeOf61 w⟩) rfl (fun w H=>(SlOk.ofRow (i:=0) H rfl).cells w H (ecells_from (i:=(k - 1)) (by first | omega | (simp<;>omega))))) rfl rfl rfl fun a S=>?_
      refine q_call (args:=#[.agg #[.int .u32 (((es.getD i e0).f:Nat):Int),.int .u32 (((es.getD i e0).t:Nat):Int),.int .u32 (((es.getD i e0).w:Nat):Int)],.agg #[.int .u32 ((((Sh.esort Sh.pack2 (es.take i)).getD (k - 1) e0).f:Nat):Int),.int .u32 ((((Sh.esort Sh.pack2 (es.take i)).getD (k - 1) e0).t:Nat):Int),.int .u32 ((((Sh.esort Sh.pack2 (es.take i)).getD (k - 1) e0).w:Nat):Int)]]) S rfl rfl Tryz.call66 (fun w H=>less2_ct (H:=H) _ _ (es.getD i e0) ((Sh.esort Sh.pack2 (es.take i)).getD (k - 1) e0) (hes.at (by omega)).1 (by have:=((hes.take i).sort Sh.pack2).at (i:=k - 1) (by omega);exact this.1)) rfl rfl rfl fun a S=>?_
      refine qn 1 S t0 fun a S=>?_
      exact q_nil S
    · intro a w S H
      refine r_cond S rfl (fun h29=>?_) (fun h29=>?_)
      · skip
        refine wp_skip ?_
        refine x_then ?_
        refine r_block ?_
        refine r_region ?_
        refine rn 1 S H t0 fun a w S H=>?_
        refine r_y S H (y_sub S rfl rfl rfl (wi64 (by omega) (by omega))) rfl rfl rfl fun a S=>?_
        have S:=S.retell (v':=.int .i64 (((k - 1):Nat):Int)) 31 rfl (int_eq (by omega))
        refine rn 1 S H t0 fun a w S H=>?_
        refine r_nil ?_
        refine x_blockEnd ?_
        refine x_then ?_
        exact ⟨(k - 1),⟨S.sub ⟨rfl,rfl,rfl,rfl,rfl,rfl,rfl,rfl,rfl,rfl,rfl,rfl,trivial⟩,H,⟨by omega,dropE_step (p:=fun x=>Sh.less2 (es.getD i e0) x=true) h0 (by omega) h29 ha⟩⟩,by show k - 1 < k;omega⟩
      refine wp_exit ?_
      refine x_thenExit ?_
      refine x_thenExit ?_
      refine x_blockHere ?_
      refine x_then ?_
      refine sb ?_
      refine rn 3 S H t0 fun a w S H=>?_
      refine r_y S H (y_index S rfl rfl rfl Tryz.underlying22 Tryz.sizeOf61 (by omega) (by omega)) rfl rfl rfl fun a S=>?_
      refine r_y S H (y_loadAggAt [.int .u32 (((es.getD i e0).f:Nat):Int),.int .u32 (((es.getD i e0).t:Nat):Int),.int .u32 (((es.getD i e0).w:Nat):Int)] S rfl rfl (fun w=>⟨Tryz.isAgg61 w,Tryz.sizeOf61 w⟩) rfl (fun w H=>(ok.more _).cells w H (ecells_from (i:=i) (by first | omega | (simp<;>omega))))) rfl rfl rfl fun a S=>?_
      refine r_lit (vs:=#[(0,.agg #[.int .u32 (((es.getD i e0).f:Nat):Int),.int .u32 (((es.getD i e0).t:Nat):Int),.int .u32 (((es.getD i e0).w:Nat):Int)])]) (cs:=ecells [(es.getD i e0)]) S H rfl rfl el22 (by kernel_rfl) (by decide) (by rfl) rfl rfl rfl fun a w b9 S H=>?_
      refine r_appendS (L':=fun A10 c11=>row 61 3 (.slice (some ⟨b9,0,none⟩) 1 1) 1 (ecells [(es.getD i e0)])::row 61 3 (.slice A10 (i+1) c11) (i+1) (ecells ((Sh.esort Sh.pack2 (es.take i))++([(es.getD i e0)])))::fr) (xs':=ecells ((Sh.esort Sh.pack2 (es.take i))++([(es.getD i e0)]))) 1 S H rfl rfl rfl rfl el22 (SlOk.ofRow (i:=0) H rfl) (one_ecells _) (by simp only [maxLen];first | omega | (simp<;>omega)) (by first | omega | (simp<;>omega)) (ecells_app (Sh.esort Sh.pack2 (es.take i)) ([(es.getD i e0)])) (by first | omega | (simp<;>omega)) (fun _ _=>rfl) rfl rfl rfl fun a w A10 c11 hA10 S H=>?_
      refine rs 1 S H t0 fun a w S H=>?_
      refine r_seq ?_
      refine sb ?_
      refine rn 2 S H t0 fun a w S H=>?_
      refine r_y S H (y_sub S rfl rfl rfl (wi64 (by omega) (by omega))) rfl rfl rfl fun a S=>?_
      have S:=S.retell (v':=.int .i64 ((i:Nat):Int)) 41 rfl (int_eq (by omega))
      refine rs 1 S H t0 fun a w S H=>?_
      refine r_block ?_
      obtain ⟨b12,rfl⟩:=H.rowAt (i:=1) rfl (by omega)
      refine r_loop (ι:=List E×Nat) (fun ⟨o,j⟩ a w=>Slots a 63 [(0,.slice (some ⟨b2,o3,none⟩) es.length c),(2,.slice none 0 0),(3,.slice (some ⟨b12,0,none⟩) (i+1) c11),(4,.int .i64 ((i:Nat):Int)),(5,.int .i64 ((k:Nat):Int)),(6,.int .i64 ((j:Nat):Int)),(8,.int .i64 ((i:Nat):Int)),(9,.slice (some ⟨b2,o3,none⟩) es.length c),(10,.int .i64 ((es.length:Nat):Int)),(11,.bool (decide (((i:Nat):Int) < ((es.length:Nat):Int)))),(14,.slice (some ⟨b8,0,none⟩) i co),(15,.int .i64 ((i:Nat):Int)),(16,.int .i64 ((k:Nat):Int)),(17,.bool true),(18,.bool true),(19,.slice (some ⟨b2,o3,none⟩) es.length c),(20,.int .i64 ((i:Nat):Int)),(21,.pointer (some ⟨b2,o3+i*3,none⟩)),(22,.agg #[.int .u32 (((es.getD i e0).f:Nat):Int),.int .u32 (((es.getD i e0).t:Nat):Int),.int .u32 (((es.getD i e0).w:Nat):Int)]),(23,.slice (some ⟨b8,0,none⟩) i co),(24,.int .i64 ((k:Nat):Int)),(25,.int .i64 (((k - 1):Nat):Int)),(26,.pointer (some ⟨b8,0+(k - 1)*3,none⟩)),(27,.agg #[.int .u32 ((((Sh.esort Sh.pack2 (es.take i)).getD (k - 1) e0).f:Nat):Int),.int .u32 ((((Sh.esort Sh.pack2 (es.take i)).getD (k - 1) e0).t:Nat):Int),.int .u32 ((((Sh.esort Sh.pack2 (es.take i)).getD (k - 1) e0).w:Nat):Int)]),(28,.bool (Sh.less2 (es.getD i e0) ((Sh.esort Sh.pack2 (es.take i)).getD (k - 1) e0))),(29,.bool (Sh.less2 (es.getD i e0) ((Sh.esort Sh.pack2 (es.take i)).getD (k - 1) e0))),(32,.slice (some ⟨b8,0,none⟩) i co),(33,.slice (some ⟨b2,o3,none⟩) es.length c),(34,.int .i64 ((i:Nat):Int)),(35,.pointer (some ⟨b2,o3+i*3,none⟩)),(36,.agg #[.int .u32 (((es.getD i e0).f:Nat):Int),.int .u32 (((es.getD i e0).t:Nat):Int),.int .u32 (((es.getD i e0).w:Nat):Int)]),(37,.slice (some ⟨b9,0,none⟩) 1 1),(38,.slice (some ⟨b12,0,none⟩) (i+1) c11),(39,.slice (some ⟨b12,0,none⟩) (i+1) c11),(40,.int .i64 ((i+1:Nat):Int)),(41,.int .i64 ((i:Nat):Int)),(63,undef)]/\Sat w (row 61 3 (.slice (some ⟨b12,0,none⟩) (i+1) c11) (i+1) (ecells o)::fr)/\(k<=j/\j<=i/\o=((Sh.esort Sh.pack2 (es.take i)).take j++(if j=(Sh.esort Sh.pack2 (es.take i)).length then (es.getD i e0) else (Sh.esort Sh.pack2 (es.take i)).getD j e0)::(Sh.esort Sh.pack2 (es.take i)).drop j))) (fun ⟨o,j⟩=>j) ((Sh.esort Sh.pack2 (es.take i))++([(es.getD i e0)]),i) ⟨S.sub ⟨rfl,rfl,rfl,rfl,rfl,rfl,rfl,rfl,rfl,rfl,rfl,rfl,rfl,rfl,rfl,rfl,rfl,rfl,rfl,rfl,rfl,rfl,rfl,rfl,rfl,rfl,rfl,rfl,rfl,rfl,rfl,rfl,rfl,rfl,rfl,rfl,rfl,trivial⟩,pk [1] 2 H,⟨by omega,Nat.le_refl _,mid_all hle⟩⟩ (fun ⟨o,j⟩ a w hI=>?_)
      obtain ⟨S,H,hI⟩:=hI
      obtain ⟨hkj,hji,ho⟩:=hI
      have hol:o.length=i+1:=by rw [ho];simp;omega
      refine r_seq ?_
      refine sr 3 S H t0 fun a w S H=>?_
      refine r_test S rfl (fun h44=>?_) (fun h44=>?_)
      · skip
        refine wp_skip ?_
        refine x_then ?_
        refine r_seq ?_
        refine r_block ?_
        refine r_region ?_
        refine rn 4 S H t0 fun a w S H=>?_
        refine r_y S H (y_sub S rfl rfl rfl (wi64 (by omega) (by omega))) rfl rfl rfl fun a S=>?_
        have S:=S.retell (v':=.int .i64 (((j - 1):Nat):Int)) 51 rfl (int_eq (by omega))
        refine r_y S H (y_index S rfl rfl rfl Tryz.underlying22 Tryz.sizeOf61 (by omega) (by omega)) rfl rfl rfl fun a S=>?_
        refine r_y S H (y_loadAggAt [.int .u32 (((o.getD (j - 1) e0).f:Nat):Int),.int .u32 (((o.getD (j - 1) e0).t:Nat):Int),.int .u32 (((o.getD (j - 1) e0).w:Nat):Int)] S rfl rfl (fun w=>⟨Tryz.isAgg61 w,Tryz.sizeOf61 w⟩) rfl (fun w H=>(SlOk.ofRow (i:=0) H rfl).cells w H (ecells_from (i:=(j - 1)) (by first | omega | (simp<;>omega))))) rfl rfl rfl fun a S=>?_
        refine r_y S H (y_index S rfl rfl rfl Tryz.underlying22 Tryz.sizeOf61 (by omega) (by omega)) rfl rfl rfl fun a S=>?_
        refine r_setRows (vs:=[.int .u32 (((o.getD (j - 1) e0).f:Nat):Int),.int .u32 (((o.getD (j - 1) e0).t:Nat):Int),.int .u32 (((o.getD (j - 1) e0).w:Nat):Int)]) (xs':=ecells (o.set j (o.getD (j - 1) e0))) (L':=row 61 3 (.slice (some ⟨b12,0,none⟩) (i+1) c11) (i+1) (ecells (o.set j (o.getD (j - 1) e0)))::fr) 0 S H rfl rfl rfl rfl Tryz.sizeOf61 rfl rfl (by simp [Value.oneCell']) (by first | omega | (simp<;>omega)) (ecells_put (by first | omega | (simp<;>omega))) rfl rfl rfl fun w H=>?_
        refine r_nil ?_
        refine x_blockEnd ?_
        refine x_then ?_
        refine r_region ?_
        refine rn 1 S H t0 fun a w S H=>?_
        refine r_y S H (y_sub S rfl rfl rfl (wi64 (by omega) (by omega))) rfl rfl rfl fun a S=>?_
        have S:=S.retell (v':=.int .i64 (((j - 1):Nat):Int)) 46 rfl (int_eq (by omega))
        refine rn 1 S H t0 fun a w S H=>?_
        refine r_nil ?_
        refine x_then ?_
        exact ⟨(o.set j (o.getD (j - 1) e0),j - 1),⟨S.sub ⟨rfl,rfl,rfl,rfl,rfl,rfl,rfl,rfl,rfl,rfl,rfl,rfl,rfl,rfl,rfl,rfl,rfl,rfl,rfl,rfl,rfl,rfl,rfl,rfl,rfl,rfl,rfl,rfl,rfl,rfl,rfl,rfl,rfl,rfl,rfl,rfl,rfl,trivial⟩,H,⟨by omega,by omega,Sh.shift_step (k:=k) (by omega) (by omega) ho⟩⟩,by show j - 1 < j;omega⟩
      refine wp_exit ?_
      refine x_thenExit ?_
      refine x_thenExit ?_
      refine x_blockHere ?_
      refine x_then ?_
      refine r_region ?_
      refine rn 4 S H t0 fun a w S H=>?_
      refine r_y S H (y_index S rfl rfl rfl Tryz.underlying22 Tryz.sizeOf61 (by omega) (by omega)) rfl rfl rfl fun a S=>?_
      refine r_y S H (y_loadAggAt [.int .u32 (((es.getD i e0).f:Nat):Int),.int .u32 (((es.getD i e0).t:Nat):Int),.int .u32 (((es.getD i e0).w:Nat):Int)] S rfl rfl (fun w=>⟨Tryz.isAgg61 w,Tryz.sizeOf61 w⟩) rfl (fun w H=>(ok.more _).cells w H (ecells_from (i:=i) (by first | omega | (simp<;>omega))))) rfl rfl rfl fun a S=>?_
      refine r_y S H (y_index S rfl rfl rfl Tryz.underlying22 Tryz.sizeOf61 (by omega) (by omega)) rfl rfl rfl fun a S=>?_
      refine r_setRows (vs:=[.int .u32 (((es.getD i e0).f:Nat):Int),.int .u32 (((es.getD i e0).t:Nat):Int),.int .u32 (((es.getD i e0).w:Nat):Int)]) (xs':=ecells (o.set k (es.getD i e0))) (L':=row 61 3 (.slice (some ⟨b12,0,none⟩) (i+1) c11) (i+1) (ecells (o.set k (es.getD i e0)))::fr) 0 S H rfl rfl rfl rfl Tryz.sizeOf61 rfl rfl (by simp [Value.oneCell']) (by first | omega | (simp<;>omega)) (ecells_put (by first | omega | (simp<;>omega))) rfl rfl rfl fun w H=>?_
      refine r_nil ?_
      refine x_blockEnd ?_
      refine x_then ?_
      refine er 3 S H (by omega) fun a w S H=>?_
      refine x_then ?_
      have hmd:o.set k (es.getD i e0)=Sh.esort Sh.pack2 (es.take (i+1)):=by rw [show k=j from by omega,ho,Sh.midE_set (by omega),Sh.midE_done Sh.pack2_inj ((hes.take i).sort _) (hes.at (by omega)) (Sh.esort_up _ _) (by omega) (by rw [<-show k=j from by omega];exact ha) (by rw [<-show k=j from by omega];exact fun _=>h29)];exact Sh.esort_take Sh.pack2_inj hes (by omega)
      have H:=H
      rw [hmd] at H
      exact ⟨(i+1,(some ⟨b12,0,none⟩),c11),⟨S.sub ⟨rfl,rfl,rfl,rfl,rfl,trivial⟩,H,(by omega)⟩,by show es.length - (i+1) < es.length - i;omega⟩
  refine wp_exit ?_
  refine x_thenExit ?_
  refine x_thenExit ?_
  refine x_blockHere ?_
  refine x_then ?_
  refine sr 2 S H t0 fun a w S H=>?_
  refine wp_ret ?_
  refine r_ret1 S H Tryz.results40 (ro_tmp S rfl) ?_
  have hi:i=es.length:=by omega
  subst hi
  have e:es.take es.length=es:=List.take_length
  rw [e] at H
  exact ⟨_,_,rfl,H⟩

theorem eqE_fields (x y z x' y' z':Nat) (w:World):(Op.eqFields 9999 #[.int .u32 (x:Int),.int .u32 (y:Int),.int .u32 (z:Int)] #[.int .u32 (x':Int),.int .u32 (y':Int),.int .u32 (z':Int)] (Tryz.prog.fieldsOf 61).toList).run Tryz.prog w=.ok (decide (x=x'/\y=y'/\z=z')) w:=by
  unfold Program.fieldsOf;rw [Tryz.underlying61]
  simp [go_sem,part,Tryz.underlying59,Tryz.sizeOf59,Tryz.isAgg59]
  by_cases h1:x=x'<;>by_cases h2:y=y'<;>by_cases h3:z=z'<;>simp [*]<;>omega
theorem neqE (x y:E) (w:World):(binOp .neq 61 (.agg #[.int .u32 (x.f:Int),.int .u32 (x.t:Int),.int .u32 (x.w:Int)]) (.agg #[.int .u32 (y.f:Int),.int .u32 (y.t:Int),.int .u32 (y.w:Int)])).run Tryz.prog w=.ok (.bool (decide (x≠y))) w:=by
  rw [run_neq_struct,run_equalIn_struct _ 9999 61 _ _ (by unfold Program.fieldsOf;rw [Tryz.underlying61]) (by kernel_rfl),eqE_fields]
  have e:(x.f=y.f/\x.t=y.t/\x.w=y.w)↔x=y:=by
    obtain ⟨a,b,c⟩:=x;obtain ⟨a',b',c'⟩:=y;simp
  simp only [Result.andThen,e,decide_not]
theorem takeE_same {x y:List E} {i:Nat} (h:i < x.length) (hy:i < y.length) (ht:x.take i=y.take i) (he:x.getD i e0=y.getD i e0):x.take (i+1)=y.take (i+1):=by
  rw [List.getD_eq_getElem?_getD,List.getD_eq_getElem?_getD,List.getElem?_eq_getElem h,List.getElem?_eq_getElem hy] at he
  rw [List.take_add_one,List.take_add_one,ht,List.getElem?_eq_getElem h,List.getElem?_eq_getElem hy]
  simp only [Option.getD_some] at he
  rw [he]
theorem SlOk.nE {L:List Res} {A:Option Addr} {m c:Nat} {l:List E} (h:SlOk L 3 A m c (ecells l)):m=l.length:=by have:=h.len;simp at this;omega
theorem alike_ct (w:World) (fr:List Res) (A1:Option Addr) (n1 c1:Nat) (x:List E) (ok1:SlOk fr 3 A1 n1 c1 (ecells x)) (A2:Option Addr) (n2 c2:Nat) (y:List E) (ok2:SlOk fr 3 A2 n2 c2 (ecells y)) (H:Sat w (fr)):
    Rt Tryz.prog 20 #[.slice A1 n1 c1,.slice A2 n2 c2] w fun v w'=>v=.bool (decide (x=y))/\Sat w' fr:=by
  refine en2 Tryz.func20 rfl Tryz.ntmps20 rfl fun a S=>?_
  have hn1:n1=x.length:=SlOk.nE ok1
  subst hn1
  have hn2:n2=y.length:=SlOk.nE ok2
  subst hn2
  have hc1:=ok1.le
  have hc2:=ok2.le
  have hd1:=ok1.cap
  have hd2:=ok2.cap
  simp only [maxLen] at hd1 hd2
  refine sr 1 S H t0 fun a w S H=>?_
  refine r_seq ?_
  refine sr 5 S H t0 fun a w S H=>?_
  refine r_test S rfl (fun h10=>?_) (fun h10=>?_)
  · skip
    refine sr 1 S H t0 fun a w S H=>?_
    refine wp_ret ?_
    refine x_thenRet ?_
    refine r_ret1 S H Tryz.results20 (ro_tmp S rfl) ?_
    have e:¬ x=y:=fun h=>by rw [h] at h10;simp at h10
    rw [decide_eq_false e]
    exact ⟨rfl,H⟩
  refine wp_skip ?_
  refine x_then ?_
  refine r_seq ?_
  refine sr 1 S H t0 fun a w S H=>?_
  refine r_block ?_
  refine r_loop (ι:=Nat) (fun i a w=>Slots a 26 [(0,.slice A1 x.length c1),(1,.slice A2 y.length c2),(5,.int .i64 ((i:Nat):Int)),(26,undef)]/\Sat w (fr)/\(i<=x.length/\x.take i=y.take i)) (fun i=>x.length - i) 0 ⟨S.sub ⟨rfl,rfl,rfl,rfl,trivial⟩,H,⟨Nat.zero_le _,rfl⟩⟩ (fun i a w hI=>?_)
  obtain ⟨S,H,hI⟩:=hI
  obtain ⟨hil,htk⟩:=hI
  refine r_seq ?_
  refine sr 4 S H t0 fun a w S H=>?_
  refine r_test S rfl (fun h14=>?_) (fun h14=>?_)
  · skip
    refine wp_skip ?_
    refine x_then ?_
    refine r_seq ?_
    refine r_block ?_
    have hxy:x.length=y.length:=by omega
    obtain ⟨b1,o2,rfl⟩:=ok1.addr H (by omega)
    obtain ⟨b3,o4,rfl⟩:=ok2.addr H (by omega)
    apply qb H rfl (by kernel_rfl)
    · skip
      refine qn 2 S t0 fun a S=>?_
      refine q_y S (y_index S rfl rfl rfl Tryz.underlying22 Tryz.sizeOf61 (by omega) (by omega)) rfl rfl rfl fun a S=>?_
      refine q_y S (y_loadAggAt [.int .u32 (((x.getD i e0).f:Nat):Int),.int .u32 (((x.getD i e0).t:Nat):Int),.int .u32 (((x.getD i e0).w:Nat):Int)] S rfl rfl (fun w=>⟨Tryz.isAgg61 w,Tryz.sizeOf61 w⟩) rfl (fun w H=>ok1.cells w H (ecells_from (i:=i) (by first | omega | (simp<;>omega))))) rfl rfl rfl fun a S=>?_
      refine qn 2 S t0 fun a S=>?_
      refine q_y S (y_index S rfl rfl rfl Tryz.underlying22 Tryz.sizeOf61 (by omega) (by omega)) rfl rfl rfl fun a S=>?_
      refine q_y S (y_loadAggAt [.int .u32 (((y.getD i e0).f:Nat):Int),.int .u32 (((y.getD i e0).t:Nat):Int),.int .u32 (((y.getD i e0).w:Nat):Int)] S rfl rfl (fun w=>⟨Tryz.isAgg61 w,Tryz.sizeOf61 w⟩) rfl (fun w H=>ok2.cells w H (ecells_from (i:=i) (by first | omega | (simp<;>omega))))) rfl rfl rfl fun a S=>?_
      refine q_y S (yl_bin S rfl rfl rfl (fun w=>run_eqGuard_agg w _ _ _ _ _ _ (by kernel_rfl)) fun w _=>neqE (x.getD i e0) (y.getD i e0) w) rfl rfl rfl fun a S=>?_
      exact q_nil S
    · intro a w S H
      refine r_cond S rfl (fun h25=>?_) (fun h25=>?_)
      · skip
        refine sr 1 S H t0 fun a w S H=>?_
        refine wp_ret ?_
        refine x_blockRet ?_
        refine x_thenRet ?_
        refine x_thenRet ?_
        refine x_blockRet ?_
        refine x_thenRet ?_
        refine r_ret1 S H Tryz.results20 (ro_tmp S rfl) ?_
        have e:¬ x=y:=fun h=>by rw [h] at h25;simp at h25
        rw [decide_eq_false e]
        exact ⟨rfl,H⟩
      refine wp_skip ?_
      refine x_blockEnd ?_
      refine x_then ?_
      refine er 3 S H (by omega) fun a w S H=>?_
      refine x_then ?_
      exact ⟨(i+1),⟨S.sub ⟨rfl,rfl,rfl,rfl,trivial⟩,H,⟨by omega,takeE_same (by omega) (by omega) htk (by simpa using h25)⟩⟩,by show x.length - (i+1) < x.length - i;omega⟩
  refine wp_exit ?_
  refine x_thenExit ?_
  refine x_thenExit ?_
  refine x_blockHere ?_
  refine x_then ?_
  refine sr 1 S H t0 fun a w S H=>?_
  refine wp_ret ?_
  refine r_ret1 S H Tryz.results20 (ro_tmp S rfl) ?_
  have hxy2:x.length=y.length:=by omega
  have hi:i=x.length:=by omega
  subst hi
  have e:x=y:=by have h9:=htk;rw [List.take_length,hxy2,List.take_length] at h9;exact h9
  rw [decide_eq_true e]
  exact ⟨rfl,H⟩

theorem same2_ct (w:World) (fr:List Res) (n1 n2:Int) (A1:Option Addr) (c1:Nat) (x:List E) (ok1:SlOk fr 3 A1 x.length c1 (ecells x)) (he1:Sh.E32 x) (A2:Option Addr) (c2:Nat) (y:List E) (ok2:SlOk fr 3 A2 y.length c2 (ecells y)) (he2:Sh.E32 y) (hx:x.length<=1099511627776) (hy:y.length<=1099511627776) (H:Sat w (fr)):
    Rt Tryz.prog 17 #[.agg #[.int .i64 n1,.slice A1 x.length c1],.agg #[.int .i64 n2,.slice A2 y.length c2]] w fun v w'=>v=.bool (decide (n1=n2/\Sh.esort Sh.pack2 x=Sh.esort Sh.pack2 y))/\Sat w' fr:=by
  refine en2 Tryz.func17 rfl Tryz.ntmps17 rfl fun a S=>?_
  refine sb ?_
  refine r_box (c:=#[.int .i64 n1,.slice A1 x.length c1]) S H rfl rfl rfl rfl rfl rfl fun a w b1 S H=>?_
  refine r_box (c:=#[.int .i64 n2,.slice A2 y.length c2]) S H rfl rfl rfl rfl rfl rfl fun a w b2 S H=>?_
  refine rs 1 S H t0 fun a w S H=>?_
  by_cases hn:n1=n2
  · skip
    refine r_seq ?_
    refine ha [0,1] 2 H fun w H HS=>?_
    refine tk 0 S HS fun a S=>?_
    refine tk 1 S HS fun a S=>?_
    refine tk 2 S HS fun a S=>?_
    refine tk 3 S HS fun a S=>?_
    refine tkY 4 S HS rfl (y_eq S rfl rfl rfl) rfl rfl rfl fun a S=>?_
    have S:=S.retell (v':=.bool true) 9 rfl (by rw [decide_eq_true (by omega)])
    refine tk 5 S HS fun a S=>?_
    refine tk 6 S HS fun a S=>?_
    refine tk 7 S HS fun a S=>?_
    refine tk 9 S HS fun a S=>?_
    refine tk 10 S HS fun a S=>?_
    refine h1 8 ?_
    refine r_call (args:=#[.slice A1 x.length c1]) S rfl rfl Tryz.call40 (sort2_ct (H:=H) _ _ A1 c1 x (ok1.via fun _ H=>H.drop.drop) (he1) (by omega)) rfl rfl rfl fun v a w hR S=>?_
    obtain ⟨A3,c4,rfl,H⟩:=hR
    refine sn ?_
    refine hk (pk [1,2] 3 H) fun HS=>?_
    refine h1 11 ?_
    refine r_call (args:=#[.slice A2 y.length c2]) S rfl rfl Tryz.call40 (sort2_ct (H:=H) _ _ A2 c2 y (ok2.via fun _ H=>H.drop.drop.drop) (he2) (by omega)) rfl rfl rfl fun v a w hR S=>?_
    obtain ⟨A5,c6,rfl,H⟩:=hR
    refine sn ?_
    refine hk (pk [2,3] 4 H) fun HS=>?_
    refine h1 12 ?_
    refine r_call (args:=#[.slice A3 x.length c4,.slice A5 y.length c6]) S rfl rfl Tryz.call20 (alike_ct (H:=H) _ _ _ _ _ (Sh.esort Sh.pack2 x) (SlOk.ofRow (i:=1) H rfl) _ _ _ (Sh.esort Sh.pack2 y) (SlOk.ofRow (i:=0) H rfl)) rfl rfl rfl fun v a w hR S=>?_
    obtain ⟨rfl,H⟩:=hR
    refine sn ?_
    refine hk (pk [2,3] 4 H) fun HS=>?_
    refine tk 13 S HS fun a S=>?_
    refine tk 14 S HS fun a S=>?_
    refine hz ?_
    refine x_then ?_
    refine wp_ret ?_
    refine r_ret1 S H Tryz.results17 (ro_tmp S rfl) ?_
    refine ⟨congrArg Value.bool (decide_eq_decide.2 (by simp only [hn,true_and])),H.drop.drop.drop.drop⟩
  refine r_seq ?_
  refine ha [0,1] 2 H fun w H HS=>?_
  refine tk 0 S HS fun a S=>?_
  refine tk 1 S HS fun a S=>?_
  refine tk 2 S HS fun a S=>?_
  refine tk 3 S HS fun a S=>?_
  refine tkY 4 S HS rfl (y_eq S rfl rfl rfl) rfl rfl rfl fun a S=>?_
  have S:=S.retell (v':=.bool false) 9 rfl (by rw [decide_eq_false (by omega)])
  refine tk 5 S HS fun a S=>?_
  refine tkS 6 S HS fun a S=>?_
  refine tkS 7 S HS fun a S=>?_
  refine tkS 8 S HS fun a S=>?_
  refine tkS 9 S HS fun a S=>?_
  refine tkS 10 S HS fun a S=>?_
  refine tkS 11 S HS fun a S=>?_
  refine tkS 12 S HS fun a S=>?_
  refine tk 13 S HS fun a S=>?_
  refine tk 14 S HS fun a S=>?_
  refine hz ?_
  refine x_then ?_
  refine wp_ret ?_
  refine r_ret1 S H Tryz.results17 (ro_tmp S rfl) ?_
  rw [decide_eq_false (fun hx=>hn hx.1)]
  exact ⟨rfl,H.drop.drop⟩

theorem few_ct (w:World) (fr:List Res) (n:Int) (A:Option Addr) (c:Nat) (es:List E) (ok:SlOk fr 3 A es.length c (ecells es)) (hes:Sh.E32 es) (H:Sat w (fr)):
    Rt Tryz.prog 11 #[.agg #[.int .i64 n,.slice A es.length c]] w fun v w'=>(∃A c,v=.agg #[.int .i64 (Tr.few n es).1,.slice A (Tr.few n es).2.length c]/\Sat w' (row 61 3 (.slice A (Tr.few n es).2.length c) (Tr.few n es).2.length (ecells (Tr.few n es).2)::fr)):=by
  refine en1 Tryz.func11 rfl Tryz.ntmps11 rfl fun a S=>?_
  have hcap:=ok.le
  have hmax:c<=9223372036854775807:=ok.cap
  refine sb ?_
  refine r_box (c:=#[.int .i64 n,.slice A es.length c]) S H rfl rfl rfl rfl rfl rfl fun a w b1 S H=>?_
  refine r_alloc S H rfl Tryz.zeroValue24 rfl rfl rfl rfl fun a w b2 S H=>?_
  replace H:Sat _ (blk b2 (.cells #[.int .i64 0,.slice none 0 0] 24)::blk b1 (.cells #[.int .i64 n,.slice A es.length c] 24)::fr):=H
  refine sn ?_
  refine r_seq ?_
  refine wp_via (J:=fun a w=>∃A4:Option Addr,∃c5:Nat,∃b6:Nat,Slots a 28 [(2,.pointer (some ⟨b2,0,none⟩)),(3,.pointer (some ⟨b6,0,none⟩)),(28,undef)]/\Sat w (blk b6 (.cells #[.int .i64 n,.slice A4 ((es.take (min es.length 40)).length) c5] 24)::row 61 3 (.slice A4 ((es.take (min es.length 40)).length) c5) ((es.take (min es.length 40)).length) (ecells (es.take (min es.length 40)))::blk b2 (.cells #[.int .i64 0,.slice none 0 0] 24)::blk b1 (.cells #[.int .i64 n,.slice A es.length c] 24)::fr)) ?_ (fun a w hm=>?_)
  · skip
    refine ha [0,1] 2 H fun w H HS=>?_
    refine tk 0 S HS fun a S=>?_
    refine tk 1 S HS fun a S=>?_
    refine tk 3 S HS fun a S=>?_
    refine tk 4 S HS fun a S=>?_
    refine tk 5 S HS fun a S=>?_
    refine tk 6 S HS fun a S=>?_
    refine tk 7 S HS fun a S=>?_
    refine tk 8 S HS fun a S=>?_
    refine tkY 9 S HS rfl (y_sliceH (k:=(min es.length 40)) S rfl rfl rfl Tryz.underlying22 Tryz.sizeOf61 (by first | omega | (simp<;>omega)) (by first | omega | (simp<;>omega))) rfl rfl rfl fun a S=>?_
    refine hmemo [true,true,true,true,true,true,true,true,true,true,false,false,true,false] 3 (fun a w=>∃b3:Nat,∃b7:Nat,Slots a 28 [(2,.pointer (some ⟨b2,0,none⟩)),(3,.pointer (some ⟨b7,0,none⟩)),(6,.int .i64 n),(7,.slice (some ⟨b3,0,none⟩) 0 0),(14,.slice (shift A 0 (decide (c=0))) (min es.length 40) c),(28,undef)]/\Sat w (blk b7 (.cells #[.int .i64 0,.slice none 0 0] 24)::row 61 3 (.slice (some ⟨b3,0,none⟩) 0 0) 0 (ecells [])::blk b2 (.cells #[.int .i64 0,.slice none 0 0] 24)::blk b1 (.cells #[.int .i64 n,.slice A es.length c] 24)::fr)) ?_ fun K0=>?_
    · rintro a w ⟨b3,b7,S,H⟩
      have HS:Sat w _:=pk [2,3] 4 H
      refine h1 10 ?_
      refine r_appendS (L':=fun A12 c13=>blk b7 (.cells #[.int .i64 0,.slice none 0 0] 24)::row 61 3 (.slice A12 ((es.take (min es.length 40)).length) c13) ((es.take (min es.length 40)).length) (ecells (es.take (min es.length 40)))::blk b2 (.cells #[.int .i64 0,.slice none 0 0] 24)::blk b1 (.cells #[.int .i64 n,.slice A es.length c] 24)::fr) (xs':=ecells (es.take (min es.length 40))) 1 S H rfl rfl rfl rfl el22 (ecells_take es (min es.length 40)▸((((ok.more _).more _).more _).more _).init (min es.length 40) (by first | omega | (simp<;>omega))) (one_ecells _) (by simp only [maxLen];first | omega | (simp<;>omega)) (by first | omega | (simp<;>omega)) (List.nil_append _) (by first | omega | (simp<;>omega)) (fun _ _=>rfl) rfl rfl rfl fun a w A12 c13 hA12 S H=>?_
      refine sn ?_
      refine hk (pk [2,3] 4 H) fun HS=>?_
      refine tkY 11 S HS rfl (y_build (vs:=#[(0,.int .i64 n),(1,.slice A12 ((es.take (min es.length 40)).length) c13)]) (v:=.agg #[.int .i64 n,.slice A12 ((es.take (min es.length 40)).length) c13]) S rfl rfl (fun w=>by kernel_rfl)) rfl rfl rfl fun a S=>?_
      refine h1 13 ?_
      refine rs 1 S H t0 fun a w S H=>?_
      refine hk (pk [2,3] 4 H) fun HS=>?_
      refine hz ?_
      refine x_then ?_
      exact ⟨_,_,_,S.sub ⟨rfl,rfl,rfl,trivial⟩,H⟩
    refine h2 2 12 ?_ ?_
    · skip
      refine r_lit (vs:=#[]) (cs:=ecells []) S H rfl rfl el22 (by kernel_rfl) (by decide) (by rfl) rfl rfl rfl fun a w b14 S H=>?_
      refine sn ?_
      refine hk (pk [1,2] 3 H) fun HS=>?_
      refine h2 10 12 ?_ ?_
      · skip
        refine r_appendS (L':=fun A15 c16=>row 61 3 (.slice A15 ((es.take (min es.length 40)).length) c16) ((es.take (min es.length 40)).length) (ecells (es.take (min es.length 40)))::blk b2 (.cells #[.int .i64 0,.slice none 0 0] 24)::blk b1 (.cells #[.int .i64 n,.slice A es.length c] 24)::fr) (xs':=ecells (es.take (min es.length 40))) 0 S H rfl rfl rfl rfl el22 (ecells_take es (min es.length 40)▸(((ok.more _).more _).more _).init (min es.length 40) (by first | omega | (simp<;>omega))) (one_ecells _) (by simp only [maxLen];first | omega | (simp<;>omega)) (by first | omega | (simp<;>omega)) (List.nil_append _) (by first | omega | (simp<;>omega)) (fun _ _=>rfl) rfl rfl rfl fun a w A15 c16 hA15 S H=>?_
        refine sn ?_
        refine hk (pk [1,2] 3 H) fun HS=>?_
        refine tkY 11 S HS rfl (y_build (vs:=#[(0,.int .i64 n),(1,.slice A15 ((es.take (min es.length 40)).length) c16)]) (v:=.agg #[.int .i64 n,.slice A15 ((es.take (min es.length 40)).length) c16]) S rfl rfl (fun w=>by kernel_rfl)) rfl rfl rfl fun a S=>?_
        refine h1 12 ?_
        refine r_alloc S H rfl Tryz.zeroValue24 rfl rfl rfl rfl fun a w b17 S H=>?_
        replace H:Sat _ (blk b17 (.cells #[.int .i64 0,.slice none 0 0] 24)::row 61 3 (.slice A15 ((es.take (min es.length 40)).length) c16) ((es.take (min es.length 40)).length) (ecells (es.take (min es.length 40)))::blk b2 (.cells #[.int .i64 0,.slice none 0 0] 24)::blk b1 (.cells #[.int .i64 n,.slice A es.length c] 24)::fr):=H
        refine sn ?_
        refine hk (pk [2,3] 4 H) fun HS=>?_
        refine h1 13 ?_
        refine rs 1 S H t0 fun a w S H=>?_
        refine hk (pk [2,3] 4 H) fun HS=>?_
        refine hz ?_
        refine x_then ?_
        exact ⟨_,_,_,S.sub ⟨rfl,rfl,rfl,trivial⟩,H⟩
      · skip
        refine r_alloc S H rfl Tryz.zeroValue24 rfl rfl rfl rfl fun a w b18 S H=>?_
        replace H:Sat _ (blk b18 (.cells #[.int .i64 0,.slice none 0 0] 24)::row 61 3 (.slice (some ⟨b14,0,none⟩) 0 0) 0 (ecells [])::blk b2 (.cells #[.int .i64 0,.slice none 0 0] 24)::blk b1 (.cells #[.int .i64 n,.slice A es.length c] 24)::fr):=H
        refine sn ?_
        refine hk (pk [2,3] 4 H) fun HS=>?_
        exact K0 _ _ ⟨_,_,S.sub ⟨rfl,rfl,rfl,rfl,rfl,rfl,trivial⟩,H⟩
    · skip
      refine r_alloc S H rfl Tryz.zeroValue24 rfl rfl rfl rfl fun a w b19 S H=>?_
      replace H:Sat _ (blk b19 (.cells #[.int .i64 0,.slice none 0 0] 24)::blk b2 (.cells #[.int .i64 0,.slice none 0 0] 24)::blk b1 (.cells #[.int .i64 n,.slice A es.length c] 24)::fr):=H
      refine sn ?_
      refine hk (pk [1,2] 3 H) fun HS=>?_
      refine h1 2 ?_
      refine r_lit (vs:=#[]) (cs:=ecells []) S H rfl rfl el22 (by kernel_rfl) (by decide) (by rfl) rfl rfl rfl fun a w b20 S H=>?_
      refine sn ?_
      refine hk (pk [2,3] 4 H) fun HS=>?_
      exact K0 _ _ ⟨_,_,S.sub ⟨rfl,rfl,rfl,rfl,rfl,rfl,trivial⟩,pk [1,0,2,3] 4 H⟩
  obtain ⟨A4,c5,b6,S,H⟩:=hm
  refine x_then ?_
  refine sb ?_
  refine rn 1 S H t0 fun a w S H=>?_
  refine r_call (args:=#[.agg #[.int .i64 n,.slice A4 ((es.take (min es.length 40)).length) c5]]) S rfl rfl Tryz.call22 (rgraph_ct (H:=H) _ _ n A4 c5 (es.take (min es.length 40)) (SlOk.ofRow (i:=1) H rfl) (fun e he=>hes e (List.mem_of_mem_take he))) rfl rfl rfl fun v a w hR S=>?_
  obtain ⟨rfl,H⟩:=hR
  refine rs 1 S H t0 fun a w S H=>?_
  refine r_seq ?_
  refine sb ?_
  refine rn 3 S H t0 fun a w S H=>?_
  refine scO 2 S H (fun _=>t0) fun a w S H=>?_
  refine sn ?_
  refine r_cond S rfl (fun h25=>?_) (fun h25=>?_)
  · skip
    refine sb ?_
    refine r_y S H (y_build (vs:=#[]) (v:=.agg #[.int .i64 0,.slice none 0 0]) S rfl rfl (fun w=>by kernel_rfl)) rfl rfl rfl fun a S=>?_
    refine rs 1 S H t0 fun a w S H=>?_
    refine wp_ret ?_
    refine x_thenRet ?_
    refine r_ret1 S H Tryz.results11 (ro_agg [_,_] (i:=2) S rfl (fun w=>⟨Tryz.isAgg24 w,Tryz.sizeOf24 w⟩) rfl rfl ⟨rfl,rfl,trivial⟩) ?_
    have hF:Tr.few n es=(0,[]):=by unfold Tr.few;rw [if_neg];intro h;simp only [Bool.and_eq_true,decide_eq_true_eq] at h;rw [h.1] at h25;simp at h25;omega
    rw [hF]
    exact ⟨none,0,rfl,(pk [] 4 H).nilRow _ _⟩
  refine wp_skip ?_
  refine x_then ?_
  refine sr 2 S H t0 fun a w S H=>?_
  refine wp_ret ?_
  refine r_ret1 S H Tryz.results11 (ro_agg [_,_] (i:=2) S rfl (fun w=>⟨Tryz.isAgg24 w,Tryz.sizeOf24 w⟩) rfl rfl ⟨rfl,rfl,trivial⟩) ?_
  have hF:Tr.few n es=(n,es.take (min es.length 40)):=by unfold Tr.few;rw [if_pos];simp only [Bool.or_eq_false_iff,Bool.not_eq_false',decide_eq_false_iff_not] at h25;rw [h25.1];simp;omega
  rw [hF]
  exact ⟨_,_,rfl,pk [1] 4 H⟩

end Go.Proofs.YtoffbmhmocfmnaaGreatDoor
namespace Go.Proofs.YtoffbmhmocfmnaaGreatDoor
open Go.RowKit Go.Cg
set_option linter.unusedVariables false
set_option linter.unusedSimpArgs false
set_option maxRecDepth 8000
set_option synthInstance.maxHeartbeats 1000000
set_option synthInstance.maxSize 1000000
open Go.Cg.Rn (R Bd Up)
open Go.Cg.Tr (E graph)
theorem rof_ct (w:World) (fr:List Res) (n s y:Int) (hp:Oc.part n s=true) (h0:0<=y) (h1:y < n) (H:Sat w (fr)):
    Rt Tryz.prog 54 #[.int .i64 n,.int .i64 s,.int .i64 y] w fun v w'=>v=.int .i64 ((Sh.ofv n s y:Nat):Int)/\Sat w' fr:=by
  refine en3 Tryz.func54 rfl Tryz.ntmps54 rfl fun a S=>?_
  have hpl:=Sh.part_le hp
  obtain ⟨S0,rfl⟩:=Int.eq_ofNat_of_zero_le (show 0<=s by omega)
  refine sr 1 S H t0 fun a w S H=>?_
  refine sr 1 S H t0 fun a w S H=>?_
  refine r_seq ?_
  refine r_block ?_
  refine r_loop (ι:=Nat) (fun i a w=>Slots a 19 [(0,.int .i64 n),(1,.int .i64 ((S0:Nat):Int)),(2,.int .i64 y),(6,.int .i64 0),(7,.int .i64 ((i:Nat):Int)),(19,undef)]/\Sat w (fr)/\(i < S0/\∀ k,k < i->Sh.bnd n S0 ((k:Int)+1)<=y)) (fun i=>S0 - i) 0 ⟨S.sub ⟨rfl,rfl,rfl,rfl,rfl,rfl,trivial⟩,H,⟨by omega,fun k h=>absurd h (Nat.not_lt_zero _)⟩⟩ (fun i a w hI=>?_)
  obtain ⟨S,H,hI⟩:=hI
  obtain ⟨his,hlo⟩:=hI
  refine r_seq ?_
  obtain ⟨K,hK⟩:∃K:Int,K=(i:Int)+1:=⟨_,rfl⟩
  have hin0:0<=K*n:=Int.mul_nonneg (by omega) hpl.1
  have hin:K*n<=4096*1048576:=Int.mul_le_mul (by omega) (by omega) hpl.1 (by omega)
  have hq0:0<=K*n / (S0:Int):=Int.ediv_nonneg hin0 (by omega)
  have hq:K*n / (S0:Int)<=K*n:=Int.ediv_le_self _ hin0
  have hb:Sh.bnd n S0 ((i:Int)+1)=K*n / (S0:Int):=by rw [hK];rfl
  refine sb ?_
  refine rn 1 S H t0 fun a w S H=>?_
  refine r_y S H (y_add S rfl rfl rfl (wi64 (by omega) (by omega))) rfl rfl rfl fun a S=>?_
  have S:=S.retell (v':=.int .i64 K) 9 rfl (int_eq (by omega))
  refine rn 3 S H (by omega) fun a w S H=>?_
  refine r_y S H (y_quoN S rfl rfl rfl (by omega) (by omega) (wdivi64 (by omega) (by omega) (by omega))) rfl rfl rfl fun a S=>?_
  refine rs 2 S H t0 fun a w S H=>?_
  refine r_test S rfl (fun h15=>?_) (fun h15=>?_)
  · skip
    refine wp_skip ?_
    refine x_then ?_
    refine r_block ?_
    refine er 3 S H (by omega) fun a w S H=>?_
    refine x_blockEnd ?_
    refine x_then ?_
    have hlt:i+1 < S0:=by
      rcases Nat.lt_or_ge (i+1) S0 with h | h
      · exact h
      · exfalso;have e:K=(S0:Int):=by omega
        rw [e,Int.mul_ediv_cancel_left _ (by omega)] at h15;omega
    exact ⟨(i+1),⟨S.sub ⟨rfl,rfl,rfl,rfl,rfl,rfl,trivial⟩,H,⟨hlt,fun k hk=>(Nat.lt_succ_iff_lt_or_eq.1 hk).elim (hlo k) (fun e=>by rw [e,hb];exact h15)⟩⟩,by show S0 - (i+1) < S0 - i;omega⟩
  refine wp_exit ?_
  refine x_thenExit ?_
  refine x_thenExit ?_
  refine x_blockHere ?_
  refine x_then ?_
  refine sr 2 S H t0 fun a w S H=>?_
  refine wp_ret ?_
  refine r_ret1 S H Tryz.results54 (ro_tmp S rfl) ?_
  have he:Sh.ofv n S0 y=i:=Sh.search_done hp h0 h1 (by omega) hlo (fun k h2 h3=>Int.lt_of_lt_of_le (show y < Sh.bnd n S0 ((i:Int)+1) by rw [hb];omega) (Sh.bnd_mono hpl.1 (by omega) (by omega)))
  rw [he]
  exact ⟨rfl,H⟩

theorem eless_ct (w:World) (fr:List Res) (x y:E) (ha:x.t < 4294967296) (hb:y.t < 4294967296) (H:Sat w (fr)):
    Rt Tryz.prog 77 #[.agg #[.int .u32 ((x.f:Nat):Int),.int .u32 ((x.t:Nat):Int),.int .u32 ((x.w:Nat):Int)],.agg #[.int .u32 ((y.f:Nat):Int),.int .u32 ((y.t:Nat):Int),.int .u32 ((y.w:Nat):Int)]] w fun v w'=>v=.bool (Sh.less x y)/\Sat w' fr:=by
  refine en2 Tryz.func77 rfl Tryz.ntmps77 rfl fun a S=>?_
  refine sb ?_
  refine r_box (c:=#[.int .u32 ((x.f:Nat):Int),.int .u32 ((x.t:Nat):Int),.int .u32 ((x.w:Nat):Int)]) S H rfl rfl rfl rfl rfl rfl fun a w b1 S H=>?_
  refine r_box (c:=#[.int .u32 ((y.f:Nat):Int),.int .u32 ((y.t:Nat):Int),.int .u32 ((y.w:Nat):Int)]) S H rfl rfl rfl rfl rfl rfl fun a w b2 S H=>?_
  refine rs 1 S H t0 fun a w S H=>?_
  refine r_seq ?_
  refine sr 5 S H t0 fun a w S H=>?_
  refine r_test S rfl (fun h9=>?_) (fun h9=>?_)
  · skip
    refine sr 6 S H t0 fun a w S H=>?_
    refine wp_ret ?_
    refine x_thenRet ?_
    refine r_ret1 S H Tryz.results77 (ro_tmp S rfl) ?_
    rw [Sh.less_eq ha hb]
    exact ⟨congrArg Value.bool (decide_eq_decide.2 (by omega)),H.drop.drop⟩
  refine wp_skip ?_
  refine x_then ?_
  refine r_seq ?_
  refine sr 5 S H t0 fun a w S H=>?_
  refine r_test S rfl (fun h19=>?_) (fun h19=>?_)
  · skip
    refine sr 6 S H t0 fun a w S H=>?_
    refine wp_ret ?_
    refine x_thenRet ?_
    refine r_ret1 S H Tryz.results77 (ro_tmp S rfl) ?_
    rw [Sh.less_eq ha hb]
    exact ⟨congrArg Value.bool (decide_eq_decide.2 (by omega)),H.drop.drop⟩
  refine wp_skip ?_
  refine x_then ?_
  refine sr 6 S H t0 fun a w S H=>?_
  refine wp_ret ?_
  refine r_ret1 S H Tryz.results77 (ro_tmp S rfl) ?_
  rw [Sh.less_eq ha hb]
  exact ⟨congrArg Value.bool (decide_eq_decide.2 (by omega)),H.drop.drop⟩

theorem sort12_ct (w:World) (fr:List Res) (A:Option Addr) (c:Nat) (es:List E) (ok:SlOk fr 3 A es.length c (ecells es)) (hes:Sh.E32 es) (hn:es.length<=1099511627776) (H:Sat w (fr)):
    Rt Tryz.prog 55 #[.slice A es.length c] w fun v w'=>∃A' c',v=.slice A' es.length c'/\Sat w' (row 61 3 (.slice A' es.length c') es.length (ecells (Sh.esort Sh.pack es))::fr):=by
  refine en1 Tryz.func55 rfl Tryz.ntmps55 rfl fun a S=>?_
  have hcap:=ok.le
  have hmax:c<=9223372036854775807:=ok.cap
  refine sr 1 S H t0 fun a w S H=>?_
  refine sb ?_
  refine r_lit (vs:=#[]) (cs:=ecells []) S H rfl rfl el22 (by kernel_rfl) (by decide) (by rfl) rfl rfl rfl fun a w b1 S H=>?_
  refine rs 1 S H t0 fun a w S H=>?_
  refine r_seq ?_
  refine sr 1 S H t0 fun a w S H=>?_
  refine r_block ?_
  refine r_loop (ι:=Nat×Option Addr×Nat) (fun ⟨i,Ao,co⟩ a w=>Slots a 55 [(0,.slice A es.length c),(2,.slice none 0 0),(3,.slice Ao i co),(4,.int .i64 ((i:Nat):Int)),(55,undef)]/\Sat w (row 61 3 (.slice Ao i co) i (ecells (Sh.esort Sh.pack (es.take i)))::fr)/\(i<=es.length)) (fun ⟨i,Ao,co⟩=>es.length - i) (0,(some ⟨b1,0,none⟩),0) ⟨S.sub ⟨rfl,rfl,rfl,rfl,rfl,trivial⟩,H,(Nat.zero_le _)⟩ (fun ⟨i,Ao,co⟩ a w hI=>?_)
  obtain ⟨S,H,hI⟩:=hI
  have hil:=hI
  have hle:(Sh.esort Sh.pack (es.take i)).length=i:=by rw [Sh.esort_len,List.length_take];omega
  refine r_seq ?_
  refine sr 4 S H t0 fun a w S H=>?_
  refine r_test S rfl (fun h10=>?_) (fun h10=>?_)
  · skip
    refine wp_skip ?_
    refine x_then ?_
    refine r_seq ?_
    refine r_block ?_
    refine sb ?_
    refine rn 3 S H t0 fun a w S H=>?_
    obtain ⟨b2,o3,rfl⟩:=(ok.more _).addr H (by first | omega | (simp<;>omega))
    refine r_y S H (y_index S rfl rfl rfl Tryz.underlying22 Tryz.sizeOf61 (by omega) (by omega)) rfl rfl rfl fun a S=>?_
    refine r_y S H (y_loadAggAt [.int .u32 (((es.getD i e0).f:Nat):Int),.int .u32 (((es.getD i e0).t:Nat):Int),.int .u32 (((es.getD i e0).w:Nat):Int)] S rfl rfl (fun w=>⟨Tryz.isAgg61 w,Tryz.sizeOf61 w⟩) rfl (fun w H=>(ok.more _).cells w H (ecells_from (i:=i) (by first | omega | (simp<;>omega))))) rfl rfl rfl fun a S=>?_
    refine r_lit (vs:=#[(0,.agg #[.int .u32 (((es.getD i e0).f:Nat):Int),.int .u32 (((es.getD i e0).t:Nat):Int),.int .u32 (((es.getD i e0).w:Nat):Int)])]) (cs:=ecells [(es.getD i e0)]) S H rfl rfl el22 (by kernel_rfl) (by decide) (by rfl) rfl rfl rfl fun a w b4 S H=>?_
    refine r_appendS (L':=fun A5 c6=>row 61 3 (.slice (some ⟨b4,0,none⟩) 1 1) 1 (ecells [(es.getD i e0)])::row 61 3 (.slice A5 (i+1) c6) (i+1) (ecells ((Sh.esort Sh.pack (es.take i))++([(es.getD i e0)])))::fr) (xs':=ecells ((Sh.esort Sh.pack (es.take i))++([(es.getD i e0)]))) 1 S H rfl rfl rfl rfl el22 (SlOk.ofRow (i:=0) H rfl) (one_ecells _) (by simp only [maxLen];first | omega | (simp<;>omega)) (by first | omega | (simp<;>omega)) (ecells_app (Sh.esort Sh.pack (es.take i)) ([(es.getD i e0)])) (by first | omega | (simp<;>omega)) (fun _ _=>rfl) rfl rfl rfl fun a w A5 c6 hA5 S H=>?_
    refine rs 1 S H t0 fun a w S H=>?_
    refine sb ?_
    refine rn 2 S H t0 fun a w S H=>?_
    refine r_y S H (y_sub S rfl rfl rfl (wi64 (by omega) (by omega))) rfl rfl rfl fun a S=>?_
    have S:=S.retell (v':=.int .i64 ((i:Nat):Int)) 22 rfl (int_eq (by omega))
    refine rs 1 S H t0 fun a w S H=>?_
    refine r_seq ?_
    refine r_block ?_
    obtain ⟨b7,rfl⟩:=H.rowAt (i:=1) rfl (by omega)
    refine r_loop (ι:=List E×Nat) (fun ⟨o,k⟩ a w=>Slots a 55 [(0,.slice (some ⟨b2,o3,none⟩) es.length c),(2,.slice none 0 0),(3,.slice (some ⟨b7,0,none⟩) (i+1) c6),(4,.int .i64 ((i:Nat):Int)),(5,.int .i64 ((k:Nat):Int)),(7,.int .i64 ((i:Nat):Int)),(8,.slice (some ⟨b2,o3,none⟩) es.length c),(9,.int .i64 ((es.length:Nat):Int)),(10,.bool (decide (((i:Nat):Int) < ((es.length:Nat):Int)))),(13,.slice Ao i co),(14,.slice (some ⟨b2,o3,none⟩) es.length c),(15,.int .i64 ((i:Nat):Int)),(16,.pointer (some ⟨b2,o3+i*3,none⟩)),(17,.agg #[.int .u32 (((es.getD i e0).f:Nat):Int),.int .u32 (((es.getD i e0).t:Nat):Int),.int .u32 (((es.getD i e0).w:Nat):Int)]),(18,.slice (some ⟨b4,0,none⟩) 1 1),(19,.slice (some ⟨b7,0,none⟩) (i+1) c6),(20,.slice (some ⟨b7,0,none⟩) (i+1) c6),(21,.int .i64 ((i+1:Nat):Int)),(22,.int .i64 ((i:Nat):Int)),(55,undef)]/\Sat w (row 61 3 (.slice (some ⟨b7,0,none⟩) (i+1) c6) (i+1) (ecells o)::fr)/\(k<=i/\o=((Sh.esort Sh.pack (es.take i)).take k++(if k=(Sh.esort Sh.pack (es.take i)).length then (es.getD i e0) else (Sh.esort Sh.pack (es.take i)).getD k e0)::(Sh.esort Sh.pack (es.take i)).drop k)/\∀ x∈(Sh.esort Sh.pack (es.take i)).drop k,Sh.less (es.getD i e0) x=true)) (fun ⟨o,k⟩=>k) ((Sh.esort Sh.pack (es.take i))++([(es.getD i e0)]),i) ⟨S.sub ⟨rfl,rfl,rfl,rfl,rfl,rfl,rfl,rfl,rfl,rfl,rfl,rfl,rfl,rfl,rfl,rfl,rfl,rfl,rfl,rfl,trivial⟩,pk [1] 2 H,⟨Nat.le_refl _,mid_all hle,by rw [show (Sh.esort Sh.pack (es.take i)).drop i=[] from List.drop_of_length_le (by omega)];simp⟩⟩ (fun ⟨o,k⟩ a w hI=>?_)
    obtain ⟨S,H,hI⟩:=hI
    obtain ⟨hki,ho,ha⟩:=hI
    have hol:o.length=i+1:=by rw [ho];simp;omega
    refine r_seq ?_
    rcases Nat.eq_zero_or_pos k with h0 | h0
    · skip
      apply qb H rfl (by kernel_rfl)
      · skip
        refine qn 1 S t0 fun a S=>?_
        refine q_y S (y_gt S rfl rfl rfl) rfl rfl rfl fun a S=>?_
        have S:=S.retell (v':=.bool false) 24 rfl (by rw [decide_eq_false (by omega)])
        refine qn 12 S t0 fun a S=>?_
        exact q_nil S
      · intro a w S H
        refine r_condF S rfl ?_
        refine wp_exit ?_
        refine x_thenExit ?_
        refine x_thenExit ?_
        refine x_blockHere ?_
        refine x_then ?_
        refine r_region ?_
        refine rn 4 S H t0 fun a w S H=>?_
        refine r_y S H (y_index S rfl rfl rfl Tryz.underlying22 Tryz.sizeOf61 (by omega) (by omega)) rfl rfl rfl fun a S=>?_
        refine r_y S H (y_loadAggAt [.int .u32 (((es.getD i e0).f:Nat):Int),.int .u32 (((es.getD i e0).t:Nat):Int),.int .u32 (((es.getD i e0).w:Nat):Int)] S rfl rfl (fun w=>⟨Tryz.isAgg61 w,Tryz.sizeOf61 w⟩) rfl (fun w H=>(ok.more _).cells w H (ecells_from (i:=i) (by first | omega | (simp<;>omega))))) rfl rfl rfl fun a S=>?_
        refine r_y S H (y_index S rfl rfl rfl Tryz.underlying22 Tryz.sizeOf61 (by omega) (by omega)) rfl rfl rfl fun a S=>?_
        refine r_setRows (vs:=[.int .u32 (((es.getD i e0).f:Nat):Int),.int .u32 (((es.getD i e0).t:Nat):Int),.int .u32 (((es.getD i e0).w:Nat):Int)]) (xs':=ecells (o.set k (es.getD i e0))) (L':=row 61 3 (.slice (some ⟨b7,0,none⟩) (i+1) c6) (i+1) (ecells (o.set k (es.getD i e0)))::fr) 0 S H rfl rfl rfl rfl Tryz.sizeOf61 rfl rfl (by simp [Value.oneCell']) (by first | omega | (simp<;>omega)) (ecells_put (by first | omega | (simp<;>omega))) rfl rfl rfl fun w H=>?_
        refine r_nil ?_
        refine x_blockEnd ?_
        refine x_then ?_
        refine er 3 S H (by omega) fun a w S H=>?_
        refine x_then ?_
        have hmd:o.set k (es.getD i e0)=Sh.esort Sh.pack (es.take (i+1)):=by rw [ho,Sh.midE_set (by omega),Sh.midE_done Sh.pack_inj ((hes.take i).sort _) (hes.at (by omega)) (Sh.esort_up _ _) (by omega) ha (fun hx=>absurd hx (by omega))];exact Sh.esort_take Sh.pack_inj hes (by omega)
        have H:=H
        rw [hmd] at H
        exact ⟨(i+1,(some ⟨b7,0,none⟩),c6),⟨S.sub ⟨rfl,rfl,rfl,rfl,rfl,trivial⟩,H,(by omega)⟩,by show es.length - (i+1) < es.length - i;omega⟩
    have hg1:o.getD (k - 1) e0=(Sh.esort Sh.pack (es.take i)).getD (k - 1) e0:=by rw [ho];exact Sh.midE_get (by omega) (by omega)
    apply qb H rfl (by kernel_rfl)
    · skip
      refine qn 1 S t0 fun a S=>?_
      refine q_y S (y_gt S rfl rfl rfl) rfl rfl rfl fun a S=>?_
      have S:=S.retell (v':=.bool true) 24 rfl (by rw [decide_eq_true (by omega)])
      refine qn 3 S t0 fun a S=>?_
      refine q_y S (y_index S rfl rfl rfl Tryz.underlying22 Tryz.sizeOf61 (by omega) (by omega)) rfl rfl rfl fun a S=>?_
      refine q_y S (y_loadAggAt [.int .u32 (((es.getD i e0).f:Nat):Int),.int .u32 (((es.getD i e0).t:Nat):Int),.int .u32 (((es.getD i e0).w:Nat):Int)] S rfl rfl (fun w=>⟨Tryz.isAgg61 w,Tryz.sizeOf61 w⟩) rfl (fun w H=>(ok.more _).cells w H (ecells_from (i:=i) (by first | omega | (simp<;>omega))))) rfl rfl rfl fun a S=>?_
      refine qn 2 S t0 fun a S=>?_
      refine q_y S (y_sub S rfl rfl rfl (wi64 (by omega) (by omega))) rfl rfl rfl fun a S=>?_
      have S:=S.retell (v':=.int .i64 (((k - 1):Nat):Int)) 32 rfl (int_eq (by omega))
      refine q_y S (y_index S rfl rfl rfl Tryz.underlying22 Tryz.sizeOf61 (by omega) (by omega)) rfl rfl rfl fun a S=>?_
      refine q_y S (y_loadAggAt [.int .u32 (((o.getD (k - 1) e0).f:Nat):Int),.int .u32 (((o.getD (k - 1) e0).t:Nat):Int),.int .u32 (((o.getD (k - 1) e0).w:Nat):Int)] S rfl rfl (fun w=>⟨Tryz.isAgg61 w,Tryz.sizeOf61 w⟩) rfl (fun w H=>(SlOk.ofRow (i:=0) H rfl).cells w H (ecells_from (i:=(k - 1)) (by first | omega | (simp<;>omega))))) rfl rfl rfl fun a S=>?_
      refine q_call (args:=#[.agg #[.int .u32 (((es.getD i e0).f:Nat):Int),.int .u32 (((es.getD i e0).t:Nat):Int),.int .u32 (((es.getD i e0).w:Nat):Int)],.agg #[.int .u32 (((o.getD (k - 1) e0).f:Nat):Int),.int .u32 (((o.getD (k - 1) e0).t:Nat):Int),.int .u32 (((o.getD (k - 1) e0).w:Nat):Int)]]) S rfl rfl Tryz.call77 (fun w H=>eless_ct (H:=H) _ _ (es.getD i e0) (o.getD (k - 1) e0) (hes.at (by omega)).2.1 (by rw [hg1];have:=((hes.take i).sort Sh.pack).at (i:=k - 1) (by omega);exact this.2.1)) rfl rfl rfl fun a S=>?_
      refine qn 1 S t0 fun a S=>?_
      exact q_nil S
    · intro a w S H
      refine r_cond S rfl (fun h36=>?_) (fun h36=>?_)
      · skip
        refine wp_skip ?_
        refine x_then ?_
        refine r_block ?_
        refine sb ?_
        refine rn 4 S H t0 fun a w S H=>?_
        refine r_y S H (y_sub S rfl rfl rfl (wi64 (by omega) (by omega))) rfl rfl rfl fun a S=>?_
        have S:=S.retell (v':=.int .i64 (((k - 1):Nat):Int)) 41 rfl (int_eq (by omega))
        refine r_y S H (y_index S rfl rfl rfl Tryz.underlying22 Tryz.sizeOf61 (by omega) (by omega)) rfl rfl rfl fun a S=>?_
        refine r_y S H (y_loadAggAt [.int .u32 (((o.getD (k - 1) e0).f:Nat):Int),.int .u32 (((o.getD (k - 1) e0).t:Nat):Int),.int .u32 (((o.getD (k - 1) e0).w:Nat):Int)] S rfl rfl (fun w=>⟨Tryz.isAgg61 w,Tryz.sizeOf61 w⟩) rfl (fun w H=>(SlOk.ofRow (i:=0) H rfl).cells w H (ecells_from (i:=(k - 1)) (by first | omega | (simp<;>omega))))) rfl rfl rfl fun a S=>?_
        refine r_y S H (y_index S rfl rfl rfl Tryz.underlying22 Tryz.sizeOf61 (by omega) (by omega)) rfl rfl rfl fun a S=>?_
        refine r_setRows (vs:=[.int .u32 (((o.getD (k - 1) e0).f:Nat):Int),.int .u32 (((o.getD (k - 1) e0).t:Nat):Int),.int .u32 (((o.getD (k - 1) e0).w:Nat):Int)]) (xs':=ecells (o.set k (o.getD (k - 1) e0))) (L':=row 61 3 (.slice (some ⟨b7,0,none⟩) (i+1) c6) (i+1) (ecells (o.set k (o.getD (k - 1) e0)))::fr) 0 S H rfl rfl rfl rfl Tryz.sizeOf61 rfl rfl (by simp [Value.oneCell']) (by first | omega | (simp<;>omega)) (ecells_put (by first | omega | (simp<;>omega))) rfl rfl rfl fun w H=>?_
        refine sn ?_
        refine r_region ?_
        refine rn 1 S H t0 fun a w S H=>?_
        refine r_y S H (y_sub S rfl rfl rfl (wi64 (by omega) (by omega))) rfl rfl rfl fun a S=>?_
        have S:=S.retell (v':=.int .i64 (((k - 1):Nat):Int)) 46 rfl (int_eq (by omega))
        refine rn 1 S H t0 fun a w S H=>?_
        refine r_nil ?_
        refine x_blockEnd ?_
        refine x_then ?_
        exact ⟨(o.set k (o.getD (k - 1) e0),k - 1),⟨S.sub ⟨rfl,rfl,rfl,rfl,rfl,rfl,rfl,rfl,rfl,rfl,rfl,rfl,rfl,rfl,rfl,rfl,rfl,rfl,rfl,rfl,trivial⟩,H,⟨by omega,Sh.shift_step (k:=0) h0 (by omega) ho,dropE_step (p:=fun x=>Sh.less (es.getD i e0) x=true) h0 (by omega) (by rw [<-hg1];exact h36) ha⟩⟩,by show k - 1 < k;omega⟩
      refine wp_exit ?_
      refine x_thenExit ?_
      refine x_thenExit ?_
      refine x_blockHere ?_
      refine x_then ?_
      refine r_region ?_
      refine rn 4 S H t0 fun a w S H=>?_
      refine r_y S H (y_index S rfl rfl rfl Tryz.underlying22 Tryz.sizeOf61 (by omega) (by omega)) rfl rfl rfl fun a S=>?_
      refine r_y S H (y_loadAggAt [.int .u32 (((es.getD i e0).f:Nat):Int),.int .u32 (((es.getD i e0).t:Nat):Int),.int .u32 (((es.getD i e0).w:Nat):Int)] S rfl rfl (fun w=>⟨Tryz.isAgg61 w,Tryz.sizeOf61 w⟩) rfl (fun w H=>(ok.more _).cells w H (ecells_from (i:=i) (by first | omega | (simp<;>omega))))) rfl rfl rfl fun a S=>?_
      refine r_y S H (y_index S rfl rfl rfl Tryz.underlying22 Tryz.sizeOf61 (by omega) (by omega)) rfl rfl rfl fun a S=>?_
      refine r_setRows (vs:=[.int .u32 (((es.getD i e0).f:Nat):Int),.int .u32 (((es.getD i e0).t:Nat):Int),.int .u32 (((es.getD i e0).w:Nat):Int)]) (xs':=ecells (o.set k (es.getD i e0))) (L':=row 61 3 (.slice (some ⟨b7,0,none⟩) (i+1) c6) (i+1) (ecells (o.set k (es.getD i e0)))::fr) 0 S H rfl rfl rfl rfl Tryz.sizeOf61 rfl rfl (by simp [Value.oneCell']) (by first | omega | (simp<;>omega)) (ecells_put (by first | omega | (simp<;>omega))) rfl rfl rfl fun w H=>?_
      refine r_nil ?_
      refine x_blockEnd ?_
      refine x_then ?_
      refine er 3 S H (by omega) fun a w S H=>?_
      refine x_then ?_
      have hmd:o.set k (es.getD i e0)=Sh.esort Sh.pack (es.take (i+1)):=by rw [ho,Sh.midE_set (by omega),Sh.midE_done Sh.pack_inj ((hes.take i).sort _) (hes.at (by omega)) (Sh.esort_up _ _) (by omega) ha (fun _=>by rw [<-hg1];exact h36)];exact Sh.esort_take Sh.pack_inj hes (by omega)
      have H:=H
      rw [hmd] at H
      exact ⟨(i+1,(some ⟨b7,0,none⟩),c6),⟨S.sub ⟨rfl,rfl,rfl,rfl,rfl,trivial⟩,H,(by omega)⟩,by show es.length - (i+1) < es.length - i;omega⟩
  refine wp_exit ?_
  refine x_thenExit ?_
  refine x_thenExit ?_
  refine x_blockHere ?_
  refine x_then ?_
  refine sr 2 S H t0 fun a w S H=>?_
  refine wp_ret ?_
  refine r_ret1 S H Tryz.results55 (ro_tmp S rfl) ?_
  have hi:i=es.length:=by omega
  subst hi
  have e:es.take es.length=es:=List.take_length
  rw [e] at H
  exact ⟨_,_,rfl,H⟩

theorem eshard_ct (w:World) (fr:List Res) (n:Int) (A:Option Addr) (c:Nat) (es:List E) (ok:SlOk fr 3 A es.length c (ecells es)) (hes:Sh.E32 es) (hn:es.length<=1048576) (s:Int) (i:Nat) (hp:Oc.part n s=true) (hg:Tr.graph n es=true) (H:Sat w (fr)):
    Rt Tryz.prog 29 #[.agg #[.int .i64 n,.slice A es.length c],.int .i64 s,.int .i64 ((i:Nat):Int)] w fun v w'=>∃A' c',v=.slice A' (Sh.edgesOf n s es i).length c'/\Sat w' (row 61 3 (.slice A' (Sh.edgesOf n s es i).length c') (Sh.edgesOf n s es i).length (ecells (Sh.edgesOf n s es i))::fr):=by
  refine en3 Tryz.func29 rfl Tryz.ntmps29 rfl fun a S=>?_
  have hcap:=ok.le
  have hmax:c<=9223372036854775807:=ok.cap
  refine sb ?_
  refine r_box (c:=#[.int .i64 n,.slice A es.length c]) S H rfl rfl rfl rfl rfl rfl fun a w b1 S H=>?_
  refine rs 1 S H t0 fun a w S H=>?_
  refine sb ?_
  refine r_lit (vs:=#[]) (cs:=ecells []) S H rfl rfl el22 (by kernel_rfl) (by decide) (by rfl) rfl rfl rfl fun a w b2 S H=>?_
  refine rs 1 S H t0 fun a w S H=>?_
  refine r_seq ?_
  refine sr 1 S H t0 fun a w S H=>?_
  refine r_block ?_
  refine r_loop (ι:=Nat×Option Addr×Nat) (fun ⟨k,Ao,co⟩ a w=>Slots a 40 [(1,.int .i64 s),(2,.int .i64 ((i:Nat):Int)),(3,.pointer (some ⟨b1,0,none⟩)),(6,.slice none 0 0),(7,.slice Ao ((Sh.mine n s i (es.take k)).length) co),(8,.int .i64 ((k:Nat):Int)),(40,undef)]/\Sat w (blk b1 (.cells #[.int .i64 n,.slice A es.length c] 24)::row 61 3 (.slice Ao ((Sh.mine n s i (es.take k)).length) co) ((Sh.mine n s i (es.take k)).length) (ecells (Sh.mine n s i (es.take k)))::fr)/\(k<=es.length)) (fun ⟨k,Ao,co⟩=>es.length - k) (0,(some ⟨b2,0,none⟩),0) ⟨S.sub ⟨rfl,rfl,rfl,rfl,rfl,rfl,rfl,trivial⟩,pk [1,0] 2 H,(Nat.zero_le _)⟩ (fun ⟨k,Ao,co⟩ a w hI=>?_)
  obtain ⟨S,H,hI⟩:=hI
  have hkl:=hI
  have hml:=Sh.mine_len n s i (es.take k)
  have htl:(es.take k).length<=es.length:=by rw [List.length_take];omega
  refine r_seq ?_
  refine sr 5 S H t0 fun a w S H=>?_
  refine r_test S rfl (fun h14=>?_) (fun h14=>?_)
  · skip
    refine wp_skip ?_
    refine x_then ?_
    refine r_seq ?_
    refine r_block ?_
    obtain ⟨b3,o4,rfl⟩:=ok.addr (H.drop.drop) (by omega)
    have hgx:=Sh.graph_at hg (k:=k) (by omega)
    have hex:=hes.at (i:=k) (by omega)
    apply qb H rfl (by kernel_rfl)
    · skip
      refine qn 6 S t0 fun a S=>?_
      refine q_y S (y_index S rfl rfl rfl Tryz.underlying22 Tryz.sizeOf61 (by omega) (by omega)) rfl rfl rfl fun a S=>?_
      refine qn 1 S t0 fun a S=>?_
      refine q_y S (y_loadAt S rfl rfl Tryz.isAgg59 (fun w H=>((ok.more _).more _).cell w H (ecells_t (i:=k) (by omega)))) rfl rfl rfl fun a S=>?_
      refine qn 1 S (by omega) fun a S=>?_
      refine q_call (args:=#[.int .i64 n,.int .i64 s,.int .i64 (((es.getD k e0).t:Nat):Int)]) S rfl rfl Tryz.call54 (fun w H=>rof_ct (H:=H) _ _ n s (((es.getD k e0).t:Nat):Int) hp (by omega) (by omega)) rfl rfl rfl fun a S=>?_
      refine qn 2 S t0 fun a S=>?_
      exact q_nil S
    · intro a w S H
      refine r_test S rfl (fun h29=>?_) (fun h29=>?_)
      · skip
        refine r_region ?_
        refine rn 4 S H t0 fun a w S H=>?_
        refine r_y S H (y_index S rfl rfl rfl Tryz.underlying22 Tryz.sizeOf61 (by omega) (by omega)) rfl rfl rfl fun a S=>?_
        refine r_y S H (y_loadAggAt [.int .u32 (((es.getD k e0).f:Nat):Int),.int .u32 (((es.getD k e0).t:Nat):Int),.int .u32 (((es.getD k e0).w:Nat):Int)] S rfl rfl (fun w=>⟨Tryz.isAgg61 w,Tryz.sizeOf61 w⟩) rfl (fun w H=>((ok.more _).more _).cells w H (ecells_from (i:=k) (by first | omega | (simp<;>omega))))) rfl rfl rfl fun a S=>?_
        refine r_lit (vs:=#[(0,.agg #[.int .u32 (((es.getD k e0).f:Nat):Int),.int .u32 (((es.getD k e0).t:Nat):Int),.int .u32 (((es.getD k e0).w:Nat):Int)])]) (cs:=ecells [(es.getD k e0)]) S H rfl rfl el22 (by kernel_rfl) (by decide) (by rfl) rfl rfl rfl fun a w b5 S H=>?_
        refine r_appendS (L':=fun A6 c7=>row 61 3 (.slice (some ⟨b5,0,none⟩) 1 1) 1 (ecells [(es.getD k e0)])::blk b1 (.cells #[.int .i64 n,.slice (some ⟨b3,o4,none⟩) es.length c] 24)::row 61 3 (.slice A6 ((Sh.mine n s i (es.take k)).length+1) c7) ((Sh.mine n s i (es.take k)).length+1) (ecells ((Sh.mine n s i (es.take k))++([(es.getD k e0)])))::fr) (xs':=ecells ((Sh.mine n s i (es.take k))++([(es.getD k e0)]))) 2 S H rfl rfl rfl rfl el22 (SlOk.ofRow (i:=0) H rfl) (one_ecells _) (by simp only [maxLen];first | omega | (simp<;>omega)) (by first | omega | (simp<;>omega)) (ecells_app (Sh.mine n s i (es.take k)) ([(es.getD k e0)])) (by first | omega | (simp<;>omega)) (fun _ _=>rfl) rfl rfl rfl fun a w A6 c7 hA6 S H=>?_
        refine rn 1 S H t0 fun a w S H=>?_
        refine r_nil ?_
        refine x_blockEnd ?_
        refine x_then ?_
        refine er 3 S H (by omega) fun a w S H=>?_
        refine x_then ?_
        have e:(Sh.mine n s i (es.take (k+1)))=(Sh.mine n s i (es.take k))++[es.getD k e0]:=Sh.mine_yes (by omega) (by omega)
        have el:(Sh.mine n s i (es.take (k+1))).length=(Sh.mine n s i (es.take k)).length+1:=by rw [e];simp
        have H:=pk [1,2] 3 H
        rw [<-e,<-el] at H
        exact ⟨(k+1,A6,c7),⟨S.sub ⟨rfl,rfl,rfl,rfl,(by rw [el];rfl),rfl,rfl,trivial⟩,H,(by omega)⟩,by show es.length - (k+1) < es.length - k;omega⟩
      refine wp_skip ?_
      refine x_blockEnd ?_
      refine x_then ?_
      refine er 3 S H (by omega) fun a w S H=>?_
      refine x_then ?_
      have e:(Sh.mine n s i (es.take (k+1)))=(Sh.mine n s i (es.take k)):=Sh.mine_no (by omega) (by omega)
      have H:=H
      exact ⟨(k+1,Ao,co),⟨S.sub ⟨rfl,rfl,rfl,rfl,(by rw [e];rfl),rfl,rfl,trivial⟩,(by rw [e];exact H),(by omega)⟩,by show es.length - (k+1) < es.length - k;omega⟩
  refine wp_exit ?_
  refine x_thenExit ?_
  refine x_thenExit ?_
  refine x_blockHere ?_
  refine x_then ?_
  refine sb ?_
  refine rn 1 S H t0 fun a w S H=>?_
  refine r_call (args:=#[.slice Ao ((Sh.mine n s i (es.take k)).length) co]) S rfl rfl Tryz.call55 (sort12_ct (H:=H) _ _ Ao co (Sh.mine n s i (es.take k)) (SlOk.ofRow (i:=1) H rfl) (((hes.take k).mine n s i)) (by omega)) rfl rfl rfl fun v a w hR S=>?_
  obtain ⟨A8,c9,rfl,H⟩:=hR
  refine rs 1 S H t0 fun a w S H=>?_
  refine wp_ret ?_
  refine r_ret1 S H Tryz.results29 (ro_tmp S rfl) ?_
  have e:Sh.esort Sh.pack (Sh.mine n s i (es.take k))=(Sh.edgesOf n s es i):=by rw [List.take_of_length_le (by omega),Sh.edges_sort hes]
  have en:(Sh.mine n s i (es.take k)).length=(Sh.edgesOf n s es i).length:=by rw [<-e,Sh.esort_len]
  have H:=pk [0] 3 H
  rw [e,en] at H
  rw [en]
  exact ⟨_,_,rfl,H⟩

theorem ewin_ct (w:World) (fr:List Res) (n:Int) (A:Option Addr) (c:Nat) (es:List E) (ok:SlOk fr 3 A es.length c (ecells es)) (hes:Sh.E32 es) (hn:es.length<=1048576) (s:Int) (j:Nat) (hp:Oc.part n s=true) (hg:Tr.graph n es=true) (H:Sat w (fr)):
    Rt Tryz.prog 30 #[.agg #[.int .i64 n,.slice A es.length c],.int .i64 s,.int .i64 ((j:Nat):Int)] w fun v w'=>∃A' c',v=.slice A' (Sh.winOf n s es j).length c'/\Sat w' (row 61 3 (.slice A' (Sh.winOf n s es j).length c') (Sh.winOf n s es j).length (ecells (Sh.winOf n s es j))::fr):=by
  refine en3 Tryz.func30 rfl Tryz.ntmps30 rfl fun a S=>?_
  have hcap:=ok.le
  have hmax:c<=9223372036854775807:=ok.cap
  have hpl:=Sh.part_le hp
  obtain ⟨S0,rfl⟩:=Int.eq_ofNat_of_zero_le (show 0<=s by omega)
  refine sb ?_
  refine r_box (c:=#[.int .i64 n,.slice A es.length c]) S H rfl rfl rfl rfl rfl rfl fun a w b1 S H=>?_
  refine rs 1 S H t0 fun a w S H=>?_
  refine sb ?_
  refine r_lit (vs:=#[]) (cs:=ecells []) S H rfl rfl el22 (by kernel_rfl) (by decide) (by rfl) rfl rfl rfl fun a w b2 S H=>?_
  refine rs 1 S H t0 fun a w S H=>?_
  refine r_seq ?_
  refine sr 1 S H t0 fun a w S H=>?_
  refine r_block ?_
  refine r_loop (ι:=Nat×Option Addr×Nat) (fun ⟨i,Ao,co⟩ a w=>Slots a 47 [(1,.int .i64 ((S0:Nat):Int)),(2,.int .i64 ((j:Nat):Int)),(3,.pointer (some ⟨b1,0,none⟩)),(6,.slice none 0 0),(7,.slice Ao ((Sh.wpart n S0 es j i 0).length) co),(8,.int .i64 ((i:Nat):Int)),(47,undef)]/\Sat w (blk b1 (.cells #[.int .i64 n,.slice A es.length c] 24)::row 61 3 (.slice Ao ((Sh.wpart n S0 es j i 0).length) co) ((Sh.wpart n S0 es j i 0).length) (ecells (Sh.wpart n S0 es j i 0))::fr)/\(i<=S0)) (fun ⟨i,Ao,co⟩=>S0 - i) (0,(some ⟨b2,0,none⟩),0) ⟨S.sub ⟨rfl,rfl,rfl,rfl,(by rw [Sh.wpart_zero];rfl),rfl,rfl,trivial⟩,(by rw [Sh.wpart_zero];exact pk [1,0] 2 H),(Nat.zero_le _)⟩ (fun ⟨i,Ao,co⟩ a w hI=>?_)
  obtain ⟨S,H,hI⟩:=hI
  have his:=hI
  have hlw:=Sh.wpart_le hes hn (n:=n) (s:=S0) (j:=j) (i:=i) (k:=0)
  refine r_seq ?_
  refine sr 3 S H t0 fun a w S H=>?_
  refine r_test S rfl (fun h14=>?_) (fun h14=>?_)
  · skip
    refine wp_skip ?_
    refine x_then ?_
    refine r_seq ?_
    refine r_block ?_
    refine sb ?_
    refine rn 3 S H t0 fun a w S H=>?_
    refine r_call (args:=#[.agg #[.int .i64 n,.slice A es.length c],.int .i64 ((S0:Nat):Int),.int .i64 ((i:Nat):Int)]) S rfl rfl Tryz.call29 (eshard_ct (H:=H) _ _ n A c es (ok.via fun _ H=>H.drop.drop) hes (by omega) ((S0:Nat):Int) i hp hg) rfl rfl rfl fun v a w hR S=>?_
    obtain ⟨A3,c4,rfl,H⟩:=hR
    refine rs 1 S H t0 fun a w S H=>?_
    refine sr 1 S H t0 fun a w S H=>?_
    refine r_block ?_
    refine r_loop (ι:=Nat×Option Addr×Nat) (fun ⟨k,Ap,cp⟩ a w=>Slots a 47 [(1,.int .i64 ((S0:Nat):Int)),(2,.int .i64 ((j:Nat):Int)),(3,.pointer (some ⟨b1,0,none⟩)),(6,.slice none 0 0),(7,.slice Ap ((Sh.wpart n S0 es j i k).length) cp),(8,.int .i64 ((i:Nat):Int)),(9,.slice A3 ((Sh.edgesOf n ((S0:Nat):Int) es i).length) c4),(10,.int .i64 ((k:Nat):Int)),(12,.int .i64 ((i:Nat):Int)),(13,.int .i64 ((S0:Nat):Int)),(14,.bool (decide (((i:Nat):Int) < ((S0:Nat):Int)))),(17,.agg #[.int .i64 n,.slice A es.length c]),(18,.int .i64 ((S0:Nat):Int)),(19,.int .i64 ((i:Nat):Int)),(20,.slice A3 ((Sh.edgesOf n ((S0:Nat):Int) es i).length) c4),(47,undef)]/\Sat w (blk b1 (.cells #[.int .i64 n,.slice A es.length c] 24)::row 61 3 (.slice Ap ((Sh.wpart n S0 es j i k).length) cp) ((Sh.wpart n S0 es j i k).length) (ecells (Sh.wpart n S0 es j i k))::row 61 3 (.slice A3 ((Sh.edgesOf n ((S0:Nat):Int) es i).length) c4) ((Sh.edgesOf n ((S0:Nat):Int) es i).length) (ecells (Sh.edgesOf n ((S0:Nat):Int) es i))::fr)/\(k<=(Sh.edgesOf n S0 es i).length)) (fun ⟨k,Ap,cp⟩=>(Sh.edgesOf n S0 es i).length - k) (0,Ao,co) ⟨S.sub ⟨rfl,rfl,rfl,rfl,rfl,rfl,rfl,rfl,rfl,rfl,rfl,rfl,rfl,rfl,rfl,rfl,trivial⟩,pk [1,2,0] 3 H,(Nat.zero_le _)⟩ (fun ⟨k,Ap,cp⟩ a w hI=>?_)
    obtain ⟨S,H,hI⟩:=hI
    have hkl:=hI
    have hel:=Sh.edges_le (n:=n) (s:=S0) hes i
    have hlw:=Sh.wpart_le hes hn (n:=n) (s:=S0) (j:=j) (i:=i) (k:=k)
    refine r_seq ?_
    refine sr 4 S H t0 fun a w S H=>?_
    refine r_test S rfl (fun h24=>?_) (fun h24=>?_)
    · skip
      refine wp_skip ?_
      refine x_then ?_
      refine r_seq ?_
      refine r_block ?_
      obtain ⟨b5,rfl⟩:=H.rowAt (i:=2) rfl (by omega)
      have hgx:=Sh.edges_lt (s:=S0) hes hg (i:=i) (k:=k) (by omega)
      have hex:=(Sh.edges_32 (n:=n) (s:=S0) hes i).at (i:=k) (by omega)
      apply qb H rfl (by kernel_rfl)
      · skip
        refine qn 5 S t0 fun a S=>?_
        refine q_y S (y_index S rfl rfl rfl Tryz.underlying22 Tryz.sizeOf61 (by omega) (by omega)) rfl rfl rfl fun a S=>?_
        refine qn 1 S t0 fun a S=>?_
        refine q_y S (y_loadAt S rfl rfl Tryz.isAgg59 (fun w H=>(SlOk.ofRow (i:=2) H rfl).cell w H (ecells_f (i:=k) (by omega)))) rfl rfl rfl fun a S=>?_
        refine qn 1 S (by omega) fun a S=>?_
        refine q_call (args:=#[.int .i64 n,.int .i64 ((S0:Nat):Int),.int .i64 ((((Sh.edgesOf n ((S0:Nat):Int) es i).getD k e0).f:Nat):Int)]) S rfl rfl Tryz.call54 (fun w H=>rof_ct (H:=H) _ _ n ((S0:Nat):Int) ((((Sh.edgesOf n ((S0:Nat):Int) es i).getD k e0).f:Nat):Int) hp (by omega) (by omega)) rfl rfl rfl fun a S=>?_
        refine qn 2 S t0 fun a S=>?_
        exact q_nil S
      · intro a w S H
        refine r_test S rfl (fun h38=>?_) (fun h38=>?_)
        · skip
          refine r_region ?_
          refine rn 3 S H t0 fun a w S H=>?_
          refine r_y S H (y_index S rfl rfl rfl Tryz.underlying22 Tryz.sizeOf61 (by omega) (by omega)) rfl rfl rfl fun a S=>?_
          refine r_y S H (y_loadAggAt [.int .u32 ((((Sh.edgesOf n ((S0:Nat):Int) es i).getD k e0).f:Nat):Int),.int .u32 ((((Sh.edgesOf n ((S0:Nat):Int) es i).getD k e0).t:Nat):Int),.int .u32 ((((Sh.edgesOf n ((S0:Nat):Int) es i).getD k e0).w:Nat):Int)] S rfl rfl (fun w=>⟨Tryz.isAgg61 w,Tryz.sizeOf61 w⟩) rfl (fun w H=>(SlOk.ofRow (i:=2) H rfl).cells w H (ecells_from (i:=k) (by first | omega | (simp<;>omega))))) rfl rfl rfl fun a S=>?_
          refine r_lit (vs:=#[(0,.agg #[.int .u32 ((((Sh.edgesOf n ((S0:Nat):Int) es i).getD k e0).f:Nat):Int),.int .u32 ((((Sh.edgesOf n ((S0:Nat):Int) es i).getD k e0).t:Nat):Int),.int .u32 ((((Sh.edgesOf n ((S0:Nat):Int) es i).getD k e0).w:Nat):Int)])]) (cs:=ecells [((Sh.edgesOf n ((S0:Nat):Int) es i).getD k e0)]) S H rfl rfl el22 (by kernel_rfl) (by decide) (by rfl) rfl rfl rfl fun a w b6 S H=>?_
          refine r_appendS (L':=fun A7 c8=>row 61 3 (.slice (some ⟨b6,0,none⟩) 1 1) 1 (ecells [((Sh.edgesOf n ((S0:Nat):Int) es i).getD k e0)])::blk b1 (.cells #[.int .i64 n,.slice A es.length c] 24)::row 61 3 (.slice A7 ((Sh.wpart n S0 es j i k).length+1) c8) ((Sh.wpart n S0 es j i k).length+1) (ecells ((Sh.wpart n S0 es j i k)++([((Sh.edgesOf n ((S0:Nat):Int) es i).getD k e0)])))::row 61 3 (.slice (some ⟨b5,0,none⟩) ((Sh.edgesOf n ((S0:Nat):Int) es i).length) c4) ((Sh.edgesOf n ((S0:Nat):Int) es i).length) (ecells (Sh.edgesOf n ((S0:Nat):Int) es i))::fr) (xs':=ecells ((Sh.wpart n S0 es j i k)++([((Sh.edgesOf n ((S0:Nat):Int) es i).getD k e0)]))) 2 S H rfl rfl rfl rfl el22 (SlOk.ofRow (i:=0) H rfl) (one_ecells _) (by simp only [maxLen];first | omega | (simp<;>omega)) (by first | omega | (simp<;>omega)) (ecells_app (Sh.wpart n S0 es j i k) ([((Sh.edgesOf n ((S0:Nat):Int) es i).getD k e0)])) (by first | omega | (simp<;>omega)) (fun _ _=>rfl) rfl rfl rfl fun a w A7 c8 hA7 S H=>?_
          refine rn 1 S H t0 fun a w S H=>?_
          refine r_nil ?_
          refine x_blockEnd ?_
          refine x_then ?_
          refine er 3 S H (by omega) fun a w S H=>?_
          refine x_then ?_
          have e:(Sh.wpart n S0 es j i (k+1))=(Sh.wpart n S0 es j i k)++[(Sh.edgesOf n S0 es i).getD k e0]:=Sh.wpart_yes (by omega) (by omega)
          have el:(Sh.wpart n S0 es j i (k+1)).length=(Sh.wpart n S0 es j i k).length+1:=by rw [e];simp
          have H:=pk [1,2,3] 4 H
          rw [<-e,<-el] at H
          exact ⟨(k+1,A7,c8),⟨S.sub ⟨rfl,rfl,rfl,rfl,(by rw [el];rfl),rfl,rfl,rfl,rfl,rfl,rfl,rfl,rfl,rfl,rfl,rfl,trivial⟩,H,(by omega)⟩,by show (Sh.edgesOf n S0 es i).length - (k+1) < (Sh.edgesOf n S0 es i).length - k;omega⟩
        refine wp_skip ?_
        refine x_blockEnd ?_
        refine x_then ?_
        refine er 3 S H (by omega) fun a w S H=>?_
        refine x_then ?_
        have e:(Sh.wpart n S0 es j i (k+1))=(Sh.wpart n S0 es j i k):=Sh.wpart_no (by omega) (by omega)
        have H:=H
        exact ⟨(k+1,Ap,cp),⟨S.sub ⟨rfl,rfl,rfl,rfl,(by rw [e];rfl),rfl,rfl,rfl,rfl,rfl,rfl,rfl,rfl,rfl,rfl,rfl,trivial⟩,(by rw [e];exact H),(by omega)⟩,by show (Sh.edgesOf n S0 es i).length - (k+1) < (Sh.edgesOf n S0 es i).length - k;omega⟩
    refine wp_exit ?_
    refine x_thenExit ?_
    refine x_thenExit ?_
    refine x_blockHere ?_
    refine x_blockEnd ?_
    refine x_then ?_
    refine er 3 S H (by omega) fun a w S H=>?_
    refine x_then ?_
    have e:(Sh.wpart n S0 es j (i+1) 0)=(Sh.wpart n S0 es j i k):=Sh.wpart_next (by omega)
    have H:=pk [0,1] 3 H
    exact ⟨(i+1,Ap,cp),⟨S.sub ⟨rfl,rfl,rfl,rfl,(by rw [e];rfl),rfl,rfl,trivial⟩,(by rw [e];exact H),(by omega)⟩,by show S0 - (i+1) < S0 - i;omega⟩
  refine wp_exit ?_
  refine x_thenExit ?_
  refine x_thenExit ?_
  refine x_blockHere ?_
  refine x_then ?_
  refine sr 2 S H t0 fun a w S H=>?_
  refine wp_ret ?_
  refine r_ret1 S H Tryz.results30 (ro_tmp S rfl) ?_
  have e:(Sh.wpart n S0 es j i 0)=(Sh.winOf n S0 es j):=Sh.wpart_all (by omega)
  have H:=pk [1] 2 H
  rw [e] at H ⊢
  exact ⟨_,_,rfl,H⟩

end Go.Proofs.YtoffbmhmocfmnaaGreatDoor
namespace Go.Proofs.YtoffbmhmocfmnaaGreatDoor
open Go.RowKit Go.Cg
set_option linter.unusedVariables false
set_option linter.unusedSimpArgs false
set_option maxRecDepth 8000
set_option synthInstance.maxHeartbeats 1000000
set_option synthInstance.maxSize 1000000
open Go.Cg.Dk (By Nm)
open Go.Cg.Rn (R Bd)
open Go.Cg.Tr (E)
open Go.Cg.Sh (Cur Sw)
theorem maskL {P:Program} {t:TypeId} (k:Nat) (N M:Int) (hN:N=((2 ^ k:Nat):Int)) (hM:(BitVec.ofInt 64 M).toNat=2 ^ k - 1) (hk:k<=62) (n:Int) (w:World):(binOp .and t (.int .i64 n) (.int .i64 M)).run P w=.ok (.int .i64 (n%N)) w:=by
  have hp:2 ^ k<=2 ^ 62:=Nat.pow_le_pow_right (by omega) hk
  have h1:0 < 2 ^ k:=Nat.two_pow_pos k
  have hd:(2 ^ k:Nat) ∣ 2 ^ 64:=Nat.pow_dvd_pow 2 (by omega)
  have key:(BitVec.ofInt 64 n&&& BitVec.ofInt 64 M).toNat=(n%((2 ^ 64:Nat):Int)).toNat%2 ^ k:=by
    rw [BitVec.toNat_and,BitVec.toNat_ofInt,hM,Nat.and_two_pow_sub_one_eq_mod]
  generalize 2 ^ k=K at *
  subst hN
  have h:bits .and .i64 n M=n%(K:Int):=by
    show IntKind.i64.wrap ((BitVec.ofInt 64 n&&& BitVec.ofInt 64 M).toNat:Nat)=n%(K:Int)
    rw [key]
    have h0:0<=n%((2 ^ 64:Nat):Int):=Int.emod_nonneg _ (by decide)
    have e:(((n%((2 ^ 64:Nat):Int)).toNat%K:Nat):Int)=n%(K:Int):=by
      rw [Int.natCast_emod,Int.toNat_of_nonneg h0]
      exact Int.emod_emod_of_dvd n (Int.ofNat_dvd.2 hd)
    rw [e]
    have a1:0<=n%(K:Int):=Int.emod_nonneg _ (by omega)
    have a2:n%(K:Int) < K:=Int.emod_lt_of_pos _ (by omega)
    rw [IntKind.wrap_i64]
    omega
  rw [binOp_and,intBits_and,h,Sem.run_pure]
theorem shown_ct (w:World) (fr:List Res) (hl:Laid fr) (H:Sat w (fr)):
    Rt Tryz.prog 10 #[] w fun v w'=>v=.bool true/\Sat w' fr:=by
  refine en0 Tryz.func10 rfl Tryz.ntmps10 rfl fun a S=>?_
  obtain ⟨d1,d2,d3,d4,d5,d6,w0,w1,w2,e1,e2,e3,e4,e5,e6,e7,k1,k2,k3,k4,k5,k6⟩:=Sh.shown_plan
  refine sr 1 S H t0 fun a w S H=>?_
  refine sb ?_
  refine r_call (args:=#[.int .i64 100]) S rfl rfl Tryz.call12 (new_ct (H:=H) _ _ 100 (by omega)) rfl rfl rfl fun v a w hR S=>?_
  obtain ⟨db2,rfl,H⟩:=hR
  refine rs 1 S H t0 fun a w S H=>?_
  refine r_seq ?_
  refine sr 2 S H t0 fun a w S H=>?_
  refine r_condF S rfl ?_
  refine wp_skip ?_
  refine x_then ?_
  refine sb ?_
  refine rn 1 S H t0 fun a w S H=>?_
  refine r_y S H (y_build (vs:=#[(0,.int .u32 1),(1,.int .u32 0),(2,.int .u32 3)]) (v:=.agg #[.int .u32 1,.int .u32 0,.int .u32 3]) S rfl rfl (fun w=>by kernel_rfl)) rfl rfl rfl fun a S=>?_
  refine r_lit (vs:=#[(0,.agg #[.int .u32 1,.int .u32 0,.int .u32 3])]) (cs:=ecells [⟨1,0,3⟩]) S H rfl rfl el22 (by kernel_rfl) (by decide) (by rfl) rfl rfl rfl fun a w b3 S H=>?_
  refine r_y S H (y_build (vs:=#[(0,.int .i64 2),(1,.slice (some ⟨b3,0,none⟩) 1 1)]) (v:=.agg #[.int .i64 2,.slice (some ⟨b3,0,none⟩) 1 1]) S rfl rfl (fun w=>by kernel_rfl)) rfl rfl rfl fun a S=>?_
  have HI_okg:=Sat.only (pk [0] 2 H)
  have okg:=SlOk.ofRow (i:=0) HI_okg rfl
  refine r_call (args:=#[.pointer (some ⟨db2,0,none⟩),.agg #[.int .i64 2,.slice (some ⟨b3,0,none⟩) 1 1],.int .i64 2,.int .i64 5]) S rfl rfl Tryz.call13 (build_ct (H:=(pk [1,0] 2 H)) _ _ (hl.via fun _ H=>H.drop) db2 2 (some ⟨b3,0,none⟩) 1 ([⟨1,0,3⟩]) (okg.via fun _ H=>Sat.only (pk [0] 1 H)) (by intro e he;rw [List.mem_singleton.1 he];decide) 2 5 (Dk.fresh 100) (by show 0<=_;omega) (by omega)) rfl rfl rfl fun v a w hR S=>?_
  obtain ⟨rfl,H,hcB⟩:=hR
  rw [e1] at S H
  dsimp only at S H
  refine rs 1 S H t0 fun a w S H=>?_
  refine sb ?_
  refine rn 1 S H t0 fun a w S H=>?_
  refine r_call (args:=#[.pointer (some ⟨db2,0,none⟩),.int .i64 0]) S rfl rfl Tryz.call16 (shread_ct (H:=H) _ _ (hl.via fun _ H=>H.drop) db2 0 d1 (by omega) (by omega)) rfl rfl rfl fun v a w hR S=>?_
  obtain ⟨A4,c5,rfl,H⟩:=hR
  rw [e2] at S H
  dsimp only at S H
  simp only [List.length_nil,List.length_cons,Nat.zero_add] at S H
  refine rs 5 S H t0 fun a w S H=>?_
  refine sb ?_
  refine rn 1 S H t0 fun a w S H=>?_
  refine r_call (args:=#[.pointer (some ⟨db2,0,none⟩),.int .i64 1]) S rfl rfl Tryz.call16 (shread_ct (H:=(pk [1,0,2] 3 H)) _ _ (hl.via fun _ H=>H.drop.drop) db2 1 d2 (by omega) (by omega)) rfl rfl rfl fun v a w hR S=>?_
  obtain ⟨A6,c7,rfl,H⟩:=hR
  rw [e3] at S H
  dsimp only at S H
  simp only [List.length_nil,List.length_cons,Nat.zero_add] at S H
  refine rs 5 S H t0 fun a w S H=>?_
  refine sb ?_
  refine rn 1 S H t0 fun a w S H=>?_
  refine r_call (args:=#[.pointer (some ⟨db2,0,none⟩),.int .i64 2,.int .i64 2]) S rfl rfl Tryz.call14 (newsweep_ct (H:=(pk [1,0,2,3] 4 H)) _ _ (hl.via fun _ H=>H.drop.drop.drop) db2 2 2 d3 (by omega)) rfl rfl rfl fun v a w hR S=>?_
  obtain ⟨z8,rfl,H⟩:=hR
  rw [e4] at S H
  replace H:Sat _ (swR db2 z8 w0::diskR db2 d4::row 61 3 (.slice A6 (0) c7) (0) (ecells ([]))::row 61 3 (.slice A4 (1) c5) (1) (ecells ([⟨1,0,3⟩]))::row 61 3 (.slice (some ⟨b3,0,none⟩) 1 1) 1 (ecells [⟨1,0,3⟩])::fr):=H
  have S:=S.retell (v':=.tuple #[.pointer (some ⟨z8,0,none⟩),.int .i64 0]) 38 rfl rfl
  refine rs 5 S H t0 fun a w S H=>?_
  refine r_seq ?_
  refine sr 2 S H t0 fun a w S H=>?_
  refine r_condF S rfl ?_
  refine wp_skip ?_
  refine x_then ?_
  refine sb ?_
  refine rn 1 S H t0 fun a w S H=>?_
  refine r_call (args:=#[.pointer (some ⟨z8,0,none⟩)]) S rfl rfl Tryz.call15 (snext_ct (H:=H) _ _ db2 z8 w0 d4 (by omega)) rfl rfl rfl fun v a w hR S=>?_
  obtain ⟨A9,c10,rfl,H⟩:=hR
  rw [e5] at S H
  dsimp only at S H
  simp only [List.length_nil,List.length_cons,Nat.zero_add] at S H
  refine rs 7 S H t0 fun a w S H=>?_
  refine sb ?_
  refine rn 1 S H t0 fun a w S H=>?_
  refine r_call (args:=#[.pointer (some ⟨z8,0,none⟩)]) S rfl rfl Tryz.call15 (snext_ct (H:=(pk [1,2,0,3,4,5] 6 H)) _ _ db2 z8 w1 d5 (by omega)) rfl rfl rfl fun v a w hR S=>?_
  obtain ⟨A11,c12,rfl,H⟩:=hR
  rw [e6] at S H
  dsimp only at S H
  simp only [List.length_nil,List.length_cons,Nat.zero_add] at S H
  refine rs 7 S H t0 fun a w S H=>?_
  refine sb ?_
  refine rn 1 S H t0 fun a w S H=>?_
  refine r_call (args:=#[.pointer (some ⟨z8,0,none⟩)]) S rfl rfl Tryz.call15 (snext_ct (H:=(pk [1,2,0,3,4,5,6] 7 H)) _ _ db2 z8 w2 d6 (by omega)) rfl rfl rfl fun v a w hR S=>?_
  obtain ⟨A13,c14,rfl,H⟩:=hR
  rw [e7] at S H
  dsimp only at S H
  simp only [List.length_nil,List.length_cons,Nat.zero_add] at S H
  refine rs 7 S H t0 fun a w S H=>?_
  obtain ⟨b15,ea⟩:=H.rowAt (i:=6) rfl (by decide)
  subst ea
  refine sb ?_
  try dsimp only [List.append]
  refine rn 2 S H t0 fun a w S H=>?_
  have S:=S.retell (v':=.bool true) 62 rfl rfl
  refine rn 3 S H t0 fun a w S H=>?_
  have S:=S.retell (v':=.bool true) 65 rfl rfl
  refine rn 5 S H t0 fun a w S H=>?_
  have S:=S.retell (v':=.bool true) 70 rfl rfl
  refine rn 3 S H t0 fun a w S H=>?_
  refine r_y S H (y_index S rfl rfl rfl Tryz.underlying22 Tryz.sizeOf61 (by omega) (by omega)) rfl rfl rfl fun a S=>?_
  refine rn 1 S H t0 fun a w S H=>?_
  refine r_y S H (y_loadAt S rfl rfl Tryz.isAgg59 (fun w H=>(SlOk.ofRow (i:=6) H rfl).cell w H (ecells_w (i:=0) (by decide)))) rfl rfl rfl fun a S=>?_
  have S:=S.retell (v':=.int .u32 3) 76 rfl rfl
  refine rn 1 S H t0 fun a w S H=>?_
  have S:=S.retell (v':=.bool true) 77 rfl rfl
  refine rn 4 S H t0 fun a w S H=>?_
  have S:=S.retell (v':=.bool true) 81 rfl rfl
  refine rn 5 S H t0 fun a w S H=>?_
  have S:=S.retell (v':=.bool true) 86 rfl rfl
  refine rn 4 S H t0 fun a w S H=>?_
  have S:=S.retell (v':=.bool true) 90 rfl rfl
  refine rn 5 S H t0 fun a w S H=>?_
  have S:=S.retell (v':=.bool true) 95 rfl rfl
  refine rn 7 S H t0 fun a w S H=>?_
  have S:=S.retell (v':=.bool true) 102 rfl rfl
  refine rn 5 S H t0 fun a w S H=>?_
  have S:=S.retell (v':=.bool true) 107 rfl rfl
  refine rn 7 S H t0 fun a w S H=>?_
  have S:=S.retell (v':=.bool true) 114 rfl rfl
  refine rn 8 S H t0 fun a w S H=>?_
  have S:=S.retell (v':=.bool true) 122 rfl rfl
  refine rn 2 S H t0 fun a w S H=>?_
  refine r_call (args:=#[.int .i64 7]) S rfl rfl Tryz.call19 (shname_ct (H:=H) _ _ (hl.via fun _ H=>H.drop.drop.drop.drop.drop.drop.drop.drop) 7 (by omega)) rfl rfl rfl fun v a w hR S=>?_
  obtain ⟨rfl,H⟩:=hR
  refine rn 1 S H t0 fun a w S H=>?_
  have S:=S.retell (v':=.bool true) 126 rfl (by rw [Sh.sname_7];rfl)
  refine rs 2 S H t0 fun a w S H=>?_
  refine wp_ret ?_
  refine r_ret1 S H Tryz.results10 (ro_tmp S rfl) ?_
  exact ⟨rfl,H.drop.drop.drop.drop.drop.drop.drop.drop⟩

end Go.Proofs.YtoffbmhmocfmnaaGreatDoor
namespace Go.Proofs.YtoffbmhmocfmnaaGreatDoor
open Go.RowKit Go.Cg
set_option linter.unusedVariables false
set_option linter.unusedSimpArgs false
set_option maxRecDepth 8000
set_option synthInstance.maxHeartbeats 1000000
set_option synthInstance.maxSize 1000000
open Go.Cg.Dk (By Nm)
open Go.Cg.Rn (R Bd)
open Go.Cg.Tr (E)
open Go.Cg.Sh (Cur Sw)
theorem okNil (L:List Res):SlOk L 1 none 0 0 []:=⟨fun _=>rfl,Nat.le_refl _,Nat.zero_le _,rfl,Rd.nil _ _⟩
end Go.Proofs.YtoffbmhmocfmnaaGreatDoor
