/- Walks of functions of the program, over slots and resources. No condition. -/
import Derived.Test.YtoffbmhmocfmnaaGreatDoorKVax
import Derived.Test.YtoffbmhmocfmnaaGreatDoorKVar
namespace Go.Proofs.YtoffbmhmocfmnaaGreatDoor
open Go.RowKit Go.Cg
set_option linter.unusedVariables false
set_option linter.unusedSimpArgs false
set_option maxRecDepth 8000
set_option synthInstance.maxHeartbeats 1000000
set_option synthInstance.maxSize 1000000
open Go.Cg.Dk (By Nm)
open Go.Cg.Rn (R Bd)
open Go.Cg.Tr (E)
open Go.Cg.Sh (Cur Sw)
theorem law_errors (w:World) (fr:List Res) (hl:Laid fr) (n:Int) (A:Option Addr) (c:Nat) (es:List E) (ok:SlOk fr 3 A es.length c (ecells es)) (hes:Sh.E32 es) (a1 a2 a3:Int) (b2:a2<=9223372036854775807) (H:Sat w (fr)):
    Rt Tryz.prog 6 #[.agg #[.int .i64 n,.slice A es.length c],.int .i64 a1,.int .i64 a2,.int .i64 a3] w fun v w'=>v=.bool true/\Sat w' fr:=by
  refine en4 Tryz.func6 rfl Tryz.ntmps6 rfl fun a S=>?_
  have hcap:=ok.le
  have hmax:c<=9223372036854775807:=ok.cap
  refine sb ?_
  refine r_box (c:=#[.int .i64 n,.slice A es.length c]) S H rfl rfl rfl rfl rfl rfl fun a w b1 S H=>?_
  refine rs 1 S H t0 fun a w S H=>?_
  refine sb ?_
  refine r_call (args:=#[]) S rfl rfl Tryz.call10 (shown_ct (H:=H) _ _ (hl.via fun _ H=>H.drop)) rfl rfl rfl fun v a w hR S=>?_
  obtain ⟨rfl,H⟩:=hR
  refine rs 1 S H t0 fun a w S H=>?_
  refine r_seq ?_
  refine wp_via (J:=fun a w=>∃A3:Option Addr,∃c4:Nat,∃b5:Nat,Slots a 144 [(1,.int .i64 a1),(2,.int .i64 a2),(3,.int .i64 a3),(4,.pointer (some ⟨b1,0,none⟩)),(8,.bool false),(9,.bool true),(10,.pointer (some ⟨b5,0,none⟩)),(144,undef)]/\Sat w (blk b5 (.cells #[.int .i64 n,.slice A3 ((es.take (min es.length 40)).length) c4] 24)::row 61 3 (.slice A3 ((es.take (min es.length 40)).length) c4) ((es.take (min es.length 40)).length) (ecells (es.take (min es.length 40)))::blk b1 (.cells #[.int .i64 n,.slice A es.length c] 24)::fr)) ?_ (fun a w hm=>?_)
  · skip
    refine ha [0] 1 H fun w H HS=>?_
    refine tk 0 S HS fun a S=>?_
    refine tk 1 S HS fun a S=>?_
    refine tk 3 S HS fun a S=>?_
    refine tk 4 S HS fun a S=>?_
    refine tk 5 S HS fun a S=>?_
    refine tk 6 S HS fun a S=>?_
    refine tk 7 S HS fun a S=>?_
    refine tk 8 S HS fun a S=>?_
    refine tkY 9 S HS rfl (y_sliceH (k:=(min es.length 40)) S rfl rfl rfl Tryz.underlying22 Tryz.sizeOf61 (by first | omega | (simp<;>omega)) (by first | omega | (simp<;>omega))) rfl rfl rfl fun a S=>?_
    refine hmemo [true,true,true,true,true,true,true,true,true,true,false,false,true,false] 3 (fun a w=>∃b2:Nat,∃b6:Nat,Slots a 144 [(1,.int .i64 a1),(2,.int .i64 a2),(3,.int .i64 a3),(4,.pointer (some ⟨b1,0,none⟩)),(8,.bool false),(9,.bool true),(10,.pointer (some ⟨b6,0,none⟩)),(27,.int .i64 n),(28,.slice (some ⟨b2,0,none⟩) 0 0),(35,.slice (shift A 0 (decide (c=0))) (min es.length 40) c),(144,undef)]/\Sat w (blk b6 (.cells #[.int .i64 0,.slice none 0 0] 24)::row 61 3 (.slice (some ⟨b2,0,none⟩) 0 0) 0 (ecells [])::blk b1 (.cells #[.int .i64 n,.slice A es.length c] 24)::fr)) ?_ fun K0=>?_
    · rintro a w ⟨b2,b6,S,H⟩
      have HS:Sat w _:=pk [2] 3 H
      refine h1 10 ?_
      refine r_appendS (L':=fun A11 c12=>blk b6 (.cells #[.int .i64 0,.slice none 0 0] 24)::row 61 3 (.slice A11 ((es.take (min es.length 40)).length) c12) ((es.take (min es.length 40)).length) (ecells (es.take (min es.length 40)))::blk b1 (.cells #[.int .i64 n,.slice A es.length c] 24)::fr) (xs':=ecells (es.take (min es.length 40))) 1 S H rfl rfl rfl rfl el22 (ecells_take es (min es.length 40)▸(((ok.more _).more _).more _).init (min es.length 40) (by first | omega | (simp<;>omega))) (one_ecells _) (by simp only [maxLen];first | omega | (simp<;>omega)) (by first | omega | (simp<;>omega)) (List.nil_append _) (by first | omega | (simp<;>omega)) (fun _ _=>rfl) rfl rfl rfl fun a w A11 c12 hA11 S H=>?_
      refine sn ?_
      refine hk (pk [2] 3 H) fun HS=>?_
      refine tkY 11 S HS rfl (y_build (vs:=#[(0,.int .i64 n),(1,.slice A11 ((es.take (min es.length 40)).length) c12)]) (v:=.agg #[.int .i64 n,.slice A11 ((es.take (min es.length 40)).length) c12]) S rfl rfl (fun w=>by kernel_rfl)) rfl rfl rfl fun a S=>?_
      refine h1 13 ?_
      refine rs 1 S H t0 fun a w S H=>?_
      refine hk (pk [2] 3 H) fun HS=>?_
      refine hz ?_
      refine x_then ?_
      exact ⟨_,_,_,S.sub ⟨rfl,rfl,rfl,rfl,rfl,rfl,rfl,rfl,trivial⟩,H⟩
    refine h2 2 12 ?_ ?_
    · skip
      refine r_lit (vs:=#[]) (cs:=ecells []) S H rfl rfl el22 (by kernel_rfl) (by decide) (by rfl) rfl rfl rfl fun a w b13 S H=>?_
      refine sn ?_
      refine hk (pk [1] 2 H) fun HS=>?_
      refine h2 10 12 ?_ ?_
      · skip
        refine r_appendS (L':=fun A14 c15=>row 61 3 (.slice A14 ((es.take (min es.length 40)).length) c15) ((es.take (min es.length 40)).length) (ecells (es.take (min es.length 40)))::blk b1 (.cells #[.int .i64 n,.slice A es.length c] 24)::fr) (xs':=ecells (es.take (min es.length 40))) 0 S H rfl rfl rfl rfl el22 (ecells_take es (min es.length 40)▸((ok.more _).more _).init (min es.length 40) (by first | omega | (simp<;>omega))) (one_ecells _) (by simp only [maxLen];first | omega | (simp<;>omega)) (by first | omega | (simp<;>omega)) (List.nil_append _) (by first | omega | (simp<;>omega)) (fun _ _=>rfl) rfl rfl rfl fun a w A14 c15 hA14 S H=>?_
        refine sn ?_
        refine hk (pk [1] 2 H) fun HS=>?_
        refine tkY 11 S HS rfl (y_build (vs:=#[(0,.int .i64 n),(1,.slice A14 ((es.take (min es.length 40)).length) c15)]) (v:=.agg #[.int .i64 n,.slice A14 ((es.take (min es.length 40)).length) c15]) S rfl rfl (fun w=>by kernel_rfl)) rfl rfl rfl fun a S=>?_
        refine h1 12 ?_
        refine r_alloc S H rfl Tryz.zeroValue24 rfl rfl rfl rfl fun a w b16 S H=>?_
        replace H:Sat _ (blk b16 (.cells #[.int .i64 0,.slice none 0 0] 24)::row 61 3 (.slice A14 ((es.take (min es.length 40)).length) c15) ((es.take (min es.length 40)).length) (ecells (es.take (min es.length 40)))::blk b1 (.cells #[.int .i64 n,.slice A es.length c] 24)::fr):=H
        refine sn ?_
        refine hk (pk [2] 3 H) fun HS=>?_
        refine h1 13 ?_
        refine rs 1 S H t0 fun a w S H=>?_
        refine hk (pk [2] 3 H) fun HS=>?_
        refine hz ?_
        refine x_then ?_
        exact ⟨_,_,_,S.sub ⟨rfl,rfl,rfl,rfl,rfl,rfl,rfl,rfl,trivial⟩,H⟩
      · skip
        refine r_alloc S H rfl Tryz.zeroValue24 rfl rfl rfl rfl fun a w b17 S H=>?_
        replace H:Sat _ (blk b17 (.cells #[.int .i64 0,.slice none 0 0] 24)::row 61 3 (.slice (some ⟨b13,0,none⟩) 0 0) 0 (ecells [])::blk b1 (.cells #[.int .i64 n,.slice A es.length c] 24)::fr):=H
        refine sn ?_
        refine hk (pk [2] 3 H) fun HS=>?_
        exact K0 _ _ ⟨_,_,S.sub ⟨rfl,rfl,rfl,rfl,rfl,rfl,rfl,rfl,rfl,rfl,rfl,trivial⟩,H⟩
    · skip
      refine r_alloc S H rfl Tryz.zeroValue24 rfl rfl rfl rfl fun a w b18 S H=>?_
      replace H:Sat _ (blk b18 (.cells #[.int .i64 0,.slice none 0 0] 24)::blk b1 (.cells #[.int .i64 n,.slice A es.length c] 24)::fr):=H
      refine sn ?_
      refine hk (pk [1] 2 H) fun HS=>?_
      refine h1 2 ?_
      refine r_lit (vs:=#[]) (cs:=ecells []) S H rfl rfl el22 (by kernel_rfl) (by decide) (by rfl) rfl rfl rfl fun a w b19 S H=>?_
      refine sn ?_
      refine hk (pk [2] 3 H) fun HS=>?_
      exact K0 _ _ ⟨_,_,S.sub ⟨rfl,rfl,rfl,rfl,rfl,rfl,rfl,rfl,rfl,rfl,rfl,trivial⟩,pk [1,0,2] 3 H⟩
  obtain ⟨A3,c4,b5,S,H⟩:=hm
  refine x_then ?_
  refine sb ?_
  refine r_call (args:=#[.int .i64 10000]) S rfl rfl Tryz.call12 (new_ct (H:=H) _ _ 10000 (by omega)) rfl rfl rfl fun v a w hR S=>?_
  obtain ⟨db21,rfl,H⟩:=hR
  refine rs 1 S H t0 fun a w S H=>?_
  refine r_seq ?_
  refine sr 2 S H t0 fun a w S H=>?_
  refine r_condF S rfl ?_
  refine wp_skip ?_
  refine x_then ?_
  refine sb ?_
  refine rn 1 S H t0 fun a w S H=>?_
  refine r_call (args:=#[.agg #[.int .i64 n,.slice A3 ((es.take (min es.length 40)).length) c4]]) S rfl rfl Tryz.call22 (rgraph_ct (H:=H) _ _ n A3 c4 (es.take (min es.length 40)) (SlOk.ofRow (i:=2) H rfl) ((fun e he=>hes e (List.mem_of_mem_take he)))) rfl rfl rfl fun v a w hR S=>?_
  obtain ⟨rfl,H⟩:=hR
  refine rs 1 S H t0 fun a w S H=>?_
  refine sb ?_
  refine rn 2 S H t0 fun a w S H=>?_
  refine scA 1 S H (fun _=>t0) fun a w S H=>?_
  refine rn 1 S H t0 fun a w S H=>?_
  refine scA 1 S H (fun _=>t0) fun a w S H=>?_
  refine rn 1 S H t0 fun a w S H=>?_
  refine scA 1 S H (fun _=>t0) fun a w S H=>?_
  refine rs 1 S H t0 fun a w S H=>?_
  refine r_seq ?_
  refine sr 2 S H t0 fun a w S H=>?_
  refine r_cond S rfl (fun h57=>?_) (fun h57=>?_)
  · skip
    have hbad:Oc.part n a1=false\/Tr.graph n (es.take (min es.length 40))=false\/a2 < 1:=by
      by_cases hg1:Tr.graph n (es.take (min es.length 40))=true
      · rw [hg1] at h57
        by_cases hb:a2 < 1
        · exact .inr (.inr hb)
        · left;unfold Oc.part;rw [decide_eq_false_iff_not];intro hx;simp at h57;omega
      · exact .inr (.inl (by simpa using hg1))
    obtain ⟨dx,ex,lx,ix⟩:=Sh.errors12_bad hbad
    have HI_okc:=Sat.only (pk [2] 4 H)
    have okc:=SlOk.ofRow (i:=0) HI_okc rfl
    refine sb ?_
    refine rn 4 S H t0 fun a w S H=>?_
    refine r_call (args:=#[.pointer (some ⟨db21,0,none⟩),.agg #[.int .i64 n,.slice A3 ((es.take (min es.length 40)).length) c4],.int .i64 a1,.int .i64 a2]) S rfl rfl Tryz.call13 (build_ct (H:=H) _ _ (hl.via fun _ H=>H.drop.drop.drop) db21 n A3 c4 (es.take (min es.length 40)) (okc.via fun _ H=>Sat.only (pk [1] 3 H)) (fun e he=>hes e (List.mem_of_mem_take he)) a1 a2 (Dk.fresh 10000) (by show 0<=_;omega) (by omega)) rfl rfl rfl fun v a w hR S=>?_
    obtain ⟨rfl,H,hcB⟩:=hR
    rw [ex] at S H
    dsimp only at S H
    refine rs 1 S H t0 fun a w S H=>?_
    refine sb ?_
    refine rn 1 S H t0 fun a w S H=>?_
    refine r_call (args:=#[.pointer (some ⟨db21,0,none⟩)]) S rfl rfl Tryz.call23 (list_ct (H:=H) _ _ db21 (Dk.fresh 10000) (by show 0<=_;omega)) rfl rfl rfl fun v a w hR S=>?_
    obtain ⟨A22,c23,rfl,H⟩:=hR
    rw [lx] at S H
    dsimp only at S H
    simp only [List.length_nil] at S H
    refine rs 5 S H t0 fun a w S H=>?_
    refine sb ?_
    refine rn 2 S H t0 fun a w S H=>?_
    have S:=S.retell (v':=.bool false) 69 rfl rfl
    refine rn 3 S H t0 fun a w S H=>?_
    have S:=S.retell (v':=.bool false) 72 rfl rfl
    refine rn 5 S H t0 fun a w S H=>?_
    have S:=S.retell (v':=.bool false) 77 rfl rfl
    refine rs 1 S H t0 fun a w S H=>?_
    refine r_condF S rfl ?_
    refine wp_skip ?_
    refine x_then ?_
    have iD:Xs.Is dx 10000 []:=ix
    refine sb ?_
    refine rn 1 S H t0 fun a w S H=>?_
    refine r_call (args:=#[.agg #[.int .i64 n,.slice A es.length c]]) S rfl rfl Tryz.call11 (few_ct (H:=H) _ _ n A c es (((((ok.more _).more _).more _).more _).more _) (hes)) rfl rfl rfl fun v a w hR S=>?_
    obtain ⟨A28,c29,rfl,H⟩:=hR
    obtain ⟨f0,f60,fl,fg,fsub⟩:=Tr.few_facts (n:=n) (es:=es)
    have fe:Sh.E32 (Tr.few n es).2:=fun e he=>hes e (fsub e he)
    obtain ⟨gn,hgn⟩:∃y,y=(Tr.few n es).1:=⟨_,rfl⟩
    obtain ⟨gl,hgl⟩:∃y,y=(Tr.few n es).2:=⟨_,rfl⟩
    rw [<-hgl] at S H fl fg fe
    rw [<-hgn] at S f0 f60 fg
    have HI_okg:=Sat.only (pk [0] 6 H)
    have okg:=SlOk.ofRow (i:=0) HI_okg rfl
    refine rs 1 S H t0 fun a w S H=>?_
    refine sb ?_
    refine rn 1 S H t0 fun a w S H=>?_
    refine r_y S H (y_bitop S rfl rfl rfl (fun w=>maskL 2 4 3 (by decide) (by decide) (by decide) a3 w)) rfl rfl rfl fun a S=>?_
    obtain ⟨m,hm⟩:∃x:Nat,((x:Nat):Int)=a3%4:=⟨(a3%4).toNat,by omega⟩
    have S:=S.retell (v':=.int .i64 ((m:Nat):Int)) 82 rfl (by rw [hm])
    have hmb:m<=3:=by omega
    refine rs 1 S H t0 fun a w S H=>?_
    refine sb ?_
    refine rn 1 S H t0 fun a w S H=>?_
    refine r_call (args:=#[.int .i64 ((m:Nat):Int)]) S rfl rfl Tryz.call19 (shname_ct (H:=H) _ _ (hl.via fun _ H=>H.drop.drop.drop.drop.drop.drop) m (by omega)) rfl rfl rfl fun v a w hR S=>?_
    obtain ⟨rfl,H⟩:=hR
    have hp:Oc.part gn 4=true:=Sh.part_few f0 f60 (by decide) (by decide)
    obtain ⟨d1,d2,d3,d4,d5,e1,e2,e3,e4,e5,k0,k1,k2,k3,k4⟩:=Sh.errors12_plan iD fe hp fg fl (m:=m) (by omega)
    have e2x:Dk.Disk.append (Sh.sname m) ([UInt8.ofNat 120]) d1=(d2,0):=e2
    refine rs 1 S H t0 fun a w S H=>?_
    refine sb ?_
    refine rn 3 S H (by omega) fun a w S H=>?_
    rw [e1] at S H
    dsimp only at S H
    refine rs 1 S H t0 fun a w S H=>?_
    refine sb ?_
    refine rn 2 S H t0 fun a w S H=>?_
    refine r_lit (vs:=#[(0,.int .u8 120)]) (cs:=u8s [UInt8.ofNat 120]) S H rfl rfl el50 (by kernel_rfl) (by decide) (by rfl) rfl rfl rfl fun a w b30 S H=>?_
    refine r_convC (L':=rowC b30 5 (u8s ([UInt8.ofNat 120]))::row 61 3 (.slice A28 (gl.length) c29) (gl.length) (ecells (gl))::diskR db21 d1::row 9 1 (.slice A22 (0) c23) (0) (strs [])::blk b5 (.cells #[.int .i64 (gn),.slice A28 (gl.length) c29] 24)::row 61 3 (.slice A3 ((es.take (min es.length 40)).length) c4) ((es.take (min es.length 40)).length) (ecells (es.take (min es.length 40)))::blk b1 (.cells #[.int .i64 n,.slice A es.length c] 24)::fr) 0 S H rfl rfl rfl Tryz.underlying50 Tryz.underlying5 rfl rfl rfl rfl fun a w S H=>?_
    refine r_call (args:=#[.pointer (some ⟨db21,0,none⟩),str ((Sh.sname m)),.slice (some ⟨b30,0,none⟩) 1 1]) S rfl rfl Tryz.call25 (append_ct (H:=(pk [2,0,1,3,4,5,6] 7 H)) _ _ db21 d1 (Sh.sname m) (by omega) _ _ ([UInt8.ofNat 120]) (SlOk.ofConst (i:=0) rfl rfl (by decide)) (by simp)) rfl rfl rfl fun v a w hR S=>?_
    obtain ⟨rfl,H⟩:=hR
    rw [e2x] at S H
    dsimp only at S H
    refine rs 1 S H t0 fun a w S H=>?_
    refine sb ?_
    refine rn 2 S H t0 fun a w S H=>?_
    refine r_call (args:=#[.pointer (some ⟨db21,0,none⟩),.agg #[.int .i64 (gn),.slice A28 (gl.length) c29],.int .i64 4,.int .i64 3]) S rfl rfl Tryz.call13 (build_ct (H:=H) _ _ (hl.via fun _ H=>H.drop.drop.drop.drop.drop.drop) db21 gn A28 c29 gl (okg.via fun _ H=>Sat.only (pk [1] 6 H)) fe 4 3 d2 (by omega) (by decide)) rfl rfl rfl fun v a w hR S=>?_
    obtain ⟨rfl,H,hcB⟩:=hR
    rw [e3] at S H
    dsimp only at S H
    refine rs 1 S H t0 fun a w S H=>?_
    refine sb ?_
    refine rn 1 S H t0 fun a w S H=>?_
    refine r_call (args:=#[.pointer (some ⟨db21,0,none⟩)]) S rfl rfl Tryz.call23 (list_ct (H:=H) _ _ db21 d3 (by omega)) rfl rfl rfl fun v a w hR S=>?_
    obtain ⟨A31,c32,rfl,H⟩:=hR
    rw [e4] at S H
    dsimp only at S H
    simp only [List.length_cons,List.length_nil,Nat.zero_add] at S H
    refine rs 5 S H t0 fun a w S H=>?_
    refine sb ?_
    refine rn 3 S H (by omega) fun a w S H=>?_
    rw [e5] at S H
    dsimp only at S H
    refine rs 5 S H t0 fun a w S H=>?_
    obtain ⟨b33,rfl⟩:=H.rowAt (i:=1) rfl (by decide)
    refine sb ?_
    refine rn 4 S H t0 fun a w S H=>?_
    have S:=S.retell (v':=.bool true) 110 rfl rfl
    refine rn 4 S H t0 fun a w S H=>?_
    have S:=S.retell (v':=.bool true) 114 rfl rfl
    refine rn 4 S H t0 fun a w S H=>?_
    have S:=S.retell (v':=.bool true) 118 rfl rfl
    refine rn 4 S H t0 fun a w S H=>?_
    have S:=S.retell (v':=.bool true) 122 rfl rfl
    refine rn 5 S H t0 fun a w S H=>?_
    have S:=S.retell (v':=.bool true) 127 rfl rfl
    refine rn 3 S H t0 fun a w S H=>?_
    refine r_y S H (y_index S rfl rfl rfl Tryz.underlying46 Tryz.sizeOf9 (by omega) (by omega)) rfl rfl rfl fun a S=>?_
    refine r_y S H (y_loadAt S rfl rfl Tryz.isAgg9 (fun w H=>(SlOk.ofRow (i:=1) H rfl).cell w H (strs_at (i:=0) (by first | omega | (simp<;>omega))))) rfl rfl rfl fun a S=>?_
    refine rn 2 S H t0 fun a w S H=>?_
    have S:=S.retell (v':=.bool true) 134 rfl (congrArg Value.bool (decide_eq_true rfl))
    refine rn 4 S H t0 fun a w S H=>?_
    have S:=S.retell (v':=.bool true) 138 rfl rfl
    refine rn 4 S H t0 fun a w S H=>?_
    have S:=S.retell (v':=.bool true) 142 rfl rfl
    refine rs 2 S H t0 fun a w S H=>?_
    refine wp_ret ?_
    refine r_ret1 S H Tryz.results6 (ro_tmp S rfl) ?_
    exact ⟨rfl,H.drop.drop.drop.drop.drop.drop.drop.drop⟩
  refine wp_skip ?_
  refine x_then ?_
  have iD:Xs.Is (Dk.fresh 10000) 10000 []:=Sh.is10
  refine sb ?_
  refine rn 1 S H t0 fun a w S H=>?_
  refine r_call (args:=#[.agg #[.int .i64 n,.slice A es.length c]]) S rfl rfl Tryz.call11 (few_ct (H:=H) _ _ n A c es ((((ok.more _).more _).more _).more _) (hes)) rfl rfl rfl fun v a w hR S=>?_
  obtain ⟨A38,c39,rfl,H⟩:=hR
  obtain ⟨f0,f60,fl,fg,fsub⟩:=Tr.few_facts (n:=n) (es:=es)
  have fe:Sh.E32 (Tr.few n es).2:=fun e he=>hes e (fsub e he)
  obtain ⟨gn,hgn⟩:∃y,y=(Tr.few n es).1:=⟨_,rfl⟩
  obtain ⟨gl,hgl⟩:∃y,y=(Tr.few n es).2:=⟨_,rfl⟩
  rw [<-hgl] at S H fl fg fe
  rw [<-hgn] at S f0 f60 fg
  have HI_okg:=Sat.only (pk [0] 5 H)
  have okg:=SlOk.ofRow (i:=0) HI_okg rfl
  refine rs 1 S H t0 fun a w S H=>?_
  refine sb ?_
  refine rn 1 S H t0 fun a w S H=>?_
  refine r_y S H (y_bitop S rfl rfl rfl (fun w=>maskL 2 4 3 (by decide) (by decide) (by decide) a3 w)) rfl rfl rfl fun a S=>?_
  obtain ⟨m,hm⟩:∃x:Nat,((x:Nat):Int)=a3%4:=⟨(a3%4).toNat,by omega⟩
  have S:=S.retell (v':=.int .i64 ((m:Nat):Int)) 82 rfl (by rw [hm])
  have hmb:m<=3:=by omega
  refine rs 1 S H t0 fun a w S H=>?_
  refine sb ?_
  refine rn 1 S H t0 fun a w S H=>?_
  refine r_call (args:=#[.int .i64 ((m:Nat):Int)]) S rfl rfl Tryz.call19 (shname_ct (H:=H) _ _ (hl.via fun _ H=>H.drop.drop.drop.drop.drop) m (by omega)) rfl rfl rfl fun v a w hR S=>?_
  obtain ⟨rfl,H⟩:=hR
  have hp:Oc.part gn 4=true:=Sh.part_few f0 f60 (by decide) (by decide)
  obtain ⟨d1,d2,d3,d4,d5,e1,e2,e3,e4,e5,k0,k1,k2,k3,k4⟩:=Sh.errors12_plan iD fe hp fg fl (m:=m) (by omega)
  have e2x:Dk.Disk.append (Sh.sname m) ([UInt8.ofNat 120]) d1=(d2,0):=e2
  refine rs 1 S H t0 fun a w S H=>?_
  refine sb ?_
  refine rn 3 S H (by omega) fun a w S H=>?_
  rw [e1] at S H
  dsimp only at S H
  refine rs 1 S H t0 fun a w S H=>?_
  refine sb ?_
  refine rn 2 S H t0 fun a w S H=>?_
  refine r_lit (vs:=#[(0,.int .u8 120)]) (cs:=u8s [UInt8.ofNat 120]) S H rfl rfl el50 (by kernel_rfl) (by decide) (by rfl) rfl rfl rfl fun a w b40 S H=>?_
  refine r_convC (L':=rowC b40 5 (u8s ([UInt8.ofNat 120]))::row 61 3 (.slice A38 (gl.length) c39) (gl.length) (ecells (gl))::diskR db21 d1::blk b5 (.cells #[.int .i64 (gn),.slice A38 (gl.length) c39] 24)::row 61 3 (.slice A3 ((es.take (min es.length 40)).length) c4) ((es.take (min es.length 40)).length) (ecells (es.take (min es.length 40)))::blk b1 (.cells #[.int .i64 n,.slice A es.length c] 24)::fr) 0 S H rfl rfl rfl Tryz.underlying50 Tryz.underlying5 rfl rfl rfl rfl fun a w S H=>?_
  refine r_call (args:=#[.pointer (some ⟨db21,0,none⟩),str ((Sh.sname m)),.slice (some ⟨b40,0,none⟩) 1 1]) S rfl rfl Tryz.call25 (append_ct (H:=(pk [2,0,1,3,4,5] 6 H)) _ _ db21 d1 (Sh.sname m) (by omega) _ _ ([UInt8.ofNat 120]) (SlOk.ofConst (i:=0) rfl rfl (by decide)) (by simp)) rfl rfl rfl fun v a w hR S=>?_
  obtain ⟨rfl,H⟩:=hR
  rw [e2x] at S H
  dsimp only at S H
  refine rs 1 S H t0 fun a w S H=>?_
  refine sb ?_
  refine rn 2 S H t0 fun a w S H=>?_
  refine r_call (args:=#[.pointer (some ⟨db21,0,none⟩),.agg #[.int .i64 (gn),.slice A38 (gl.length) c39],.int .i64 4,.int .i64 3]) S rfl rfl Tryz.call13 (build_ct (H:=H) _ _ (hl.via fun _ H=>H.drop.drop.drop.drop.drop) db21 gn A38 c39 gl (okg.via fun _ H=>Sat.only (pk [1] 5 H)) fe 4 3 d2 (by omega) (by decide)) rfl rfl rfl fun v a w hR S=>?_
  obtain ⟨rfl,H,hcB⟩:=hR
  rw [e3] at S H
  dsimp only at S H
  refine rs 1 S H t0 fun a w S H=>?_
  refine sb ?_
  refine rn 1 S H t0 fun a w S H=>?_
  refine r_call (args:=#[.pointer (some ⟨db21,0,none⟩)]) S rfl rfl Tryz.call23 (list_ct (H:=H) _ _ db21 d3 (by omega)) rfl rfl rfl fun v a w hR S=>?_
  obtain ⟨A41,c42,rfl,H⟩:=hR
  rw [e4] at S H
  dsimp only at S H
  simp only [List.length_cons,List.length_nil,Nat.zero_add] at S H
  refine rs 5 S H t0 fun a w S H=>?_
  refine sb ?_
  refine rn 3 S H (by omega) fun a w S H=>?_
  rw [e5] at S H
  dsimp only at S H
  refine rs 5 S H t0 fun a w S H=>?_
  obtain ⟨b43,rfl⟩:=H.rowAt (i:=1) rfl (by decide)
  refine sb ?_
  refine rn 4 S H t0 fun a w S H=>?_
  have S:=S.retell (v':=.bool true) 110 rfl rfl
  refine rn 4 S H t0 fun a w S H=>?_
  have S:=S.retell (v':=.bool true) 114 rfl rfl
  refine rn 4 S H t0 fun a w S H=>?_
  have S:=S.retell (v':=.bool true) 118 rfl rfl
  refine rn 4 S H t0 fun a w S H=>?_
  have S:=S.retell (v':=.bool true) 122 rfl rfl
  refine rn 5 S H t0 fun a w S H=>?_
  have S:=S.retell (v':=.bool true) 127 rfl rfl
  refine rn 3 S H t0 fun a w S H=>?_
  refine r_y S H (y_index S rfl rfl rfl Tryz.underlying46 Tryz.sizeOf9 (by omega) (by omega)) rfl rfl rfl fun a S=>?_
  refine r_y S H (y_loadAt S rfl rfl Tryz.isAgg9 (fun w H=>(SlOk.ofRow (i:=1) H rfl).cell w H (strs_at (i:=0) (by first | omega | (simp<;>omega))))) rfl rfl rfl fun a S=>?_
  refine rn 2 S H t0 fun a w S H=>?_
  have S:=S.retell (v':=.bool true) 134 rfl (congrArg Value.bool (decide_eq_true rfl))
  refine rn 4 S H t0 fun a w S H=>?_
  have S:=S.retell (v':=.bool true) 138 rfl rfl
  refine rn 4 S H t0 fun a w S H=>?_
  have S:=S.retell (v':=.bool true) 142 rfl rfl
  refine rs 2 S H t0 fun a w S H=>?_
  refine wp_ret ?_
  refine r_ret1 S H Tryz.results6 (ro_tmp S rfl) ?_
  exact ⟨rfl,H.drop.drop.drop.drop.drop.drop.drop⟩

end Go.Proofs.YtoffbmhmocfmnaaGreatDoor
