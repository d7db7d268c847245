/- A crash while shards are made is told, and what is left does not matter, once it is removed, for any graph, whenever it crashes, and truths. No condition. -/
import Derived.Test.YtoffbmhmocfmnaaGreatDoorKVay
import Derived.Test.YtoffbmhmocfmnaaGreatDoorCards
import Derived.Test.YtoffbmhmocfmnaaGreatDoorKVX12d
namespace Go.Proofs.YtoffbmhmocfmnaaGreatDoor.shardDown
open Go.ChangeShapes Go.WideShapes Go.ChangeAt Go.RowKit Go.Lib Go.Joins Go.Deep Go.Cg
open Go.ChangeMaps (open_string shut_string)
set_option linter.unusedVariables false
theorem own:ownKnob Tryz.prog.godebug=none:=by kernel_rfl
theorem laidOut:laidOutB Tryz.prog=true:=by kernel_rfl
set_option maxRecDepth 100000 in
theorem lifted (os:Os) (started:os.Started) (H:Type) (enc:TypeId×Value->H):
    ReturnsInHanded {} Tryz.checked os 9 .any (fun w args=>(Rows.shardDownSpec.pre enc Tryz.prog Tryz.f9 [] false w args/\laidMetH Tryz.prog laidL w)/\sizedMet enc Tryz.prog Tryz.f9 (OpenSpec.ofChange Rows.shardDownSpec) false w args) (Rows.shardDownSpec.post enc Tryz.prog Tryz.f9 false true false false):=by
  refine returnsInHanded_of_change_and (C:=Tryz.checked) (X:=fun w _=>laidMetH Tryz.prog laidL w) (fun _ _ _ hh h=>h.of_heap hh) own started (by kernel_rfl) Tryz.func9
    (ChangeSpec.witness_shaped (enc:=enc) (C:=Tryz.checked) (os:=os) (X:=fun w _=>laidMetH Tryz.prog laidL w) false (World.doorLaid Tryz.prog 400 os) #[.agg #[.int .i64 0,.slice none 0 0],.int .i64 0,.slice none 0 0] 8 rfl (World.shaped_of_RefB (by kernel_rfl) (by kernel_rfl)) (by kernel_rfl) (by kernel_rfl) (by kernel_rfl) (door_met os _)) ?_
  intro W base args ds gs before hval0 hW _ hsz0 hL _
  have hval:∀ (j:Nat) t v,Tryz.f9.params[j]? =some t->args[j]? =some v->Value.okWide Tryz.prog W .any base t v:=hval0
  have hW':=hW
  obtain ⟨p,q,hA0,hV,rfl,hfz,hnd⟩:=hW
  have hA:DataW.TrodAll enc Tryz.prog W 0 (fun _=>true) true Tryz.f9.params.toList args.toList ds p:=hA0
  have hl:Laid [old W]:=laid_open hL
  rw [Tryz.params9] at hA hval
  obtain ⟨v0,vs0,d0,ds0,p0,q0,hargs,rfl,rfl,h0,r0⟩:=trodAll_cons hA
  obtain ⟨v1,vs1,d1,ds1,p1,q1,rfl,rfl,rfl,h1,r1⟩:=trodAll_cons r0
  obtain ⟨v2,vs2,d2,ds2,p2,q2,rfl,rfl,rfl,h2,r2⟩:=trodAll_cons r1
  obtain ⟨rfl,rfl,rfl⟩:=trodAll_nil r2
  obtain rfl:args=#[v0,v1,v2]:=by cases args;simp_all
  obtain ⟨rfl,rfl⟩:=trodVars_none hV
  have k0:=h0
  have lt0:∀ x∈p0,x.block < W.heap.size:=by obtain ⟨m,hm⟩:=k0;exact DataW.trod_lt m _ _ _ hm
  obtain ⟨u0_0,u0_1,y0_0,y0_1,mm0,rfl, -, -,g0_0,g0_1⟩:=open_agg2 Tryz.underlying24 (by kernel_rfl) (by kernel_rfl) (hval 0 24 v0 rfl rfl) h0
  obtain ⟨a0_0,e0_0, -,w0_0⟩:=DataW.trod_int Tryz.underlying3 g0_0
  obtain rfl:=(List.cons.inj e0_0).1
  have b0_0:=wf_i64 w0_0
  obtain ⟨A0,c0,l0,rfl,ok0,ed0⟩:=open_edges Tryz.underlying22 Tryz.underlying61 (by kernel_rfl) (by kernel_rfl) Tryz.underlying59 Tryz.underlying59 Tryz.underlying59 g0_1
  have k1:=h1
  have lt1:∀ x∈p1,x.block < W.heap.size:=by obtain ⟨m,hm⟩:=k1;exact DataW.trod_lt m _ _ _ hm
  obtain ⟨a1,rfl,rfl,rfl,w1⟩:=open_int Tryz.underlying3 (hval 1 3 v1 rfl rfl) h1
  have b1:=wf_i64 w1
  have k2:=h2
  have lt2:∀ x∈p2,x.block < W.heap.size:=by obtain ⟨m,hm⟩:=k2;exact DataW.trod_lt m _ _ _ hm
  obtain ⟨f2,hf2⟩:=trod_top Tryz.underlying56 (hval 2 56 v2 rfl rfl) h2
  obtain ⟨A2,c2,l2,rfl,ok2⟩:=open_bools Tryz.underlying56 Tryz.underlying4 (by kernel_rfl) hf2
  clear hA0 hval0 hsz0
  refine Calls.mono (law_down W [old W] hl a0_0 A0 c0 l0 ok0 ed0 a1 A2 _ c2 l2 ok2 (Sat.start W)) fun e W' hR=>?_
  obtain ⟨v,he,hv,H'⟩:=hR
  have hv1:v=.bool true:=hv
  have he1:e=.returned v:=he
  subst hv1;subst he1
  have bel:=H'.below
  exact ⟨_,rfl,_,_,_,[],_,[],hW',trodAll_mk1 (shut_bool Tryz.underlying4 _),(trodAll_cons_mk (Below.trod laidOut (by kernel_rfl) (of_decide_eq_true (by kernel_rfl)) k0 bel lt0) (trodAll_cons_mk (Below.trod laidOut (by kernel_rfl) (of_decide_eq_true (by kernel_rfl)) k1 bel lt1) (trodAll_cons_mk (Below.trod laidOut (by kernel_rfl) (of_decide_eq_true (by kernel_rfl)) k2 bel lt2) trodAll_mk0))),rfl,bel.frame _,fun h=>by cases h⟩
theorem over:Rows.shardDownRow.holds Tryz.pinned (OpenSpec.ofChange Rows.shardDownSpec):=
  OpenClaim.holds_of_wide 9 Tryz.f9 rfl rfl rfl rfl rfl rfl rfl ⟨rfl,rfl,rfl,rfl,rfl⟩ rfl rfl rfl rfl rfl (by kernel_rfl) Tryz.func9 (by kernel_rfl)
    (of_decide_eq_true (by kernel_rfl)) (by unfold Func.isWrapper;first | (rw [if_pos (by decide+kernel)];kernel_rfl) | (rw [if_neg (by decide+kernel)];exact ⟨rfl,rfl⟩))
    (fun os started H enc _=>lifted os started H enc)
theorem card:Rows.ShardDownCardSaid:=
  Claim7.holds_tied_plain_at .later [] [.data,.data,.data] true (true, "9e9c911928029037daad0bc46bbe37fa9fe968ec9b6fb411fb219e26f8b93c74") false
    over (fun _ h=>by cases h) (by kernel_rfl) (fun _ h=>by cases h) shardDown_row_tie rfl ⟨rfl,rfl⟩ (by kernel_rfl) rfl
    (fun f fn hf hfn=>by
      obtain rfl:f=9:=Option.some.inj ((show Tryz.prog.funcNamed "cartage/cartagelaw12.ShardDown" =some 9 by kernel_rfl).symm.trans hf) |>.symm
      obtain rfl:fn=Tryz.f9:=(Option.some.inj (Tryz.func9.symm.trans hfn)).symm
      exact ⟨by kernel_rfl,fun j t ht=>by
        rw [Tryz.params9] at ht
        have hm:t∈[24,3,56]:=by simpa using Array.mem_of_getElem? ht
        have hall:([24,3,56].all fun u=> !Tryz.prog.wantsStandIn u)=true:=by kernel_rfl
        exact (show Tryz.prog.wantsStandIn t=false by simpa using List.all_eq_true.1 hall t hm)⟩)
    (by kernel_rfl)
end Go.Proofs.YtoffbmhmocfmnaaGreatDoor.shardDown
namespace Go.Proofs.YtoffbmhmocfmnaaGreatDoor
theorem shardDown_holds:Rows.ShardDownCardSaid:=shardDown.card
#print axioms shardDown_holds
end Go.Proofs.YtoffbmhmocfmnaaGreatDoor
