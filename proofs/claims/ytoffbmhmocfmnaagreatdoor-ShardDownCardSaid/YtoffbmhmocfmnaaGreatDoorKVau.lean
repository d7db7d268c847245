/- Laws of the model, walks of functions of the program, and what they rest on. No condition. -/
import Derived.Test.YtoffbmhmocfmnaaGreatDoorKVas
import Derived.Test.YtoffbmhmocfmnaaGreatDoorKVat
import Derived.RangeFuncBox
import Derived.Shelf.Abstract
import Derived.WalkKit
import Derived.OwnWalkIn
import Derived.TacticsInMore
import Derived.LoopNIn
import Derived.LoopIn
import Derived.Test.YtoffbmhmocfmnaaGreatDoorKVah
import Derived.Laws.StructEq
import Derived.BigRegionIn
import Derived.Test.YtoffbmhmocfmnaaGreatDoorKVap
import Derived.Shelf.SlSortCmp.WholeK
import Derived.Shelf.SlSortCmp.NoneTotal
namespace Go.Proofs.YtoffbmhmocfmnaaGreatDoor
open Go.RowKit Go.Cg
set_option linter.unusedVariables false
set_option linter.unusedSimpArgs false
set_option maxRecDepth 8000
set_option synthInstance.maxHeartbeats 1000000
set_option synthInstance.maxSize 1000000
open Go.Cg.Dk (By)
open Go.Shelf
attribute [local go_sem] Oper.semAt_some
/-- what stands behind, first -/
def backs (b:By):List (Nat×UInt8):=(List.range b.length).reverse.map fun j=>(j,b[j]?.getD 0)
theorem len_backs (b:By):(backs b).length=b.length:=by simp [backs]
theorem backs_at {b:By} {q:Nat} (h:q < b.length):(backs b)[b.length - 1 - q]? =some (q,b[q]?.getD 0):=by
  simp only [backs,List.getElem?_map]
  rw [List.getElem?_reverse (by simp;omega)]
  simp only [List.length_range]
  rw [show b.length - 1 - (b.length - 1 - q)=q from by omega,List.getElem?_range h];rfl
set_option maxRecDepth 100000 in
set_option maxHeartbeats 2000000 in
theorem back_iter1 (kb blk off c:Nat) (b:By) (Pw:World->Prop) (hPw:∀ W,Pw W->W.cell? ⟨kb,0,none⟩=some (.slice (some ⟨blk,off,none⟩) b.length c)/\∀ j,j < b.length->W.cell? ⟨blk,off+j,none⟩=some (.int .u8 ((b[j]?.getD 0).toNat:Int))) (hlen:b.length<=17592186044416):
    Iter Tryz.prog 137 #[.pointer (some ⟨kb,0,none⟩)] (fun x:Nat×UInt8=>#[.int .i64 (x.1:Int),.int .u8 (x.2.toNat:Int)]) (backs b) Pw:=by
  intro l J W hJP hJG hY h0
  have hJD:∀ i W,J i W->J i W.drew:=fun i W h=>hJG i W _ h (Hp.drew W) fun _ _=>rfl
  refine callsIn_of_wp Tryz.func137 rfl trivial ?_ rfl
  simp only [Tryz.ntmps137,List.size_toArray,List.length_cons,List.length_nil,Nat.reduceAdd,Nat.reduceSub,Array.replicate_succ,Array.replicate_zero,List.push_toArray,List.append_toArray,List.nil_append,List.cons_append]
  have hc0:=(hPw W (hJP _ _ h0)).1
  gi_wp2
  gi_loopw [3] (fun i wr=>∃q:Nat,q<=b.length/\i=.int .i64 ((q:Int) - 1)/\J (b.length - q) wr) (fun i _=>(intOf i+1).toNat)
  case atStart=>exact ⟨b.length,Nat.le_refl _,by simp,by simpa using h0⟩
  case round=>
    obtain ⟨q,hq,rfl,hJs⟩:=hrel
    have hP:=hPw wr (hJP _ _ hJs)
    have hcb:=hP.1
    cases q with
    | zero=>
      gi_wp2
      go_end0
      exact ⟨⟨_,rfl⟩,by rw [len_backs];simpa using hJs⟩
    | succ q=>
      have hcx:=hP.2 q (by omega)
      obtain ⟨fn,tmps,assign,body,hy,hR⟩:=hY (b.length - (q+1)) (q,b[q]?.getD 0) wr (by rw [show b.length - (q+1)=b.length - 1 - q from by omega];exact backs_at (by omega)) hJs
      dsimp only at hy
      have e1:((q+1:Nat):Int) - 1=(q:Int):=by omega
      rw [e1]
      gi_wp2
      refine hR.mono ?_
      rintro e W3 ⟨rfl,hJ3⟩
      gi_wp2
      go_roundw
      case rel=>exact ⟨q,by omega,rfl,by rw [show b.length - q=b.length - (q+1)+1 from by omega];exact hJ3⟩
      case measure=>simp [intOf]
set_option maxRecDepth 100000 in
set_option maxHeartbeats 2000000 in
theorem back_iter0 (kb:Nat) (A:Option Addr) (c:Nat) (Pw:World->Prop) (hPw:∀ W,Pw W->W.cell? ⟨kb,0,none⟩=some (.slice A 0 c)):
    Iter Tryz.prog 137 #[.pointer (some ⟨kb,0,none⟩)] (fun x:Nat×UInt8=>#[.int .i64 (x.1:Int),.int .u8 (x.2.toNat:Int)]) (backs []) Pw:=by
  intro l J W hJP hJG hY h0
  have hJD:∀ i W,J i W->J i W.drew:=fun i W h=>hJG i W _ h (Hp.drew W) fun _ _=>rfl
  refine callsIn_of_wp Tryz.func137 rfl trivial ?_ rfl
  simp only [Tryz.ntmps137,List.size_toArray,List.length_cons,List.length_nil,Nat.reduceAdd,Nat.reduceSub,Array.replicate_succ,Array.replicate_zero,List.push_toArray,List.append_toArray,List.nil_append,List.cons_append]
  have hc0:=hPw W (hJP _ _ h0)
  gi_wp2
  gi_loopw [3] (fun i wr=>i=.int .i64 (-1)/\J 0 wr) (fun _ _=>0)
  case atStart=>exact ⟨rfl,h0⟩
  case round=>
    obtain ⟨rfl,hJs⟩:=hrel
    gi_wp2
    go_end0
    exact ⟨⟨_,rfl⟩,hJs⟩
theorem back_iter (kb:Nat) (A:Option Addr) (c:Nat) (b:By) (L0:List Res) (ok:SlOk L0 1 A b.length c (u8s b)) (hlen:b.length<=17592186044416) (w0:World) (H0:Sat w0 L0):
    Iter Tryz.prog 137 #[.pointer (some ⟨kb,0,none⟩)] (fun x:Nat×UInt8=>#[.int .i64 (x.1:Int),.int .u8 (x.2.toNat:Int)]) (backs b) (fun W=>W.cell? ⟨kb,0,none⟩=some (.slice A b.length c)/\Sat W L0):=by
  by_cases hb:b=[]
  · subst hb
    exact back_iter0 kb A c _ fun W h=>h.1
  · obtain ⟨blk,off,e⟩:=ok.addr (sz:=0) H0 (List.length_pos_iff.2 hb)
    subst e
    refine back_iter1 kb blk off c b _ (fun W h=>⟨h.1,fun j hj=>?_⟩) hlen
    have:=ok.cell W h.2 (j:=j) (v:=.int .u8 ((b.getD j 0).toNat:Int)) (by have:=u8s_at hj;rwa [Nat.mul_one] at this)
    simpa [List.getD_eq_getElem?_getD] using this
end Go.Proofs.YtoffbmhmocfmnaaGreatDoor
namespace Go.Proofs.YtoffbmhmocfmnaaGreatDoor
open Go.RowKit Go.Cg
set_option linter.unusedVariables false
set_option linter.unusedSimpArgs false
set_option maxRecDepth 8000
set_option synthInstance.maxHeartbeats 1000000
set_option synthInstance.maxSize 1000000
open Go.Cg.Dk (By)
theorem backward_ct (w:World) (fr:List Res) (A:Option Addr) (n c:Nat) (H:Sat w (fr)):
    Rt Tryz.prog 111 #[.slice A n c] w fun v w'=>∃kb,v=.func (.func 137) #[] #[.pointer (some ⟨kb,0,none⟩)]/\Sat w' (blk kb (.cells #[.slice A n c] 50)::fr):=by
  refine en1 Tryz.func111 rfl Tryz.ntmps111 rfl fun a S=>?_
  refine sb ?_
  refine r_box (c:=#[.slice A n c]) S H rfl rfl rfl rfl rfl rfl fun a w b1 S H=>?_
  refine rs 1 S H t0 fun a w S H=>?_
  refine sb ?_
  refine r_y S H (y_makeFunc (vs:=#[.pointer (some ⟨b1,0,none⟩)]) S rfl rfl) rfl rfl rfl fun a S=>?_
  refine rs 1 S H t0 fun a w S H=>?_
  refine wp_ret ?_
  refine r_ret1 S H Tryz.results111 (ro_tmp S rfl) ?_
  exact ⟨_,rfl,H⟩

theorem get_ct (w:World) (fr:List Res) (A:Option Addr) (n c:Nat) (b:By) (ok:SlOk fr 1 A n c (u8s b)) (p size:Int) (hi: -4611686018427387904<=p/\p<=4611686018427387904) (hsz: -4611686018427387904<=size/\size<=4611686018427387904) (hb:b.length<=17592186044416) (H:Sat w (fr)):
    Rt Tryz.prog 89 #[.slice A n c,.int .i64 p,.int .i64 size] w fun v w'=>v=.tuple #[.int .u64 (((Oc.get b p size).1:Nat):Int),.bool (Oc.get b p size).2]/\Sat w' fr:=by
  refine rt_enterM (n:=44) Tryz.func89 rfl Tryz.ntmps89 rfl fun a S=>?_
  replace S:Slots a 44 [(0,.slice A n c),(1,.int .i64 p),(2,.int .i64 size),(44,undef)]:=S
  have hcap:=ok.le
  obtain rfl:=ok.n8
  refine sr 2 S H t0 fun a w S H=>?_
  refine r_seq ?_
  refine sb ?_
  refine rn 3 S H t0 fun a w S H=>?_
  refine scO 1 S H (fun _=>t0) fun a w S H=>?_
  refine rn 1 S H t0 fun a w S H=>?_
  refine scO 1 S H (fun _=>t0) fun a w S H=>?_
  refine rn 1 S H t0 fun a w S H=>?_
  refine scO 5 S H (fun h=>by simp only [Bool.or_eq_false_iff,Bool.and_eq_true,decide_eq_true_eq,decide_eq_false_iff_not] at h;omega) fun a w S H=>?_
  refine sn ?_
  refine r_cond S rfl (fun h28=>?_) (fun h28=>?_)
  · skip
    simp only [Bool.or_eq_true,decide_eq_true_eq] at h28
    refine sr 2 S H t0 fun a w S H=>?_
    refine wp_ret ?_
    refine x_thenRet ?_
    refine b_ret2 S H Tryz.results89 (ro_tmp S rfl) (ro_tmp S rfl) ?_
    have e:Oc.get b p size=(0,false):=by unfold Oc.get;rw [if_neg (by omega)]
    rw [e]
    exact ⟨rfl,H⟩
  simp only [Bool.or_eq_false_iff,decide_eq_false_iff_not] at h28
  refine wp_skip ?_
  refine x_then ?_
  refine sb ?_
  refine r_alloc S H rfl Tryz.zeroValue89 rfl rfl rfl rfl fun a w b1 S H=>?_
  replace H:Sat _ (blk b1 (.cells #[.int .u64 0] 89)::fr):=H
  refine rs 1 S H t0 fun a w S H=>?_
  refine r_seq ?_
  refine sb ?_
  refine rn 5 S H (by omega) fun a w S H=>?_
  refine r_y S H (y_sliceLH (k:=p.toNat) (k':=(p+size).toNat) S rfl rfl rfl rfl Tryz.underlying50 Tryz.sizeOf5 (by omega) (by omega) (by omega) (by omega)) rfl rfl rfl fun a S=>?_
  obtain ⟨As,hAs⟩:∃As,As=shift A (p.toNat*1) (decide (c=p.toNat)):=⟨_,rfl⟩
  obtain ⟨s,hs⟩:∃s:By,s=(b.drop p.toNat).take size.toNat:=⟨_,rfl⟩
  have hn34:(p+size).toNat - p.toNat=size.toNat:=by omega
  have hsl:s.length=size.toNat:=by rw [hs];simp;omega
  have oks:=ok.part8 p.toNat (p+size).toNat (by omega) (by omega)
  rw [hn34,<-hs,<-hsl,<-hAs] at oks
  have S:=S.retell (v':=.slice As s.length (c - p.toNat)) 34 rfl (by rw [hAs,hsl,hn34])
  refine r_call (args:=#[.slice As s.length (c - p.toNat)]) S rfl rfl Tryz.call111 (backward_ct (H:=H) _ _ _ _ _) rfl rfl rfl fun v a w hR S=>?_
  obtain ⟨kb3,rfl,H⟩:=hR
  refine sn ?_
  refine r_block ?_
  replace S:=S.sub (E':=[(0,.slice A b.length c),(1,.int .i64 p),(2,.int .i64 size),(6,.int .u64 0),(7,.bool false),(8,.pointer (some ⟨b1,0,none⟩)),(11,.int .i64 size),(12,.bool (decide (size < 1))),(13,.bool (decide (size < 1))),(16,.bool ((decide (size < 1))||(decide (8 < size)))),(17,.bool ((decide (size < 1))||(decide (8 < size)))),(20,.bool (((decide (size < 1))||(decide (8 < size)))||(decide (p < 0)))),(21,.bool (((decide (size < 1))||(decide (8 < size)))||(decide (p < 0)))),(28,.bool ((((decide (size < 1))||(decide (8 < size)))||(decide (p < 0)))||(decide (((b.length:Nat):Int) - size < p)))),(29,.slice A b.length c),(30,.int .i64 p),(31,.int .i64 p),(32,.int .i64 size),(33,.int .i64 (p+size)),(34,.slice As s.length (c - p.toNat)),(35,.func (.func 137) #[] #[.pointer (some ⟨kb3,0,none⟩)]),(44,undef)]) ⟨rfl,rfl,rfl,rfl,rfl,rfl,rfl,rfl,rfl,rfl,rfl,rfl,rfl,rfl,rfl,rfl,rfl,rfl,rfl,rfl,rfl,rfl,trivial⟩
  refine wp_range (ι:=Unit) (κ:=Unit) (n:=44) (fun i (g:Unit)=>blk b1 (.cells #[.int .u64 ((Oc.unle (s.drop (s.length - i)):Nat):Int)] 89)::blk kb3 (.cells #[.slice As s.length (c - p.toNat)] 50)::fr) (fun i (g:Unit)=>i<=s.length) [(0,.slice A b.length c),(1,.int .i64 p),(2,.int .i64 size),(6,.int .u64 0),(7,.bool false),(8,.pointer (some ⟨b1,0,none⟩)),(11,.int .i64 size),(12,.bool (decide (size < 1))),(13,.bool (decide (size < 1))),(16,.bool ((decide (size < 1))||(decide (8 < size)))),(17,.bool ((decide (size < 1))||(decide (8 < size)))),(20,.bool (((decide (size < 1))||(decide (8 < size)))||(decide (p < 0)))),(21,.bool (((decide (size < 1))||(decide (8 < size)))||(decide (p < 0)))),(28,.bool ((((decide (size < 1))||(decide (8 < size)))||(decide (p < 0)))||(decide (((b.length:Nat):Int) - size < p)))),(29,.slice A b.length c),(30,.int .i64 p),(31,.int .i64 p),(32,.int .i64 size),(33,.int .i64 (p+size)),(34,.slice As s.length (c - p.toNat)),(35,.func (.func 137) #[] #[.pointer (some ⟨kb3,0,none⟩)])] (fun x=>[(37,.int .u8 ((x.2.toNat:Nat):Int)),(36,.int .i64 (x.1:Int))]++([(0,.slice A b.length c),(1,.int .i64 p),(2,.int .i64 size),(6,.int .u64 0),(7,.bool false),(8,.pointer (some ⟨b1,0,none⟩)),(11,.int .i64 size),(12,.bool (decide (size < 1))),(13,.bool (decide (size < 1))),(16,.bool ((decide (size < 1))||(decide (8 < size)))),(17,.bool ((decide (size < 1))||(decide (8 < size)))),(20,.bool (((decide (size < 1))||(decide (8 < size)))||(decide (p < 0)))),(21,.bool (((decide (size < 1))||(decide (8 < size)))||(decide (p < 0)))),(28,.bool ((((decide (size < 1))||(decide (8 < size)))||(decide (p < 0)))||(decide (((b.length:Nat):Int) - size < p)))),(29,.slice A b.length c),(30,.int .i64 p),(31,.int .i64 p),(32,.int .i64 size),(33,.int .i64 (p+size)),(34,.slice As s.length (c - p.toNat)),(35,.func (.func 137) #[] #[.pointer (some ⟨kb3,0,none⟩)])]++[(44,undef)])) S () (by simpa [Oc.unle] using pk [1,0] 2 H) (Nat.zero_le _) rfl (enters_of Tryz.func137 (by kernel_rfl) rfl) (back_iter kb3 As (c - p.toNat) s fr oks (by omega) _ H.drop.drop) (fun _=>rfl) ?_ (fun _=>rfl) (fun _=>rfl) (fun x _=>[(0,.slice A b.length c),(1,.int .i64 p),(2,.int .i64 size),(6,.int .u64 0),(7,.bool false),(8,.pointer (some ⟨b1,0,none⟩)),(10,.int .u8 ((x.2.toNat:Nat):Int)),(11,.int .i64 size),(12,.bool (decide (size < 1))),(13,.bool (decide (size < 1))),(16,.bool ((decide (size < 1))||(decide (8 < size)))),(17,.bool ((decide (size < 1))||(decide (8 < size)))),(20,.bool (((decide (size < 1))||(decide (8 < size)))||(decide (p < 0)))),(21,.bool (((decide (size < 1))||(decide (8 < size)))||(decide (p < 0)))),(28,.bool ((((decide (size < 1))||(decide (8 < size)))||(decide (p < 0)))||(decide (((b.length:Nat):Int) - size < p)))),(29,.slice A b.length c),(30,.int .i64 p),(31,.int .i64 p),(32,.int .i64 size),(33,.int .i64 (p+size)),(34,.slice As s.length (c - p.toNat)),(35,.func (.func 137) #[] #[.pointer (some ⟨kb3,0,none⟩)]),(44,undef)]) (fun i (g:Unit) x _=>blk b1 (.cells #[.int .u64 ((Oc.unle (s.drop (s.length - i)):Nat):Int)] 89)::blk kb3 (.cells #[.slice As s.length (c - p.toNat)] 50)::fr) ?_ ?_ 0 (S.noCode rfl) ⟨rfl,rfl,rfl,rfl,rfl,rfl,rfl,rfl,rfl,rfl,rfl,rfl,rfl,rfl,rfl,rfl,rfl,rfl,rfl,rfl,rfl,trivial⟩ rfl ?_
  · rintro i (g:Unit) W hF H
    exact ⟨by have:=(H.cellOf (i:=1) rfl).1 (j:=0);simpa using this,H.drop.drop⟩
  · rintro l D i (g:Unit) x a w r hx hF S H
    replace S:=S.sub (E':=[(0,.slice A b.length c),(1,.int .i64 p),(2,.int .i64 size),(6,.int .u64 0),(7,.bool false),(8,.pointer (some ⟨b1,0,none⟩)),(11,.int .i64 size),(12,.bool (decide (size < 1))),(13,.bool (decide (size < 1))),(16,.bool ((decide (size < 1))||(decide (8 < size)))),(17,.bool ((decide (size < 1))||(decide (8 < size)))),(20,.bool (((decide (size < 1))||(decide (8 < size)))||(decide (p < 0)))),(21,.bool (((decide (size < 1))||(decide (8 < size)))||(decide (p < 0)))),(28,.bool ((((decide (size < 1))||(decide (8 < size)))||(decide (p < 0)))||(decide (((b.length:Nat):Int) - size < p)))),(29,.slice A b.length c),(30,.int .i64 p),(31,.int .i64 p),(32,.int .i64 size),(33,.int .i64 (p+size)),(34,.slice As s.length (c - p.toNat)),(35,.func (.func 137) #[] #[.pointer (some ⟨kb3,0,none⟩)]),(36,.int .i64 (x.1:Int)),(37,.int .u8 ((x.2.toNat:Nat):Int)),(44,undef)]) ⟨rfl,rfl,rfl,rfl,rfl,rfl,rfl,rfl,rfl,rfl,rfl,rfl,rfl,rfl,rfl,rfl,rfl,rfl,rfl,rfl,rfl,rfl,rfl,rfl,trivial⟩
    refine in_region ?_
    refine rn 1 S H t0 fun a w S H=>?_
    refine r_nil ?_
    refine x_then ?_
    exact ⟨(),S.sub ⟨rfl,rfl,rfl,rfl,rfl,rfl,rfl,rfl,rfl,rfl,rfl,rfl,rfl,rfl,rfl,rfl,rfl,rfl,rfl,rfl,rfl,rfl,rfl,trivial⟩,H⟩
  · rintro l D i (g:Unit) x _ a w r hx hF S H
    have hil:i < s.length:=by have:=(List.getElem?_eq_some_iff.1 hx).1;rw [len_backs] at this;exact this
    obtain ⟨q,hq⟩:∃q,q=s.length - 1 - i:=⟨_,rfl⟩
    have hxq:x=(q,s[q]?.getD 0):=by
      have h1:=backs_at (b:=s) (q:=q) (by omega)
      rw [show s.length - 1 - q=i from by omega,hx] at h1
      exact Option.some.inj h1
    subst hxq
    have hu:=Oc.unle_step (b:=s) (q:=q) (by omega)
    have e1:s.length - i=q+1:=by omega
    have hlt:=Oc.unle_lt (s.drop (q+1))
    have hle:256 ^ (s.drop (q+1)).length<=256 ^ 7:=Nat.pow_le_pow_right (by omega) (by simp;omega)
    have h8:=(s[q]?.getD 0).toNat_lt
    rw [e1] at H
    have hlt2:Oc.unle (s.drop (q+1))*256 < 18446744073709551616:=by omega
    replace S:=S.sub (E':=[(8,.pointer (some ⟨b1,0,none⟩)),(10,.int .u8 (((s[q]?.getD 0).toNat:Nat):Int)),(44,undef)]) ⟨rfl,rfl,rfl,trivial⟩
    replace H:Sat _ (blk D (.deferred (some []))::blk l (.loop r)::blk b1 (.cells #[.int .u64 ((Oc.unle (s.drop (q+1)):Nat):Int)] 89)::blk kb3 (.cells #[.slice As s.length (c - p.toNat)] 50)::fr):=H
    refine in_block ?_
    refine in_region ?_
    refine rn 1 S H t0 fun a w S H=>?_
    refine r_y S H (y_bitop S rfl rfl rfl (fun w=>shl8 (Oc.unle (s.drop (q+1))) hlt2 w)) rfl rfl rfl fun a S=>?_
    refine rn 2 S H (by omega) fun a w S H=>?_
    refine r_y S H (y_bitop S rfl rfl rfl (fun w=>orByte _ _ hlt2 h8 w)) rfl rfl rfl fun a S=>?_
    refine rn 1 S H t0 fun a w S H=>?_
    refine r_nil ?_
    refine x_blockEnd ?_
    refine x_then ?_
    have e2:s.length - (i+1)=q:=by omega
    rw [<-hu] at H
    exact ⟨(),(by rw [e2];exact H),(by omega:i+1<=s.length)⟩
  · rintro D C a w (g:Unit) hC S H hF
    replace S:Slots a 44 [(0,.slice A b.length c),(1,.int .i64 p),(2,.int .i64 size),(6,.int .u64 0),(7,.bool false),(8,.pointer (some ⟨b1,0,none⟩)),(11,.int .i64 size),(12,.bool (decide (size < 1))),(13,.bool (decide (size < 1))),(16,.bool ((decide (size < 1))||(decide (8 < size)))),(17,.bool ((decide (size < 1))||(decide (8 < size)))),(20,.bool (((decide (size < 1))||(decide (8 < size)))||(decide (p < 0)))),(21,.bool (((decide (size < 1))||(decide (8 < size)))||(decide (p < 0)))),(28,.bool ((((decide (size < 1))||(decide (8 < size)))||(decide (p < 0)))||(decide (((b.length:Nat):Int) - size < p)))),(29,.slice A b.length c),(30,.int .i64 p),(31,.int .i64 p),(32,.int .i64 size),(33,.int .i64 (p+size)),(34,.slice As s.length (c - p.toNat)),(35,.func (.func 137) #[] #[.pointer (some ⟨kb3,0,none⟩)]),(C+45,undef)]:=S
    have H:=Sat.mark1 hC H
    rw [len_backs] at H
    refine x_blockEnd ?_
    refine x_then ?_
    refine sr 3 S H t0 fun a w S H=>?_
    refine wp_ret ?_
    refine m_ret2 45 S H Tryz.results89 (ro_tmp S rfl) (ro_tmp S rfl) fun w H=>?_
    have e:Oc.get b p size=(Oc.unle s,true):=by unfold Oc.get;rw [if_pos (by omega),hs]
    rw [e]
    have e0:s.drop (s.length - s.length)=s:=by simp
    exact ⟨by rw [e0],H.drop.drop⟩

end Go.Proofs.YtoffbmhmocfmnaaGreatDoor
namespace Go.Proofs.YtoffbmhmocfmnaaGreatDoor
open Go.RowKit Go.Cg
set_option linter.unusedVariables false
set_option linter.unusedSimpArgs false
set_option maxRecDepth 8000
set_option synthInstance.maxHeartbeats 1000000
set_option synthInstance.maxSize 1000000
open Go.Cg.Dk (By)
theorem decode_ct (w:World) (fr:List Res) (A:Option Addr) (n c:Nat) (b:By) (ok:SlOk fr 1 A n c (u8s b)) (hb:b.length<=17592186044416) (H:Sat w (fr)):
    Rt Tryz.prog 110 #[.slice A n c] w fun v w'=>∃A' c',v=.tuple #[.slice A' (Oc.dec b).1.length c',.int .i64 (((Oc.dec b).2.1:Nat):Int),.int .i64 (((Oc.dec b).2.2:Nat):Int)]/\Sat w' (row 5 1 (.slice A' (Oc.dec b).1.length c') (Oc.dec b).1.length (u8s (Oc.dec b).1)::fr):=by
  refine en1 Tryz.func110 rfl Tryz.ntmps110 rfl fun a S=>?_
  have hcap:=ok.le
  obtain rfl:=ok.n8
  refine sr 3 S H t0 fun a w S H=>?_
  refine sb ?_
  refine rn 1 S H t0 fun a w S H=>?_
  refine r_call (args:=#[.slice A b.length c,.int .i64 0,.int .i64 2]) S rfl rfl Tryz.call89 (get_ct (H:=H) _ _ _ _ _ b ok 0 2 (by omega) (by omega) (by omega)) rfl rfl rfl fun v a w hR S=>?_
  obtain ⟨rfl,H⟩:=hR
  refine rs 5 S H t0 fun a w S H=>?_
  have hlt:=Oc.get_lt b 0 2
  obtain ⟨m,okb,hg⟩:∃m okb,Oc.get b 0 2=(m,okb):=⟨_,_,rfl⟩
  rw [hg] at S
  replace S:=S.sub (E':=[(0,.slice A b.length c),(2,.slice none 0 0),(3,.int .i64 0),(4,.int .i64 0),(5,.int .u64 ((m:Nat):Int)),(6,.bool (okb)),(10,.tuple #[.int .u64 ((m:Nat):Int),.bool (okb)]),(11,.slice A b.length c),(12,.tuple #[.int .u64 ((m:Nat):Int),.bool (okb)]),(13,.int .u64 ((m:Nat):Int)),(14,.bool (okb)),(50,undef)]) ⟨rfl,rfl,rfl,rfl,rfl,rfl,rfl,rfl,rfl,rfl,rfl,rfl,trivial⟩
  have hm:m < 65536:=by have:(Oc.get b 0 2).1 < 256 ^ 2:=hlt;rw [hg] at this;exact this
  refine sb ?_
  refine rn 2 S H (by omega) fun a w S H=>?_
  refine r_y S H (y_add S rfl rfl rfl (wi64 (by omega) (by omega))) rfl rfl rfl fun a S=>?_
  have S:=S.retell (v':=.int .i64 (((2+m):Nat):Int)) 17 rfl (int_eq (by omega))
  refine rs 1 S H t0 fun a w S H=>?_
  refine r_seq ?_
  refine sb ?_
  refine rn 3 S H t0 fun a w S H=>?_
  refine scO 1 S H (fun _=>t0) fun a w S H=>?_
  refine rn 1 S H t0 fun a w S H=>?_
  refine scO 4 S H (fun h=>by simp only [Bool.or_eq_false_iff,Bool.and_eq_true,decide_eq_true_eq,decide_eq_false_iff_not] at h;omega) fun a w S H=>?_
  refine sn ?_
  refine r_cond S rfl (fun h30=>?_) (fun h30=>?_)
  · skip
    refine sr 3 S H t0 fun a w S H=>?_
    refine wp_ret ?_
    refine x_thenRet ?_
    refine r_ret3 S H Tryz.results110 (ro_tmp S rfl) (ro_tmp S rfl) (ro_tmp S rfl) ?_
    have e:Oc.dec b=([],0,2):=by
      unfold Oc.dec;simp only
      rw [if_pos]
      rcases Nat.lt_or_ge b.length 2 with h | h
      · exact .inl h
      · have h2:=Oc.get_ok (b:=b) (i:=0) (k:=2) (by omega) (by omega);rw [show ((0:Nat):Int)=0 from rfl,show ((2:Nat):Int)=2 from rfl,hg] at h2
        have h3:okb=true:=congrArg Prod.snd h2
        have h4:m=Oc.unle (b.take 2):=by simpa using congrArg Prod.fst h2
        rw [<-h4];rw [h3] at h30;simp at h30;omega
    rw [e]
    exact ⟨none,0,rfl,H.nilRow _ _⟩
  simp only [Bool.or_eq_false_iff,decide_eq_false_iff_not] at h30
  refine wp_skip ?_
  refine x_then ?_
  refine r_seq ?_
  have hok:okb=true:=by simpa using h30.1.1
  subst hok
  have hl2:2<=b.length:=by
    rcases Nat.lt_or_ge b.length 2 with h | h
    · have:=Oc.get_no (b:=b) (i:=0) (k:=2) (by omega);rw [show ((0:Nat):Int)=0 from rfl,show ((2:Nat):Int)=2 from rfl,hg] at this;cases this
    · exact h
  have hmv:m=Oc.unle (b.take 2):=by have:=Oc.get_ok (b:=b) (i:=0) (k:=2) (by omega) (by omega);rw [show ((0:Nat):Int)=0 from rfl,show ((2:Nat):Int)=2 from rfl,hg] at this;simpa using congrArg Prod.fst this
  refine sb ?_
  refine rn 2 S H t0 fun a w S H=>?_
  refine r_call (args:=#[.slice A b.length c,.int .i64 (((2+m):Nat):Int),.int .i64 4]) S rfl rfl Tryz.call89 (get_ct (H:=H) _ _ _ _ _ b ok (((2+m):Nat):Int) 4 (by omega) (by omega) (by omega)) rfl rfl rfl fun v a w hR S=>?_
  obtain ⟨rfl,H⟩:=hR
  refine rs 5 S H t0 fun a w S H=>?_
  have hg2:=Oc.get_ok (b:=b) (i:=2+m) (k:=4) (by omega) (by omega)
  rw [show ((4:Nat):Int)=4 from rfl] at hg2
  have hlt4:=Oc.unle_lt ((b.drop (2+m)).take 4)
  have hle4:256 ^ ((b.drop (2+m)).take 4).length<=256 ^ 4:=Nat.pow_le_pow_right (by omega) (by simp;omega)
  obtain ⟨y,hy⟩:∃y,y=Oc.unle ((b.drop (2+m)).take 4):=⟨_,rfl⟩
  rw [<-hy] at hg2 hlt4
  rw [hg2] at S
  replace S:=S.sub (E':=[(0,.slice A b.length c),(2,.slice none 0 0),(3,.int .i64 0),(4,.int .i64 0),(5,.int .u64 ((m:Nat):Int)),(6,.bool (true)),(7,.int .i64 (((2+m):Nat):Int)),(8,.int .u64 ((y:Nat):Int)),(10,.tuple #[.int .u64 ((m:Nat):Int),.bool (true)]),(11,.slice A b.length c),(12,.tuple #[.int .u64 ((m:Nat):Int),.bool (true)]),(13,.int .u64 ((m:Nat):Int)),(14,.bool (true)),(15,.int .u64 ((m:Nat):Int)),(16,.int .i64 ((m:Nat):Int)),(17,.int .i64 (((2+m):Nat):Int)),(18,.bool (true)),(19,.bool (!true)),(20,.bool (!true)),(23,.bool ((!true)||(decide (1000 < ((m:Nat):Int))))),(24,.bool ((!true)||(decide (1000 < ((m:Nat):Int))))),(30,.bool (((!true)||(decide (1000 < ((m:Nat):Int))))||(decide (((b.length:Nat):Int) < (((2+m):Nat):Int)+4)))),(32,.slice A b.length c),(33,.int .i64 (((2+m):Nat):Int)),(35,.int .u64 ((y:Nat):Int)),(36,.bool true),(50,undef)]) ⟨rfl,rfl,rfl,rfl,rfl,rfl,rfl,rfl,rfl,rfl,rfl,rfl,rfl,rfl,rfl,rfl,rfl,rfl,rfl,rfl,rfl,rfl,rfl,rfl,rfl,rfl,rfl,trivial⟩
  refine sb ?_
  refine rn 4 S H (by omega) fun a w S H=>?_
  refine r_y S H (y_sliceH (k:=2+m) S rfl rfl rfl Tryz.underlying50 Tryz.sizeOf5 rfl (by omega)) rfl rfl rfl fun a S=>?_
  have ok41:=ok.head8 (2+m) (by omega)
  have S:=S.retell (v':=.slice A (2+m) c) 41 rfl (by rw [shift0])
  refine r_call (args:=#[.slice A (2+m) c]) S rfl rfl Tryz.call136 (crc_ct (H:=H) _ _ _ _ _ _ ok41) rfl rfl rfl fun v a w hR S=>?_
  obtain ⟨rfl,H⟩:=hR
  refine rs 1 S H t0 fun a w S H=>?_
  refine r_test S rfl (fun h43=>?_) (fun h43=>?_)
  · skip
    refine sr 3 S H t0 fun a w S H=>?_
    refine wp_ret ?_
    refine x_thenRet ?_
    refine r_ret3 S H Tryz.results110 (ro_tmp S rfl) (ro_tmp S rfl) (ro_tmp S rfl) ?_
    have e:Oc.dec b=([],0,3):=by
      unfold Oc.dec;simp only
      rw [<-hmv,if_neg (by omega),<-hy,if_neg (by omega)]
    rw [e]
    exact ⟨none,0,rfl,H.nilRow _ _⟩
  refine wp_skip ?_
  refine x_then ?_
  refine sb ?_
  refine rn 2 S H t0 fun a w S H=>?_
  refine r_y S H (y_sliceLH (k:=2) (k':=2+m) S rfl rfl rfl rfl Tryz.underlying50 Tryz.sizeOf5 (by omega) (by omega) (by omega) (by omega)) rfl rfl rfl fun a S=>?_
  refine r_call (args:=#[.slice (shift A (2*1) (decide (c=2))) ((2+m) - 2) (c - 2)]) S rfl rfl Tryz.call74 (clone8_ct (H:=H) _ _ _ _ _ ((b.drop 2).take ((2+m) - 2)) (ok.part8 2 (2+m) (by first | omega | (simp<;>omega)) (by first | omega | (simp<;>omega))) (by simp;omega)) rfl rfl rfl fun v a w hR S=>?_
  obtain ⟨A1,c2,rfl,H⟩:=hR
  refine rn 1 S H t0 fun a w S H=>?_
  refine r_y S H (y_add S rfl rfl rfl (wi64 (by omega) (by omega))) rfl rfl rfl fun a S=>?_
  have S:=S.retell (v':=.int .i64 (((2+m+4):Nat):Int)) 49 rfl (int_eq (by omega))
  refine rs 3 S H t0 fun a w S H=>?_
  refine wp_ret ?_
  refine r_ret3 S H Tryz.results110 (ro_tmp S rfl) (ro_tmp S rfl) (ro_tmp S rfl) ?_
  have e:Oc.dec b=((b.drop 2).take m,2+m+4,0):=by
    unfold Oc.dec;simp only
    rw [<-hmv,if_neg (by omega),<-hy,if_pos (by omega)]
  have e2:2+m - 2=m:=by omega
  rw [e2] at H ⊢
  rw [e]
  exact ⟨_,_,rfl,H⟩

end Go.Proofs.YtoffbmhmocfmnaaGreatDoor
namespace Go.Proofs.YtoffbmhmocfmnaaGreatDoor
open Go.RowKit Go.Cg
set_option linter.unusedVariables false
set_option linter.unusedSimpArgs false
set_option maxRecDepth 8000
set_option synthInstance.maxHeartbeats 1000000
set_option synthInstance.maxSize 1000000
open Go.Cg.Dk (By Nm)
open Go.Cg.Rn (R)
def rcell (r:R):List Value:=[.int .u64 ((r.1:Nat):Int),.int .u64 ((r.2:Nat):Int)]
def recs (l:List R):List Value:=l.flatMap rcell
@[simp] theorem len_recs:∀ l:List R,(recs l).length=l.length*2
  | []=>rfl
  | e::l=>by have:=len_recs l;simp only [recs,List.flatMap_cons,List.length_append,List.length_cons] at *;rw [this];simp [rcell];omega
theorem recs_app (l l':List R):recs l++recs l'=recs (l++l'):=by simp [recs]
theorem recs_from:∀ {l:List R} {i:Nat},i < l.length->∀ k v,(rcell (l.getD i (0,0)))[k]? =some v->(recs l)[i*2+k]? =some v
  | e::l,0,_,k,v,h=>by
    have hk:k < (rcell e).length:=(List.getElem?_eq_some_iff.1 h).1
    simp only [recs,List.flatMap_cons,Nat.zero_mul,Nat.zero_add]
    rw [List.getElem?_append_left hk];exact h
  | e::l,i+1,hi,k,v,h=>by
    have:=recs_from (l:=l) (i:=i) (by simpa using hi) k v (by simpa using h)
    simp only [recs,List.flatMap_cons] at this ⊢
    rw [List.getElem?_append_right (by simp [rcell];omega)]
    rw [show (i+1)*2+k - (rcell e).length=i*2+k from by simp [rcell];omega]
    exact this
theorem one_recs (l:List R):∀ u∈recs l,u.oneCell'=true:=by
  intro u hu
  simp only [recs,List.mem_flatMap] at hu
  obtain ⟨e,_,he⟩:=hu
  simp [rcell] at he
  rcases he with rfl | rfl<;>rfl
theorem before_ct (w:World) (fr:List Res) (x y:R) (H:Sat w (fr)):
    Rt Tryz.prog 165 #[.agg #[.int .u64 ((x.1:Nat):Int),.int .u64 ((x.2:Nat):Int)],.agg #[.int .u64 ((y.1:Nat):Int),.int .u64 ((y.2:Nat):Int)]] w fun v w'=>v=.bool (Rn.ltb x y)/\Sat w' fr:=by
  refine en2 Tryz.func165 rfl Tryz.ntmps165 rfl fun a S=>?_
  refine sb ?_
  refine r_box (c:=#[.int .u64 ((x.1:Nat):Int),.int .u64 ((x.2:Nat):Int)]) S H rfl rfl rfl rfl rfl rfl fun a w b1 S H=>?_
  refine r_box (c:=#[.int .u64 ((y.1:Nat):Int),.int .u64 ((y.2:Nat):Int)]) S H rfl rfl rfl rfl rfl rfl fun a w b2 S H=>?_
  refine rs 1 S H t0 fun a w S H=>?_
  rcases Nat.lt_trichotomy x.1 y.1 with h | h | h
  · skip
    refine sb ?_
    refine rn 4 S H t0 fun a w S H=>?_
    refine r_y S H (y_lt S rfl rfl rfl) rfl rfl rfl fun a S=>?_
    have S:=S.retell (v':=.bool true) 9 rfl (by rw [decide_eq_true (by omega)])
    refine rs 15 S H t0 fun a w S H=>?_
    refine wp_ret ?_
    refine r_ret1 S H Tryz.results165 (ro_tmp S rfl) ?_
    refine ⟨congrArg Value.bool ?_,H.drop.drop⟩
    unfold Rn.ltb
    first | (rw [decide_eq_true (by omega)];done) | (rw [decide_eq_false (by omega)];done) | (congr 1;rw [eq_iff_iff];omega)
  · skip
    refine sb ?_
    refine rn 4 S H t0 fun a w S H=>?_
    refine r_y S H (y_lt S rfl rfl rfl) rfl rfl rfl fun a S=>?_
    have S:=S.retell (v':=.bool false) 9 rfl (by rw [decide_eq_false (by omega)])
    refine rn 5 S H t0 fun a w S H=>?_
    refine r_y S H (y_eq S rfl rfl rfl) rfl rfl rfl fun a S=>?_
    have S:=S.retell (v':=.bool true) 15 rfl (by rw [decide_eq_true (by omega)])
    refine rs 9 S H t0 fun a w S H=>?_
    refine wp_ret ?_
    refine r_ret1 S H Tryz.results165 (ro_tmp S rfl) ?_
    refine ⟨congrArg Value.bool ?_,H.drop.drop⟩
    unfold Rn.ltb
    first | (rw [decide_eq_true (by omega)];done) | (rw [decide_eq_false (by omega)];done) | (congr 1;rw [eq_iff_iff];omega)
  refine sb ?_
  refine rn 4 S H t0 fun a w S H=>?_
  refine r_y S H (y_lt S rfl rfl rfl) rfl rfl rfl fun a S=>?_
  have S:=S.retell (v':=.bool false) 9 rfl (by rw [decide_eq_false (by omega)])
  refine rn 5 S H t0 fun a w S H=>?_
  refine r_y S H (y_eq S rfl rfl rfl) rfl rfl rfl fun a S=>?_
  have S:=S.retell (v':=.bool false) 15 rfl (by rw [decide_eq_false (by omega)])
  refine rs 9 S H t0 fun a w S H=>?_
  refine wp_ret ?_
  refine r_ret1 S H Tryz.results165 (ro_tmp S rfl) ?_
  refine ⟨congrArg Value.bool ?_,H.drop.drop⟩
  unfold Rn.ltb
  first | (rw [decide_eq_true (by omega)];done) | (rw [decide_eq_false (by omega)];done) | (congr 1;rw [eq_iff_iff];omega)

theorem hright_ct (w:World) (fr:List Res) (how:Int) (H:Sat w (fr)):
    Rt Tryz.prog 157 #[.int .i64 how] w fun v w'=>v=.bool (Rn.hright how)/\Sat w' fr:=by
  refine en1 Tryz.func157 rfl Tryz.ntmps157 rfl fun a S=>?_
  refine sr 1 S H t0 fun a w S H=>?_
  refine sb ?_
  refine rn 3 S H t0 fun a w S H=>?_
  refine scA 1 S H (fun _=>t0) fun a w S H=>?_
  refine rs 1 S H t0 fun a w S H=>?_
  refine wp_ret ?_
  refine r_ret1 S H Tryz.results157 (ro_tmp S rfl) ?_
  refine ⟨congrArg Value.bool ?_,H⟩
  unfold Rn.hright
  rw [Bool.eq_iff_iff];simp

def add64E:Array Value->Sem Value:=fun args=>do
  let (x,y,c) <-Extern.MathBitsCarry.three "Add64" args
  pure (Extern.MathBitsCarry.pair ((x+y+c)%Extern.MathBitsCarry.m64) ((x+y+c) / Extern.MathBitsCarry.m64))
instance:Xf Tryz.prog 152 add64E:=⟨fun args w=>run_extern Tryz.func152 (by kernel_rfl) (by kernel_rfl) (by kernel_rfl) (by kernel_rfl) args w⟩
instance {P:Program} {L:List Res} (x y:Nat):Xd P L add64E [.int .u64 (x:Int),.int .u64 (y:Int),.int .u64 0] (.tuple #[.int .u64 (((x+y)%18446744073709551616:Nat):Int),.int .u64 (((x+y) / 18446744073709551616:Nat):Int)]) L:=
  ⟨fun w H=>⟨w,rfl,H⟩⟩
theorem combine_ct (w:World) (fr:List Res) (how:Int) (x y:Nat) (hx:x < 18446744073709551616) (hy:y < 18446744073709551616) (H:Sat w (fr)):
    Rt Tryz.prog 134 #[.int .i64 how,.int .u64 ((x:Nat):Int),.int .u64 ((y:Nat):Int)] w fun v w'=>v=.int .u64 ((Rn.comb how x y:Nat):Int)/\Sat w' fr:=by
  refine en3 Tryz.func134 rfl Tryz.ntmps134 rfl fun a S=>?_
  refine sr 1 S H t0 fun a w S H=>?_
  refine r_seq ?_
  refine sr 2 S H t0 fun a w S H=>?_
  refine r_test S rfl (fun h10=>?_) (fun h10=>?_)
  · skip
    refine sr 4 S H t0 fun a w S H=>?_
    refine wp_ret ?_
    refine x_thenRet ?_
    refine r_ret1 S H Tryz.results134 (ro_tmp S rfl) ?_
    have e:Rn.comb how x y=_:=rfl
    refine ⟨congrArg (Value.int .u64) ?_,H⟩
    (try simp only [wrap_u64] at *)
    unfold Rn.comb
    split<;>omega
  refine wp_skip ?_
  refine x_then ?_
  refine r_seq ?_
  refine sr 8 S H t0 fun a w S H=>?_
  refine sr 2 S H t0 fun a w S H=>?_
  refine r_test S rfl (fun h21=>?_) (fun h21=>?_)
  · skip
    refine sr 2 S H t0 fun a w S H=>?_
    refine wp_ret ?_
    refine x_thenRet ?_
    refine r_ret1 S H Tryz.results134 (ro_tmp S rfl) ?_
    have e:Rn.comb how x y=_:=rfl
    refine ⟨congrArg (Value.int .u64) ?_,H⟩
    (try simp only [wrap_u64] at *)
    unfold Rn.comb
    split<;>omega
  refine wp_skip ?_
  refine x_then ?_
  refine sr 1 S H t0 fun a w S H=>?_
  refine wp_ret ?_
  refine r_ret1 S H Tryz.results134 (ro_tmp S rfl) ?_
  have e:Rn.comb how x y=_:=rfl
  refine ⟨congrArg (Value.int .u64) ?_,H⟩
  (try simp only [wrap_u64] at *)
  unfold Rn.comb
  split<;>omega

end Go.Proofs.YtoffbmhmocfmnaaGreatDoor
namespace Go.Proofs.YtoffbmhmocfmnaaGreatDoor
open Go.RowKit Go.Cg
set_option linter.unusedVariables false
set_option linter.unusedSimpArgs false
set_option maxRecDepth 8000
set_option synthInstance.maxHeartbeats 1000000
set_option synthInstance.maxSize 1000000
open Go.Cg.Dk (By Nm)
open Go.Cg.Rn (R)
theorem isdown_ct (w:World) (fr:List Res) (db:Nat) (d:Dk.Disk) (H:Sat w (diskR db d::fr)):
    Rt Tryz.prog 32 #[.pointer (some ⟨db,0,none⟩)] w fun v w'=>v=.bool d.down/\Sat w' (diskR db d::fr):=by
  refine en1 Tryz.func32 rfl Tryz.ntmps32 rfl fun a S=>?_
  obtain ⟨mb,t,kA,kc,hok,hT,H⟩:=H.openDisk
  have har:=hok.armed
  refine sr 1 S H t0 fun a w S H=>?_
  refine sr 5 S H (by omega) fun a w S H=>?_
  refine wp_ret ?_
  refine r_ret1 S H Tryz.results32 (ro_tmp S rfl) ?_
  exact ⟨rfl,Sat.shutDisk d hok hT (H)⟩

theorem dused_ct (w:World) (fr:List Res) (db:Nat) (d:Dk.Disk) (H:Sat w (diskR db d::fr)):
    Rt Tryz.prog 21 #[.pointer (some ⟨db,0,none⟩)] w fun v w'=>v=.int .i64 ((d.used:Nat):Int)/\Sat w' (diskR db d::fr):=by
  refine en1 Tryz.func21 rfl Tryz.ntmps21 rfl fun a S=>?_
  obtain ⟨mb,t,kA,kc,hok,hT,H⟩:=H.openDisk
  have har:=hok.armed
  refine sr 1 S H t0 fun a w S H=>?_
  refine sr 5 S H t0 fun a w S H=>?_
  refine wp_ret ?_
  refine r_ret1 S H Tryz.results21 (ro_tmp S rfl) ?_
  exact ⟨rfl,Sat.shutDisk d hok hT (H)⟩

end Go.Proofs.YtoffbmhmocfmnaaGreatDoor
namespace Go.Proofs.YtoffbmhmocfmnaaGreatDoor
open Go.RowKit Go.Cg
set_option linter.unusedVariables false
set_option linter.unusedSimpArgs false
set_option maxRecDepth 8000
set_option synthInstance.maxHeartbeats 1000000
set_option synthInstance.maxSize 1000000
theorem el86:Elem Tryz.prog 86 91 2 16 (.agg #[.int .u64 0,.int .u64 0]):=⟨Tryz.underlying86,by kernel_rfl,rfl,by decide⟩
open Go.Cg.Dk (By Nm)
open Go.Cg.Rn (R)
theorem recs_set2:∀ {l:List R} {i v:Nat},i < l.length->(recs l).set (i*2+1) (.int .u64 (v:Int))=recs (l.set i ((l.getD i (0,0)).1,v))
  | e::l,0,v,_=>by simp [recs,rcell]
  | e::l,i+1,v,h=>by
    have:=recs_set2 (l:=l) (i:=i) (v:=v) (by simpa using h)
    have e1:(recs (e::l))=rcell e++recs l:=by simp [recs]
    have e2:((e::l).set (i+1) (((e::l).getD (i+1) (0,0)).1,v))=e::l.set i ((l.getD i (0,0)).1,v):=by simp
    have e3:∀ q:List R,recs (e::q)=rcell e++recs q:=fun q=>by simp [recs]
    rw [e1,e2,e3,<-this,show (i+1)*2+1=i*2+1+1+1 from by omega]
    rfl
theorem recs_setA {l:List R} {i j v:Nat} (h:i < l.length) (_:True=True) (hj:j=i*2+1:=by omega):(recs l).set j (.int .u64 (v:Int))=recs (l.set i ((l.getD i (0,0)).1,v)):=by subst hj;exact recs_set2 h
theorem fput_last {how:Int} {l:List R} {r:R} (hl:0 < l.length):Rn.fput how l r=if how≠0/\(l.getD (l.length - 1) (0,0)).1=r.1 then l.set (l.length - 1) ((l.getD (l.length - 1) (0,0)).1,Rn.comb how (l.getD (l.length - 1) (0,0)).2 r.2) else l++[r]:=by
  have hne:l≠[]:=List.length_pos_iff.1 hl
  obtain ⟨q,z,rfl⟩:∃q z,l=q++[z]:=⟨l.dropLast,l.getLast hne,(List.dropLast_concat_getLast hne).symm⟩
  have e1:(q++[z]).getD ((q++[z]).length - 1) (0,0)=z:=by simp [List.getD_eq_getElem?_getD]
  have e2:∀ y:R,(q++[z]).set ((q++[z]).length - 1) y=q++[y]:=fun y=>by simp [List.set_append]
  rw [e1,e2]
  unfold Rn.fput
  simp only [List.getLast?_append,List.getLast?_singleton,Option.some_or,List.dropLast_concat]
theorem fput_zero {l:List R} {r:R}:Rn.fput 0 l r=l++[r]:=by
  unfold Rn.fput
  split
  · rw [if_neg (by simp)]
  · rename_i h;rw [List.getLast?_eq_none_iff.1 h];rfl
theorem getDR_mem {l:List R} {i:Nat} (h:i < l.length):l.getD i (0,0)∈l:=by
  rw [List.getD_eq_getElem?_getD,List.getElem?_eq_getElem h];exact List.getElem_mem h
theorem fold_cases (how:Int) (l:List R) (r:R):how=0\/(how≠0/\l.length=0)\/(how≠0/\0 < l.length/\(l.getD (l.length - 1) (0,0)).1=r.1)\/(how≠0/\0 < l.length/\(l.getD (l.length - 1) (0,0)).1≠r.1):=by omega
theorem fput_ct (w:World) (fr:List Res) (fb:Nat) (how:Int) (A:Option Addr) (c:Nat) (l:List R) (r:R) (hl:∀ z∈l,z.1 < 18446744073709551616/\z.2 < 18446744073709551616) (hr:r.1 < 18446744073709551616/\r.2 < 18446744073709551616) (hn:l.length<=1099511627776) (H:Sat w (blk fb (.cells #[.int .i64 how,.slice A l.length c] 232)::row 91 2 (.slice A l.length c) l.length (recs l)::fr)):
    Rt Tryz.prog 161 #[.pointer (some ⟨fb,0,none⟩),.agg #[.int .u64 ((r.1:Nat):Int),.int .u64 ((r.2:Nat):Int)]] w fun v w'=>∃A' c',v=.tuple #[]/\Sat w' (blk fb (.cells #[.int .i64 how,.slice A' (Rn.fput how l r).length c'] 232)::row 91 2 (.slice A' (Rn.fput how l r).length c') (Rn.fput how l r).length (recs (Rn.fput how l r))::fr):=by
  refine en2 Tryz.func161 rfl Tryz.ntmps161 rfl fun a S=>?_
  refine sb ?_
  refine r_box (c:=#[.int .u64 ((r.1:Nat):Int),.int .u64 ((r.2:Nat):Int)]) S H rfl rfl rfl rfl rfl rfl fun a w b1 S H=>?_
  refine sn ?_
  refine r_seq ?_
  refine sr 6 S H t0 fun a w S H=>?_
  rcases fold_cases how l r with h0 | ⟨h0,hnil⟩ | ⟨h0,hpos,hkey⟩ | ⟨h0,hpos,hkey⟩
  · skip
    apply qb H rfl (by kernel_rfl)
    · skip
      refine qn 4 S t0 fun a S=>?_
      refine q_y S (y_ne S rfl rfl rfl) rfl rfl rfl fun a S=>?_
      have S:=S.retell (v':=.bool false) 14 rfl (by rw [decide_eq_false (by omega)])
      refine qn 18 S t0 fun a S=>?_
      exact q_nil S
    · intro a w S H
      refine r_condF S rfl ?_
      refine wp_skip ?_
      refine x_then ?_
      refine ha [0] 3 H fun w H HS=>?_
      refine tk 0 S HS fun a S=>?_
      refine tk 1 S HS fun a S=>?_
      refine tk 2 S HS fun a S=>?_
      refine tk 3 S HS fun a S=>?_
      refine tk 5 S HS fun a S=>?_
      refine hmemo [true,true,true,true,true,true,true,false,false,false,false] 4 (fun a w=>∃b2:Nat,Slots a 67 [(57,.pointer (some ⟨fb,0,none⟩)),(61,.slice A l.length c),(63,.slice (some ⟨b2,0,none⟩) 1 1),(67,undef)]/\Sat w (row 91 2 (.slice (some ⟨b2,0,none⟩) 1 1) 1 (recs [(r.1,r.2)])::blk b1 (.cells #[.int .u64 ((r.1:Nat):Int),.int .u64 ((r.2:Nat):Int)] 91)::blk fb (.cells #[.int .i64 how,.slice A l.length c] 232)::row 91 2 (.slice A l.length c) l.length (recs l)::fr)) ?_ fun K0=>?_
      · rintro a w ⟨b2,S,H⟩
        have HS:Sat w _:=pk [1] 4 H
        refine h1 7 ?_
        refine r_appendS (L':=fun A6 c7=>row 91 2 (.slice (some ⟨b2,0,none⟩) 1 1) 1 (recs [(r.1,r.2)])::blk b1 (.cells #[.int .u64 ((r.1:Nat):Int),.int .u64 ((r.2:Nat):Int)] 91)::blk fb (.cells #[.int .i64 how,.slice A l.length c] 232)::row 91 2 (.slice A6 (l.length+1) c7) (l.length+1) (recs (l++([(r.1,r.2)])))::fr) (xs':=recs (l++([(r.1,r.2)]))) 3 S H rfl rfl rfl rfl el86 (SlOk.ofRow (i:=0) H rfl) (one_recs _) (by simp only [maxLen];first | omega | (simp<;>omega)) (by first | omega | (simp<;>omega)) (recs_app l ([(r.1,r.2)])) (by first | omega | (simp<;>omega)) (fun _ _=>rfl) rfl rfl rfl fun a w A6 c7 hA6 S H=>?_
        refine sn ?_
        refine hk (pk [1] 4 H) fun HS=>?_
        refine tk 8 S HS fun a S=>?_
        refine tk 9 S HS fun a S=>?_
        refine h1 10 ?_
        refine rs 1 S H t0 fun a w S H=>?_
        refine hk (pk [1] 4 H) fun HS=>?_
        refine hz ?_
        refine r_end0 S Tryz.results161 ?_
        have e:Rn.fput how l r=l++([(r.1,r.2)]):=by rw [h0,fput_zero]
        have en:(Rn.fput how l r).length=l.length+1:=by rw [e];simp
        rw [en,e]
        exact ⟨_,_,rfl,pk [2,3] 4 H⟩
      refine h2 4 6 ?_ ?_
      · skip
        refine rs 1 S H t0 fun a w S H=>?_
        refine hk (pk [0] 3 H) fun HS=>?_
        refine h1 6 ?_
        refine r_lit (vs:=#[(0,.agg #[.int .u64 ((r.1:Nat):Int),.int .u64 ((r.2:Nat):Int)])]) (cs:=recs [(r.1,r.2)]) S H rfl rfl el86 (by kernel_rfl) (by decide) (by rfl) rfl rfl rfl fun a w b8 S H=>?_
        refine sn ?_
        refine hk (pk [1] 4 H) fun HS=>?_
        exact K0 _ _ ⟨_,S.sub ⟨rfl,rfl,rfl,rfl,trivial⟩,H⟩
      · skip
        refine r_lit (vs:=#[(0,.agg #[.int .u64 ((r.1:Nat):Int),.int .u64 ((r.2:Nat):Int)])]) (cs:=recs [(r.1,r.2)]) S H rfl rfl el86 (by kernel_rfl) (by decide) (by rfl) rfl rfl rfl fun a w b9 S H=>?_
        refine sn ?_
        refine hk (pk [1] 4 H) fun HS=>?_
        refine h1 4 ?_
        refine rs 1 S H t0 fun a w S H=>?_
        refine hk (pk [1] 4 H) fun HS=>?_
        exact K0 _ _ ⟨_,S.sub ⟨rfl,rfl,rfl,rfl,trivial⟩,H⟩
  · skip
    apply qb H rfl (by kernel_rfl)
    · skip
      refine qn 4 S t0 fun a S=>?_
      refine q_y S (y_ne S rfl rfl rfl) rfl rfl rfl fun a S=>?_
      have S:=S.retell (v':=.bool true) 14 rfl (by rw [decide_eq_true (by omega)])
      refine qn 2 S t0 fun a S=>?_
      refine q_y S (y_gt S rfl rfl rfl) rfl rfl rfl fun a S=>?_
      have S:=S.retell (v':=.bool false) 17 rfl (by rw [decide_eq_false (by omega)])
      refine qn 15 S t0 fun a S=>?_
      exact q_nil S
    · intro a w S H
      refine r_condF S rfl ?_
      refine wp_skip ?_
      refine x_then ?_
      refine ha [0] 3 H fun w H HS=>?_
      refine tk 0 S HS fun a S=>?_
      refine tk 1 S HS fun a S=>?_
      refine tk 2 S HS fun a S=>?_
      refine tk 3 S HS fun a S=>?_
      refine tk 5 S HS fun a S=>?_
      refine hmemo [true,true,true,true,true,true,true,false,false,false,false] 4 (fun a w=>∃b10:Nat,Slots a 67 [(57,.pointer (some ⟨fb,0,none⟩)),(61,.slice A l.length c),(63,.slice (some ⟨b10,0,none⟩) 1 1),(67,undef)]/\Sat w (row 91 2 (.slice (some ⟨b10,0,none⟩) 1 1) 1 (recs [(r.1,r.2)])::blk b1 (.cells #[.int .u64 ((r.1:Nat):Int),.int .u64 ((r.2:Nat):Int)] 91)::blk fb (.cells #[.int .i64 how,.slice A l.length c] 232)::row 91 2 (.slice A l.length c) l.length (recs l)::fr)) ?_ fun K0=>?_
      · rintro a w ⟨b10,S,H⟩
        have HS:Sat w _:=pk [1] 4 H
        refine h1 7 ?_
        refine r_appendS (L':=fun A14 c15=>row 91 2 (.slice (some ⟨b10,0,none⟩) 1 1) 1 (recs [(r.1,r.2)])::blk b1 (.cells #[.int .u64 ((r.1:Nat):Int),.int .u64 ((r.2:Nat):Int)] 91)::blk fb (.cells #[.int .i64 how,.slice A l.length c] 232)::row 91 2 (.slice A14 (l.length+1) c15) (l.length+1) (recs (l++([(r.1,r.2)])))::fr) (xs':=recs (l++([(r.1,r.2)]))) 3 S H rfl rfl rfl rfl el86 (SlOk.ofRow (i:=0) H rfl) (one_recs _) (by simp only [maxLen];first | omega | (simp<;>omega)) (by first | omega | (simp<;>omega)) (recs_app l ([(r.1,r.2)])) (by first | omega | (simp<;>omega)) (fun _ _=>rfl) rfl rfl rfl fun a w A14 c15 hA14 S H=>?_
        refine sn ?_
        refine hk (pk [1] 4 H) fun HS=>?_
        refine tk 8 S HS fun a S=>?_
        refine tk 9 S HS fun a S=>?_
        refine h1 10 ?_
        refine rs 1 S H t0 fun a w S H=>?_
        refine hk (pk [1] 4 H) fun HS=>?_
        refine hz ?_
        refine r_end0 S Tryz.results161 ?_
        have e:Rn.fput how l r=l++([(r.1,r.2)]):=by rw [List.eq_nil_of_length_eq_zero hnil];rfl
        have en:(Rn.fput how l r).length=l.length+1:=by rw [e];simp
        rw [en,e]
        exact ⟨_,_,rfl,pk [2,3] 4 H⟩
      refine h2 4 6 ?_ ?_
      · skip
        refine rs 1 S H t0 fun a w S H=>?_
        refine hk (pk [0] 3 H) fun HS=>?_
        refine h1 6 ?_
        refine r_lit (vs:=#[(0,.agg #[.int .u64 ((r.1:Nat):Int),.int .u64 ((r.2:Nat):Int)])]) (cs:=recs [(r.1,r.2)]) S H rfl rfl el86 (by kernel_rfl) (by decide) (by rfl) rfl rfl rfl fun a w b16 S H=>?_
        refine sn ?_
        refine hk (pk [1] 4 H) fun HS=>?_
        exact K0 _ _ ⟨_,S.sub ⟨rfl,rfl,rfl,rfl,trivial⟩,H⟩
      · skip
        refine r_lit (vs:=#[(0,.agg #[.int .u64 ((r.1:Nat):Int),.int .u64 ((r.2:Nat):Int)])]) (cs:=recs [(r.1,r.2)]) S H rfl rfl el86 (by kernel_rfl) (by decide) (by rfl) rfl rfl rfl fun a w b17 S H=>?_
        refine sn ?_
        refine hk (pk [1] 4 H) fun HS=>?_
        refine h1 4 ?_
        refine rs 1 S H t0 fun a w S H=>?_
        refine hk (pk [1] 4 H) fun HS=>?_
        exact K0 _ _ ⟨_,S.sub ⟨rfl,rfl,rfl,rfl,trivial⟩,H⟩
  · skip
    obtain ⟨b18,rfl⟩:=H.rowAt (i:=2) rfl hpos
    have hzz:=hl _ (getDR_mem (l:=l) (i:=l.length - 1) (by omega))
    apply qb H rfl (by kernel_rfl)
    · skip
      refine qn 4 S t0 fun a S=>?_
      refine q_y S (y_ne S rfl rfl rfl) rfl rfl rfl fun a S=>?_
      have S:=S.retell (v':=.bool true) 14 rfl (by rw [decide_eq_true (by omega)])
      refine qn 2 S t0 fun a S=>?_
      refine q_y S (y_gt S rfl rfl rfl) rfl rfl rfl fun a S=>?_
      have S:=S.retell (v':=.bool true) 17 rfl (by rw [decide_eq_true (by omega)])
      refine qn 7 S t0 fun a S=>?_
      refine q_y S (y_sub S rfl rfl rfl (wi64 (by omega) (by omega))) rfl rfl rfl fun a S=>?_
      have S:=S.retell (v':=.int .i64 (((l.length - 1):Nat):Int)) 25 rfl (int_eq (by omega))
      refine q_y S (y_index S rfl rfl rfl Tryz.underlying86 Tryz.sizeOf91 (by omega) (by omega)) rfl rfl rfl fun a S=>?_
      refine qn 1 S t0 fun a S=>?_
      refine q_y S (y_loadAt S rfl rfl Tryz.isAgg89 (fun w H=>(SlOk.ofRow (i:=2) H rfl).cell w H (recs_from (i:=(l.length - 1)) (by first | omega | (simp<;>omega)) 0 _ rfl))) rfl rfl rfl fun a S=>?_
      refine qn 2 S t0 fun a S=>?_
      refine q_y S (y_eq S rfl rfl rfl) rfl rfl rfl fun a S=>?_
      have S:=S.retell (v':=.bool true) 31 rfl (by rw [decide_eq_true (by omega)])
      refine qn 1 S t0 fun a S=>?_
      exact q_nil S
    · intro a w S H
      refine r_condT S rfl ?_
      refine r_seq ?_
      refine ha [0,1] 3 H fun w H HS=>?_
      refine tk 0 S HS fun a S=>?_
      refine tk 1 S HS fun a S=>?_
      refine tk 2 S HS fun a S=>?_
      refine tk 3 S HS fun a S=>?_
      refine tk 4 S HS fun a S=>?_
      refine tkY 5 S HS rfl (y_sub S rfl rfl rfl (wi64 (by omega) (by omega))) rfl rfl rfl fun a S=>?_
      have S:=S.retell (v':=.int .i64 (((l.length - 1):Nat):Int)) 38 rfl (int_eq (by omega))
      refine tk 6 S HS fun a S=>?_
      refine tk 7 S HS fun a S=>?_
      refine tk 8 S HS fun a S=>?_
      refine tk 9 S HS fun a S=>?_
      refine tk 10 S HS fun a S=>?_
      refine tk 11 S HS fun a S=>?_
      refine tk 12 S HS fun a S=>?_
      refine tk 13 S HS fun a S=>?_
      refine tk 14 S HS fun a S=>?_
      refine tkY 15 S HS rfl (y_sub S rfl rfl rfl (wi64 (by omega) (by omega))) rfl rfl rfl fun a S=>?_
      have S:=S.retell (v':=.int .i64 (((l.length - 1):Nat):Int)) 48 rfl (int_eq (by omega))
      refine tkY 16 S HS rfl (y_index S rfl rfl rfl Tryz.underlying86 Tryz.sizeOf91 (by omega) (by omega)) rfl rfl rfl fun a S=>?_
      refine tk 17 S HS fun a S=>?_
      refine tk 19 S HS fun a S=>?_
      refine tk 20 S HS fun a S=>?_
      refine h1 18 ?_
      refine r_y S H (y_loadAt S rfl rfl Tryz.isAgg89 (fun w H=>(SlOk.ofRow (i:=2) H rfl).cell w H (recs_from (i:=(l.length - 1)) (by first | omega | (simp<;>omega)) 1 _ rfl))) rfl rfl rfl fun a S=>?_
      refine sn ?_
      refine hk (pk [0,1] 3 H) fun HS=>?_
      refine h1 21 ?_
      refine r_call (args:=#[.int .i64 how,.int .u64 (((l.getD (l.length - 1) (0,0)).2:Nat):Int),.int .u64 ((r.2:Nat):Int)]) S rfl rfl Tryz.call134 (combine_ct (H:=H) _ _ how ((l.getD (l.length - 1) (0,0)).2) r.2 (by omega) (by omega)) rfl rfl rfl fun v a w hR S=>?_
      obtain ⟨rfl,H⟩:=hR
      refine sn ?_
      refine hk (pk [0,1] 3 H) fun HS=>?_
      refine tkY 22 S HS rfl (y_index S rfl rfl rfl Tryz.underlying86 Tryz.sizeOf91 (by omega) (by omega)) rfl rfl rfl fun a S=>?_
      refine tk 23 S HS fun a S=>?_
      refine h1 24 ?_
      refine r_setRowV (L':=blk b1 (.cells #[.int .u64 ((r.1:Nat):Int),.int .u64 ((r.2:Nat):Int)] 91)::blk fb (.cells #[.int .i64 how,.slice (some ⟨b18,0,none⟩) l.length c] 232)::row 91 2 (.slice (some ⟨b18,0,none⟩) l.length c) l.length (recs (l.set (l.length - 1) ((l.getD (l.length - 1) (0,0)).1,(Rn.comb how ((l.getD (l.length - 1) (0,0)).2) r.2))))::fr) 2 S H rfl rfl rfl rfl Tryz.sizeOf89 rfl rfl (by first | omega | (simp<;>omega)) (xs':=recs (l.set (l.length - 1) ((l.getD (l.length - 1) (0,0)).1,(Rn.comb how ((l.getD (l.length - 1) (0,0)).2) r.2)))) (recs_setA (by omega) rfl) rfl rfl rfl fun w H=>?_
      refine sn ?_
      refine hk (pk [0,1] 3 H) fun HS=>?_
      refine hz ?_
      refine x_then ?_
      refine wp_ret ?_
      refine x_thenRet ?_
      refine r_ret0 S Tryz.results161 ?_
      have e:Rn.fput how l r=l.set (l.length - 1) ((l.getD (l.length - 1) (0,0)).1,(Rn.comb how ((l.getD (l.length - 1) (0,0)).2) r.2)):=by rw [fput_last hpos,if_pos ⟨h0,hkey⟩]
      have en:(Rn.fput how l r).length=l.length:=by rw [e];simp
      rw [en,e]
      exact ⟨_,_,rfl,pk [1,2] 3 H⟩
  obtain ⟨b19,rfl⟩:=H.rowAt (i:=2) rfl hpos
  have hzz:=hl _ (getDR_mem (l:=l) (i:=l.length - 1) (by omega))
  apply qb H rfl (by kernel_rfl)
  · skip
    refine qn 4 S t0 fun a S=>?_
    refine q_y S (y_ne S rfl rfl rfl) rfl rfl rfl fun a S=>?_
    have S:=S.retell (v':=.bool true) 14 rfl (by rw [decide_eq_true (by omega)])
    refine qn 2 S t0 fun a S=>?_
    refine q_y S (y_gt S rfl rfl rfl) rfl rfl rfl fun a S=>?_
    have S:=S.retell (v':=.bool true) 17 rfl (by rw [decide_eq_true (by omega)])
    refine qn 7 S t0 fun a S=>?_
    refine q_y S (y_sub S rfl rfl rfl (wi64 (by omega) (by omega))) rfl rfl rfl fun a S=>?_
    have S:=S.retell (v':=.int .i64 (((l.length - 1):Nat):Int)) 25 rfl (int_eq (by omega))
    refine q_y S (y_index S rfl rfl rfl Tryz.underlying86 Tryz.sizeOf91 (by omega) (by omega)) rfl rfl rfl fun a S=>?_
    refine qn 1 S t0 fun a S=>?_
    refine q_y S (y_loadAt S rfl rfl Tryz.isAgg89 (fun w H=>(SlOk.ofRow (i:=2) H rfl).cell w H (recs_from (i:=(l.length - 1)) (by first | omega | (simp<;>omega)) 0 _ rfl))) rfl rfl rfl fun a S=>?_
    refine qn 2 S t0 fun a S=>?_
    refine q_y S (y_eq S rfl rfl rfl) rfl rfl rfl fun a S=>?_
    have S:=S.retell (v':=.bool false) 31 rfl (by rw [decide_eq_false (by omega)])
    refine qn 1 S t0 fun a S=>?_
    exact q_nil S
  · intro a w S H
    refine r_condF S rfl ?_
    refine wp_skip ?_
    refine x_then ?_
    refine ha [0] 3 H fun w H HS=>?_
    refine tk 0 S HS fun a S=>?_
    refine tk 1 S HS fun a S=>?_
    refine tk 2 S HS fun a S=>?_
    refine tk 3 S HS fun a S=>?_
    refine tk 5 S HS fun a S=>?_
    refine hmemo [true,true,true,true,true,true,true,false,false,false,false] 4 (fun a w=>∃b20:Nat,Slots a 67 [(57,.pointer (some ⟨fb,0,none⟩)),(61,.slice (some ⟨b19,0,none⟩) l.length c),(63,.slice (some ⟨b20,0,none⟩) 1 1),(67,undef)]/\Sat w (row 91 2 (.slice (some ⟨b20,0,none⟩) 1 1) 1 (recs [(r.1,r.2)])::blk b1 (.cells #[.int .u64 ((r.1:Nat):Int),.int .u64 ((r.2:Nat):Int)] 91)::blk fb (.cells #[.int .i64 how,.slice (some ⟨b19,0,none⟩) l.length c] 232)::row 91 2 (.slice (some ⟨b19,0,none⟩) l.length c) l.length (recs l)::fr)) ?_ fun K0=>?_
    · rintro a w ⟨b20,S,H⟩
      have HS:Sat w _:=pk [1] 4 H
      refine h1 7 ?_
      refine r_appendS (L':=fun A24 c25=>row 91 2 (.slice (some ⟨b20,0,none⟩) 1 1) 1 (recs [(r.1,r.2)])::blk b1 (.cells #[.int .u64 ((r.1:Nat):Int),.int .u64 ((r.2:Nat):Int)] 91)::blk fb (.cells #[.int .i64 how,.slice (some ⟨b19,0,none⟩) l.length c] 232)::row 91 2 (.slice A24 (l.length+1) c25) (l.length+1) (recs (l++([(r.1,r.2)])))::fr) (xs':=recs (l++([(r.1,r.2)]))) 3 S H rfl rfl rfl rfl el86 (SlOk.ofRow (i:=0) H rfl) (one_recs _) (by simp only [maxLen];first | omega | (simp<;>omega)) (by first | omega | (simp<;>omega)) (recs_app l ([(r.1,r.2)])) (by first | omega | (simp<;>omega)) (fun _ _=>rfl) rfl rfl rfl fun a w A24 c25 hA24 S H=>?_
      refine sn ?_
      refine hk (pk [1] 4 H) fun HS=>?_
      refine tk 8 S HS fun a S=>?_
      refine tk 9 S HS fun a S=>?_
      refine h1 10 ?_
      refine rs 1 S H t0 fun a w S H=>?_
      refine hk (pk [1] 4 H) fun HS=>?_
      refine hz ?_
      refine r_end0 S Tryz.results161 ?_
      have e:Rn.fput how l r=l++([(r.1,r.2)]):=by rw [fput_last hpos,if_neg (fun h=>hkey h.2)]
      have en:(Rn.fput how l r).length=l.length+1:=by rw [e];simp
      rw [en,e]
      exact ⟨_,_,rfl,pk [2,3] 4 H⟩
    refine h2 4 6 ?_ ?_
    · skip
      refine rs 1 S H t0 fun a w S H=>?_
      refine hk (pk [0] 3 H) fun HS=>?_
      refine h1 6 ?_
      refine r_lit (vs:=#[(0,.agg #[.int .u64 ((r.1:Nat):Int),.int .u64 ((r.2:Nat):Int)])]) (cs:=recs [(r.1,r.2)]) S H rfl rfl el86 (by kernel_rfl) (by decide) (by rfl) rfl rfl rfl fun a w b26 S H=>?_
      refine sn ?_
      refine hk (pk [1] 4 H) fun HS=>?_
      exact K0 _ _ ⟨_,S.sub ⟨rfl,rfl,rfl,rfl,trivial⟩,H⟩
    · skip
      refine r_lit (vs:=#[(0,.agg #[.int .u64 ((r.1:Nat):Int),.int .u64 ((r.2:Nat):Int)])]) (cs:=recs [(r.1,r.2)]) S H rfl rfl el86 (by kernel_rfl) (by decide) (by rfl) rfl rfl rfl fun a w b27 S H=>?_
      refine sn ?_
      refine hk (pk [1] 4 H) fun HS=>?_
      refine h1 4 ?_
      refine rs 1 S H t0 fun a w S H=>?_
      refine hk (pk [1] 4 H) fun HS=>?_
      exact K0 _ _ ⟨_,S.sub ⟨rfl,rfl,rfl,rfl,trivial⟩,H⟩

end Go.Proofs.YtoffbmhmocfmnaaGreatDoor
namespace Go.Proofs.YtoffbmhmocfmnaaGreatDoor
open Go.RowKit Go.Cg
set_option linter.unusedVariables false
set_option linter.unusedSimpArgs false
set_option maxRecDepth 8000
set_option synthInstance.maxHeartbeats 1000000
set_option synthInstance.maxSize 1000000
open Go.Cg.Dk (By Nm)
open Go.Cg.Rn (R Bd)
theorem wout_ct (w:World) (fr:List Res) (wb db:Nat) (n:Nm) (A:Option Addr) (c:Nat) (t:By) (d:Dk.Disk) (hcnt:d.files.length<=4398046511104) (ht:t.length<=1000) (H:Sat w (blk wb (.cells #[.pointer (some ⟨db,0,none⟩),str (n),.slice A t.length c,.bool false] 158)::row 5 1 (.slice A t.length c) t.length (u8s t)::diskR db d::fr)):
    Rt Tryz.prog 98 #[.pointer (some ⟨wb,0,none⟩)] w fun v w'=>∃A' c',v=.int .i64 (((Rn.wout n t d).2:Nat):Int)/\Sat w' (blk wb (.cells #[.pointer (some ⟨db,0,none⟩),str n,.slice A' 0 c',.bool (decide ((Rn.wout n t d).2≠0))] 158)::row 5 1 (.slice A' 0 c') 0 (u8s [])::diskR db (Rn.wout n t d).1::fr):=by
  refine en1 Tryz.func98 rfl Tryz.ntmps98 rfl fun a S=>?_
  refine sr 1 S H t0 fun a w S H=>?_
  refine r_seq ?_
  refine sr 6 S H t0 fun a w S H=>?_
  refine r_test S rfl (fun h10=>?_) (fun h10=>?_)
  · skip
    refine sr 1 S H t0 fun a w S H=>?_
    refine wp_ret ?_
    refine x_thenRet ?_
    refine r_ret1 S H Tryz.results98 (ro_tmp S rfl) ?_
    have ht0:t=[]:=List.eq_nil_of_length_eq_zero (by omega)
    have e:Rn.wout n t d=(d,0):=by unfold Rn.wout;rw [if_pos ht0]
    rw [e]
    subst ht0
    exact ⟨_,_,rfl,H⟩
  refine wp_skip ?_
  refine x_then ?_
  refine sb ?_
  refine rn 4 S H t0 fun a w S H=>?_
  refine r_call (args:=#[.slice A t.length c]) S rfl rfl Tryz.call127 (encode_ct (H:=H) _ _ _ _ t (SlOk.ofRow (i:=1) H rfl) (by omega)) rfl rfl rfl fun v a w hR S=>?_
  obtain ⟨A5,c6,rfl,H⟩:=hR
  refine rs 5 S H t0 fun a w S H=>?_
  refine r_seq ?_
  have henc:=Oc.enc_2 t
  rw [if_neg (by omega)] at henc
  have hle:=Oc.enc_l t
  refine sr 2 S H t0 fun a w S H=>?_
  refine r_test S rfl (fun h20=>?_) (fun h20=>?_)
  · skip
    refine ha [0,1,2] 4 H fun w H HS=>?_
    refine tk 0 S HS fun a S=>?_
    refine tk 1 S HS fun a S=>?_
    refine tk 2 S HS fun a S=>?_
    refine tk 3 S HS fun a S=>?_
    refine tk 4 S HS fun a S=>?_
    refine tk 5 S HS fun a S=>?_
    refine tk 6 S HS fun a S=>?_
    refine tk 7 S HS fun a S=>?_
    refine tk 8 S HS fun a S=>?_
    refine h1 9 ?_
    refine r_call (args:=#[.pointer (some ⟨db,0,none⟩),str (n),.slice A5 ((Oc.enc t).1.length) c6]) S rfl rfl Tryz.call25 (append_ct (H:=(pk [3,0,1,2] 4 H)) _ _ db d n (by omega) _ _ ((Oc.enc t).1) (SlOk.ofRow (i:=0) ((pk [3,0,1,2] 4 H)).drop rfl) (by omega)) rfl rfl rfl fun v a w hR S=>?_
    obtain ⟨rfl,H⟩:=hR
    refine sn ?_
    refine hk (pk [1,2,3] 4 H) fun HS=>?_
    refine tk 10 S HS fun a S=>?_
    refine hz ?_
    refine x_then ?_
    refine sr 10 S H t0 fun a w S H=>?_
    refine sr 2 S H t0 fun a w S H=>?_
    refine wp_ret ?_
    refine r_ret1 S H Tryz.results98 (ro_tmp S rfl) ?_
    have ht0:t≠[]:=fun h=>by rw [h] at h10;simp at h10
    have e:Rn.wout n t d=d.append n (Oc.enc t).1:=by unfold Rn.wout;rw [if_neg ht0]
    rw [e]
    have H:=H.nilRow 5 1
    have H:=pk [3,0,1] 5 H
    have eb:(decide ((((Dk.Disk.append n ((Oc.enc t).1) d).2:Nat):Int)≠0))=decide ((d.append n (Oc.enc t).1).2≠0):=decide_eq_decide.2 (by omega)
    rw [eb] at H
    exact ⟨none,0,rfl,H⟩
  exfalso;omega

theorem wput_ct (w:World) (fr:List Res) (wb db:Nat) (n:Nm) (r:R) (A:Option Addr) (c:Nat) (t:By) (d:Dk.Disk) (hcnt:d.files.length<=4398046511104) (ht:t.length < 800) (hr:r.1 < 18446744073709551616/\r.2 < 18446744073709551616) (H:Sat w (blk wb (.cells #[.pointer (some ⟨db,0,none⟩),str (n),.slice A t.length c,.bool false] 158)::row 5 1 (.slice A t.length c) t.length (u8s t)::diskR db d::fr)):
    Rt Tryz.prog 82 #[.pointer (some ⟨wb,0,none⟩),.agg #[.int .u64 ((r.1:Nat):Int),.int .u64 ((r.2:Nat):Int)]] w fun v w'=>∃A' c',v=.int .i64 (((Rn.wput n r t d).2.2:Nat):Int)/\Sat w' (blk wb (.cells #[.pointer (some ⟨db,0,none⟩),str n,.slice A' (Rn.wput n r t d).2.1.length c',.bool (decide ((Rn.wput n r t d).2.2≠0))] 158)::row 5 1 (.slice A' (Rn.wput n r t d).2.1.length c') (Rn.wput n r t d).2.1.length (u8s (Rn.wput n r t d).2.1)::diskR db (Rn.wput n r t d).1::fr):=by
  refine en2 Tryz.func82 rfl Tryz.ntmps82 rfl fun a S=>?_
  have hput:(Oc.put t 8 r.1).length=t.length+8:=by show (t++Oc.le 8 r.1).length=_;simp [Oc.le_len]
  refine sb ?_
  refine r_box (c:=#[.int .u64 ((r.1:Nat):Int),.int .u64 ((r.2:Nat):Int)]) S H rfl rfl rfl rfl rfl rfl fun a w b1 S H=>?_
  refine rs 1 S H t0 fun a w S H=>?_
  refine r_seq ?_
  refine sr 4 S H t0 fun a w S H=>?_
  refine r_condF S rfl ?_
  refine wp_skip ?_
  refine x_then ?_
  refine r_seq ?_
  refine ha [0,2,3] 4 H fun w H HS=>?_
  refine tk 0 S HS fun a S=>?_
  refine tk 1 S HS fun a S=>?_
  refine tk 2 S HS fun a S=>?_
  refine tk 3 S HS fun a S=>?_
  refine tk 5 S HS fun a S=>?_
  refine tk 6 S HS fun a S=>?_
  refine tk 8 S HS fun a S=>?_
  refine tk 9 S HS fun a S=>?_
  refine h1 4 ?_
  refine rs 1 S H t0 fun a w S H=>?_
  refine hk (pk [0,2,3] 4 H) fun HS=>?_
  refine h1 7 ?_
  refine r_call (args:=#[.slice A t.length c,.int .i64 8,.int .u64 ((r.1:Nat):Int)]) S rfl rfl Tryz.call97 (put_ct (H:=H) _ _ _ _ _ t (SlOk.ofRow (i:=2) H rfl) 8 r.1 (hr.1) (by omega)) rfl rfl rfl fun v a w hR S=>?_
  obtain ⟨A2,c3,rfl,H⟩:=hR
  refine sn ?_
  refine hk (pk [1,3,4] 5 H) fun HS=>?_
  refine h1 10 ?_
  refine r_call (args:=#[.slice A2 ((Oc.put t 8 r.1).length) c3,.int .i64 8,.int .u64 ((r.2:Nat):Int)]) S rfl rfl Tryz.call97 (put_ct (H:=H) _ _ _ _ _ (Oc.put t 8 r.1) (SlOk.ofRow (i:=0) H rfl) 8 r.2 (hr.2) (by omega)) rfl rfl rfl fun v a w hR S=>?_
  obtain ⟨A4,c5,rfl,H⟩:=hR
  refine sn ?_
  refine hk (pk [2,4,5] 6 H) fun HS=>?_
  refine tk 11 S HS fun a S=>?_
  refine tk 12 S HS fun a S=>?_
  refine h1 13 ?_
  refine rs 1 S H t0 fun a w S H=>?_
  refine hk (pk [2,4,5] 6 H) fun HS=>?_
  refine hz ?_
  refine x_then ?_
  refine r_seq ?_
  have et:=Rn.put_rb t r
  rw [et] at H
  try rw [et] at S
  have hrl:(t++Rn.rb r).length=t.length+16:=by simp
  refine sr 6 S H t0 fun a w S H=>?_
  refine r_test S rfl (fun h27=>?_) (fun h27=>?_)
  · skip
    refine sr 1 S H t0 fun a w S H=>?_
    refine wp_ret ?_
    refine x_thenRet ?_
    refine r_ret1 S H Tryz.results82 (ro_tmp S rfl) ?_
    have e:Rn.wput n r t d=(d,t++Rn.rb r,0):=Rn.wput_lt (by omega)
    rw [e]
    exact ⟨_,_,rfl,pk [3,0,5] 6 H⟩
  refine wp_skip ?_
  refine x_then ?_
  refine sb ?_
  refine rn 1 S H t0 fun a w S H=>?_
  refine r_call (args:=#[.pointer (some ⟨wb,0,none⟩)]) S rfl rfl Tryz.call98 (wout_ct (H:=(pk [3,0,5,1,2,4] 6 H)) _ _ wb db n _ _ (t++Rn.rb r) d (by omega) (by omega)) rfl rfl rfl fun v a w hR S=>?_
  obtain ⟨A6,c7,rfl,H⟩:=hR
  refine rs 1 S H t0 fun a w S H=>?_
  refine wp_ret ?_
  refine r_ret1 S H Tryz.results82 (ro_tmp S rfl) ?_
  have e:Rn.wput n r t d=((Rn.wout n (t++Rn.rb r) d).1,[],(Rn.wout n (t++Rn.rb r) d).2):=Rn.wput_ge (by omega)
  rw [e]
  exact ⟨_,_,rfl,pk [0,1,2] 6 H⟩

theorem wclose_ct (w:World) (fr:List Res) (wb db:Nat) (n:Nm) (A:Option Addr) (c:Nat) (t:By) (d:Dk.Disk) (hcnt:d.files.length<=4398046511104) (ht:t.length<=1000) (H:Sat w (blk wb (.cells #[.pointer (some ⟨db,0,none⟩),str (n),.slice A t.length c,.bool false] 158)::row 5 1 (.slice A t.length c) t.length (u8s t)::diskR db d::fr)):
    Rt Tryz.prog 84 #[.pointer (some ⟨wb,0,none⟩)] w fun v w'=>v=.int .i64 (((Rn.wclose n t d).2:Nat):Int)/\Sat w' (diskR db (Rn.wclose n t d).1::fr):=by
  refine en1 Tryz.func84 rfl Tryz.ntmps84 rfl fun a S=>?_
  refine sr 1 S H t0 fun a w S H=>?_
  refine r_seq ?_
  refine sr 4 S H t0 fun a w S H=>?_
  refine r_condF S rfl ?_
  refine wp_skip ?_
  refine x_then ?_
  refine sb ?_
  refine rn 1 S H t0 fun a w S H=>?_
  refine r_call (args:=#[.pointer (some ⟨wb,0,none⟩)]) S rfl rfl Tryz.call98 (wout_ct (H:=H) _ _ wb db n _ _ t d (hcnt) (ht)) rfl rfl rfl fun v a w hR S=>?_
  obtain ⟨A1,c2,rfl,H⟩:=hR
  refine rs 1 S H t0 fun a w S H=>?_
  refine r_seq ?_
  have hoc:=Rn.wout_cnt n t d
  refine sr 2 S H t0 fun a w S H=>?_
  refine r_test S rfl (fun h11=>?_) (fun h11=>?_)
  · skip
    refine ha [0,1] 3 H fun w H HS=>?_
    refine tk 0 S HS fun a S=>?_
    refine tk 1 S HS fun a S=>?_
    refine tk 2 S HS fun a S=>?_
    refine tk 3 S HS fun a S=>?_
    refine tk 4 S HS fun a S=>?_
    refine tk 5 S HS fun a S=>?_
    refine tk 6 S HS fun a S=>?_
    refine tk 7 S HS fun a S=>?_
    refine h1 8 ?_
    refine rs 1 S H (by omega) fun a w S H=>?_
    refine hk (pk [0,1] 3 H) fun HS=>?_
    refine tk 9 S HS fun a S=>?_
    refine hz ?_
    refine x_then ?_
    refine sr 4 S H t0 fun a w S H=>?_
    refine sr 2 S H t0 fun a w S H=>?_
    refine wp_ret ?_
    refine r_ret1 S H Tryz.results84 (ro_tmp S rfl) ?_
    have e:Rn.wclose n t d=(Rn.wout n t d).1.sync n:=by rw [Rn.wclose_out];rw [if_neg (by omega)]
    rw [e]
    exact ⟨rfl,pk [2] 3 H⟩
  refine wp_skip ?_
  refine x_then ?_
  refine sr 4 S H t0 fun a w S H=>?_
  refine sr 2 S H t0 fun a w S H=>?_
  refine wp_ret ?_
  refine r_ret1 S H Tryz.results84 (ro_tmp S rfl) ?_
  have e:Rn.wclose n t d=Rn.wout n t d:=by rw [Rn.wclose_out];rw [if_pos (by omega)]
  rw [e]
  exact ⟨rfl,pk [2] 3 H⟩

theorem neww_ct (w:World) (fr:List Res) (db:Nat) (n:Nm) (d:Dk.Disk) (hcnt:d.files.length<=4398046511104) (h0:(d.create n).2=0) (H:Sat w (diskR db d::fr)):
    Rt Tryz.prog 80 #[.pointer (some ⟨db,0,none⟩),str (n)] w fun v w'=>∃wb,v=.tuple #[.pointer (some ⟨wb,0,none⟩),.int .i64 0]/\Sat w' (blk wb (.cells #[.pointer (some ⟨db,0,none⟩),str n,.slice none 0 0,.bool false] 158)::row 5 1 (.slice none 0 0) 0 (u8s [])::diskR db (d.create n).1::fr):=by
  refine en2 Tryz.func80 rfl Tryz.ntmps80 rfl fun a S=>?_
  refine sr 2 S H t0 fun a w S H=>?_
  refine r_seq ?_
  refine sr 4 S H (by omega) fun a w S H=>?_
  refine sr 2 S H t0 fun a w S H=>?_
  refine r_test S rfl (fun h11=>?_) (fun h11=>?_)
  · skip
    exfalso;rw [h0] at h11;simp at h11
  refine wp_skip ?_
  refine x_then ?_
  refine sb ?_
  refine rn 2 S H t0 fun a w S H=>?_
  refine r_y S H (y_build (vs:=#[(0,.pointer (some ⟨db,0,none⟩)),(1,str (n))]) (v:=.agg #[.pointer (some ⟨db,0,none⟩),str (n),.slice none 0 0,.bool false]) S rfl rfl (fun w=>by kernel_rfl)) rfl rfl rfl fun a S=>?_
  refine r_box (c:=#[.pointer (some ⟨db,0,none⟩),str (n),.slice none 0 0,.bool false]) S H rfl rfl rfl rfl rfl rfl fun a w b1 S H=>?_
  refine rs 2 S H t0 fun a w S H=>?_
  refine wp_ret ?_
  refine r_ret2 S H Tryz.results80 (ro_tmp S rfl) (ro_tmp S rfl) ?_
  have H:=H.nilRow 5 1
  exact ⟨_,rfl,pk [1,0,2] 3 H⟩

theorem newwbad_ct (w:World) (fr:List Res) (db:Nat) (n:Nm) (d:Dk.Disk) (hcnt:d.files.length<=4398046511104) (h0:(d.create n).2≠0) (H:Sat w (diskR db d::fr)):
    Rt Tryz.prog 80 #[.pointer (some ⟨db,0,none⟩),str (n)] w fun v w'=>v=.tuple #[.pointer none,.int .i64 (((d.create n).2:Nat):Int)]/\Sat w' (diskR db (d.create n).1::fr):=by
  refine en2 Tryz.func80 rfl Tryz.ntmps80 rfl fun a S=>?_
  refine sr 2 S H t0 fun a w S H=>?_
  refine r_seq ?_
  refine sr 4 S H (by omega) fun a w S H=>?_
  refine sr 2 S H t0 fun a w S H=>?_
  refine r_test S rfl (fun h11=>?_) (fun h11=>?_)
  · skip
    refine sr 3 S H t0 fun a w S H=>?_
    refine wp_ret ?_
    refine x_thenRet ?_
    refine r_ret2 S H Tryz.results80 (ro_tmp S rfl) (ro_tmp S rfl) ?_
    exact ⟨rfl,H⟩
  exfalso;omega

theorem wputs_small (n:Nm) (l:List R) (d:Dk.Disk):(Rn.wputs n l [] d).2.1.length < 800:=by
  have key:∀ (l:List R) (t:By) (d:Dk.Disk),t.length < 800->(Rn.wputs n l t d).2.1.length < 800:=by
    intro l
    induction l with
    | nil=>exact fun t d h=>h
    | cons r l ih=>
      intro t d h
      unfold Rn.wputs;split
      · exact Rn.wput_small _ _ _ _
      · exact ih _ _ (Rn.wput_small _ _ _ _)
  exact key l [] d (by simp)
theorem write_ct (w:World) (fr:List Res) (db:Nat) (n:Nm) (d:Dk.Disk) (hcnt:d.files.length+1<=4398046511104) (A:Option Addr) (c:Nat) (l:List R) (ok:SlOk fr 2 A l.length c (recs l)) (hn:l.length<=1099511627776) (hl:Bd l) (H:Sat w (diskR db d::fr)):
    Rt Tryz.prog 104 #[.pointer (some ⟨db,0,none⟩),str (n),.slice A l.length c] w fun v w'=>v=.int .i64 (((Rn.write n l d).2:Nat):Int)/\Sat w' (diskR db (Rn.write n l d).1::fr):=by
  refine en3 Tryz.func104 rfl Tryz.ntmps104 rfl fun a S=>?_
  have hcc:=Dk.len_create d n
  refine sr 1 S H t0 fun a w S H=>?_
  rcases Nat.eq_zero_or_pos (d.create n).2 with hc0 | hc0
  · skip
    refine sb ?_
    refine rn 2 S H t0 fun a w S H=>?_
    refine r_call (args:=#[.pointer (some ⟨db,0,none⟩),str (n)]) S rfl rfl Tryz.call80 (neww_ct (H:=H) _ _ db n d (by omega) (by omega)) rfl rfl rfl fun v a w hR S=>?_
    obtain ⟨b1,rfl,H⟩:=hR
    refine rs 5 S H t0 fun a w S H=>?_
    refine r_seq ?_
    refine sr 2 S H t0 fun a w S H=>?_
    have S:=S.retell (v':=.bool false) 19 rfl rfl
    refine r_condF S rfl ?_
    refine wp_skip ?_
    refine x_then ?_
    refine r_seq ?_
    refine sr 3 S H t0 fun a w S H=>?_
    refine r_block ?_
    refine r_loop (ι:=Nat×Option Addr×Nat) (fun ⟨i,At,ct⟩ a w=>Slots a 36 [(7,.pointer (some ⟨b1,0,none⟩)),(21,.slice A l.length c),(22,.int .i64 ((l.length:Nat):Int)),(23,.int .i64 ((i:Nat):Int)),(36,undef)]/\Sat w (blk b1 (.cells #[.pointer (some ⟨db,0,none⟩),str (n),.slice At ((Rn.wputs n (l.take i) [] (d.create n).1).2.1.length) ct,.bool false] 158)::row 5 1 (.slice At ((Rn.wputs n (l.take i) [] (d.create n).1).2.1.length) ct) ((Rn.wputs n (l.take i) [] (d.create n).1).2.1.length) (u8s ((Rn.wputs n (l.take i) [] (d.create n).1).2.1))::diskR db (Rn.wputs n (l.take i) [] (d.create n).1).1::fr)/\(i<=l.length/\(Rn.wputs n (l.take i) [] (d.create n).1).2.2=0)) (fun ⟨i,At,ct⟩=>l.length - i) (0,none,0) ⟨S.sub ⟨rfl,rfl,rfl,rfl,rfl,trivial⟩,H,⟨Nat.zero_le _,rfl⟩⟩ (fun ⟨i,At,ct⟩ a w hI=>?_)
    obtain ⟨S,H,hI⟩:=hI
    obtain ⟨hil,hp⟩:=hI
    have hsc:=Rn.wputs_cnt n (l.take i) [] (d.create n).1
    have hsm:(Rn.wputs n (l.take i) [] (d.create n).1).2.1.length < 800:=wputs_small n (l.take i) _
    refine sr 1 S H t0 fun a w S H=>?_
    refine r_seq ?_
    refine r_test S rfl (fun h24=>?_) (fun h24=>?_)
    · skip
      refine wp_skip ?_
      refine x_then ?_
      refine r_seq ?_
      refine r_block ?_
      refine sb ?_
      obtain ⟨b2,o3,rfl⟩:=(((ok.more _).more _).more _).addr H (by first | omega | (simp<;>omega))
      refine r_y S H (y_index S rfl rfl rfl Tryz.underlying86 Tryz.sizeOf91 (by omega) (by omega)) rfl rfl rfl fun a S=>?_
      refine r_y S H (y_loadAggAt [.int .u64 (((l.getD i (0,0)).1:Nat):Int),.int .u64 (((l.getD i (0,0)).2:Nat):Int)] S rfl rfl (fun w=>⟨Tryz.isAgg91 w,Tryz.sizeOf91 w⟩) rfl (fun w H=>(((ok.more _).more _).more _).cells w H (recs_from (i:=i) (by first | omega | (simp<;>omega))))) rfl rfl rfl fun a S=>?_
      refine r_alloc S H rfl Tryz.zeroValue91 rfl rfl rfl rfl fun a w b4 S H=>?_
      replace H:Sat _ (blk b4 (.cells #[.int .u64 0,.int .u64 0] 91)::blk b1 (.cells #[.pointer (some ⟨db,0,none⟩),str (n),.slice At ((Rn.wputs n (l.take i) [] (d.create n).1).2.1.length) ct,.bool false] 158)::row 5 1 (.slice At ((Rn.wputs n (l.take i) [] (d.create n).1).2.1.length) ct) ((Rn.wputs n (l.take i) [] (d.create n).1).2.1.length) (u8s ((Rn.wputs n (l.take i) [] (d.create n).1).2.1))::diskR db (Rn.wputs n (l.take i) [] (d.create n).1).1::fr):=H
      refine rs 1 S H t0 fun a w S H=>?_
      have hwt:=Rn.wputs_take (n:=n) (l:=l) (i:=i) (t:=[]) (d:=(d.create n).1) (by omega) hp
      refine sb ?_
      refine rn 2 S H t0 fun a w S H=>?_
      refine r_call (args:=#[.pointer (some ⟨b1,0,none⟩),.agg #[.int .u64 (((l.getD i (0,0)).1:Nat):Int),.int .u64 (((l.getD i (0,0)).2:Nat):Int)]]) S rfl rfl Tryz.call82 (wput_ct (H:=(pk [1,2,3,0] 4 H)) _ _ b1 db n (l.getD i (0,0)) _ _ ((Rn.wputs n (l.take i) [] (d.create n).1).2.1) ((Rn.wputs n (l.take i) [] (d.create n).1).1) (by omega) (hsm) (hl.at (i:=i) (by omega))) rfl rfl rfl fun v a w hR S=>?_
      obtain ⟨A5,c6,rfl,H⟩:=hR
      refine rs 1 S H t0 fun a w S H=>?_
      refine sr 2 S H t0 fun a w S H=>?_
      refine r_test S rfl (fun h31=>?_) (fun h31=>?_)
      · skip
        refine sr 2 S H t0 fun a w S H=>?_
        refine wp_ret ?_
        refine x_blockRet ?_
        refine x_thenRet ?_
        refine x_thenRet ?_
        refine x_blockRet ?_
        refine x_thenRet ?_
        refine r_ret1 S H Tryz.results104 (ro_tmp S rfl) ?_
        have hst:=Rn.wputs_stop (n:=n) (l:=l) (i:=i) (t:=[]) (d:=(d.create n).1) (by omega) (by rw [hwt];omega)
        have e:=Rn.write_stop (n:=n) (l:=l) (d:=d) hc0 (by rw [hst,hwt];omega)
        rw [hst,hwt] at e
        rw [e]
        exact ⟨rfl,pk [2] 4 H⟩
      refine wp_skip ?_
      refine x_blockEnd ?_
      refine x_then ?_
      refine er 2 S H (by omega) fun a w S H=>?_
      refine x_then ?_
      have hp0:(Rn.wput n (l.getD i (0,0)) (Rn.wputs n (l.take i) [] (d.create n).1).2.1 (Rn.wputs n (l.take i) [] (d.create n).1).1).2.2=0:=by omega
      have hb0:decide ((Rn.wput n (l.getD i (0,0)) (Rn.wputs n (l.take i) [] (d.create n).1).2.1 (Rn.wputs n (l.take i) [] (d.create n).1).1).2.2≠0)=false:=by rw [hp0];rfl
      have H:=pk [0,1,2] 4 H
      rw [hb0,<-hwt] at H
      rw [<-hwt] at hp0
      exact ⟨(i+1,A5,c6),⟨S.sub ⟨rfl,rfl,rfl,rfl,rfl,trivial⟩,H,⟨by omega,hp0⟩⟩,by show l.length - (i+1) < l.length - i;omega⟩
    refine wp_exit ?_
    refine x_thenExit ?_
    refine x_thenExit ?_
    refine x_blockHere ?_
    refine x_then ?_
    refine sb ?_
    refine rn 1 S H t0 fun a w S H=>?_
    refine r_call (args:=#[.pointer (some ⟨b1,0,none⟩)]) S rfl rfl Tryz.call84 (wclose_ct (H:=H) _ _ b1 db n _ _ ((Rn.wputs n (l.take i) [] (d.create n).1).2.1) ((Rn.wputs n (l.take i) [] (d.create n).1).1) (by omega) (by omega)) rfl rfl rfl fun v a w hR S=>?_
    obtain ⟨rfl,H⟩:=hR
    refine rs 1 S H t0 fun a w S H=>?_
    refine wp_ret ?_
    refine r_ret1 S H Tryz.results104 (ro_tmp S rfl) ?_
    have hi:i=l.length:=by omega
    subst hi
    rw [List.take_length] at *
    rw [Rn.write_done hc0 hp]
    exact ⟨rfl,H⟩
  refine sb ?_
  refine rn 2 S H t0 fun a w S H=>?_
  refine r_call (args:=#[.pointer (some ⟨db,0,none⟩),str (n)]) S rfl rfl Tryz.call80 (newwbad_ct (H:=H) _ _ db n d (by omega) (by omega)) rfl rfl rfl fun v a w hR S=>?_
  obtain ⟨rfl,H⟩:=hR
  refine rs 5 S H t0 fun a w S H=>?_
  refine r_seq ?_
  refine sr 2 S H t0 fun a w S H=>?_
  refine r_test S rfl (fun h19=>?_) (fun h19=>?_)
  · skip
    refine sr 2 S H t0 fun a w S H=>?_
    refine wp_ret ?_
    refine x_thenRet ?_
    refine r_ret1 S H Tryz.results104 (ro_tmp S rfl) ?_
    rw [Rn.write_bad (by omega)]
    exact ⟨rfl,H⟩
  exfalso;omega

end Go.Proofs.YtoffbmhmocfmnaaGreatDoor
namespace Go.Proofs.YtoffbmhmocfmnaaGreatDoor
open Go.RowKit Go.Cg
set_option linter.unusedVariables false
set_option linter.unusedSimpArgs false
set_option maxRecDepth 8000
set_option synthInstance.maxHeartbeats 1000000
set_option synthInstance.maxSize 1000000
open Go.Cg.Rn (R)
open Go.Shelf
attribute [local go_sem] Oper.semAt_some
set_option maxRecDepth 100000 in
set_option maxHeartbeats 2000000 in
theorem vals_iter1 (kb blk off c:Nat) (l:List R) (hlen:l.length<=1099511627776) (Pw:World->Prop) (hPw:∀ W,Pw W->W.cell? ⟨kb,0,none⟩=some (.slice (some ⟨blk,off,none⟩) l.length c)/\∀ q,q < l.length->W.cell? ⟨blk,off+q*2,none⟩=some (.int .u64 (((l.getD q (0,0)).1:Nat):Int))/\W.cell? ⟨blk,off+q*2+1,none⟩=some (.int .u64 (((l.getD q (0,0)).2:Nat):Int))):
    Iter Tryz.prog 164 #[.pointer (some ⟨kb,0,none⟩)] (fun r:R=>#[.agg #[.int .u64 ((r.1:Nat):Int),.int .u64 ((r.2:Nat):Int)]]) l Pw:=by
  intro l_ J W hJP hJG hY h0
  have hJD:∀ i W,J i W->J i W.drew:=fun i W h=>hJG i W _ h (Hp.drew W) fun _ _=>rfl
  refine callsIn_of_wp Tryz.func164 rfl trivial ?_ rfl
  simp only [Tryz.ntmps164,List.size_toArray,List.length_cons,List.length_nil,Nat.reduceAdd,Nat.reduceSub,Array.replicate_succ,Array.replicate_zero,List.push_toArray,List.append_toArray,List.nil_append,List.cons_append]
  have hc0:=(hPw W (hJP _ _ h0)).1
  gi_wp2
  gi_loopw [7] (fun i wr=>∃q:Nat,q<=l.length/\i=.int .i64 (q:Int)/\J q wr) (fun i _=>((l.length:Int) - intOf i).toNat)
  case atStart=>exact ⟨0,Nat.zero_le _,rfl,h0⟩
  case round=>
    obtain ⟨q,hq,rfl,hJs⟩:=hrel
    have hP:=hPw wr (hJP _ _ hJs)
    have hcb:=hP.1
    by_cases hql:q=l.length
    · subst hql
      gi_wp2
      go_end0
      exact ⟨⟨_,rfl⟩,hJs⟩
    · have hlt:q < l.length:=by omega
      obtain ⟨hc1,hc2⟩:=hP.2 q hlt
      gi_wp2
      obtain ⟨fn,tmps,assign,body,hy,hR⟩:=hY q l[q] (wr.alloc (.cells #[.int .u64 ((l[q].1:Nat):Int),.int .u64 ((l[q].2:Nat):Int)] 91)) (List.getElem?_eq_getElem hlt) (hJG q wr _ hJs (Hp.alloc _ _) fun k hk=>Below.heap_alloc _ _ k hk)
      simp only [hy]
      gi_wp2
      refine hR.mono ?_
      rintro e W3 ⟨rfl,hJ3⟩
      gi_wp2
      go_roundw
      case rel=>exact ⟨q+1,by omega,by rw [show ((q:Int)+1)=((q+1:Nat):Int) from by omega],hJ3⟩
      case measure=>simp [intOf]<;>omega
set_option maxRecDepth 100000 in
set_option maxHeartbeats 2000000 in
theorem vals_iter0 (kb:Nat) (A:Option Addr) (c:Nat) (Pw:World->Prop) (hPw:∀ W,Pw W->W.cell? ⟨kb,0,none⟩=some (.slice A 0 c)):
    Iter Tryz.prog 164 #[.pointer (some ⟨kb,0,none⟩)] (fun r:R=>#[.agg #[.int .u64 ((r.1:Nat):Int),.int .u64 ((r.2:Nat):Int)]]) [] Pw:=by
  intro l_ J W hJP hJG hY h0
  have hJD:∀ i W,J i W->J i W.drew:=fun i W h=>hJG i W _ h (Hp.drew W) fun _ _=>rfl
  refine callsIn_of_wp Tryz.func164 rfl trivial ?_ rfl
  simp only [Tryz.ntmps164,List.size_toArray,List.length_cons,List.length_nil,Nat.reduceAdd,Nat.reduceSub,Array.replicate_succ,Array.replicate_zero,List.push_toArray,List.append_toArray,List.nil_append,List.cons_append]
  have hc0:=hPw W (hJP _ _ h0)
  gi_wp2
  gi_loopw [7] (fun i wr=>i=.int .i64 0/\J 0 wr) (fun _ _=>0)
  case atStart=>exact ⟨rfl,h0⟩
  case round=>
    obtain ⟨rfl,hJs⟩:=hrel
    gi_wp2
    go_end0
    exact ⟨⟨_,rfl⟩,hJs⟩
theorem vals_iter (kb:Nat) (A:Option Addr) (c:Nat) (l:List R) (L0:List Res) (ok:SlOk L0 2 A l.length c (recs l)) (hlen:l.length<=1099511627776) (w0:World) (H0:Sat w0 L0):
    Iter Tryz.prog 164 #[.pointer (some ⟨kb,0,none⟩)] (fun r:R=>#[.agg #[.int .u64 ((r.1:Nat):Int),.int .u64 ((r.2:Nat):Int)]]) l (fun W=>W.cell? ⟨kb,0,none⟩=some (.slice A l.length c)/\Sat W L0):=by
  by_cases hb:l=[]
  · subst hb
    exact vals_iter0 kb A c _ fun W h=>h.1
  · obtain ⟨blk,off,e⟩:=ok.addr (sz:=1) H0 (List.length_pos_iff.2 hb)
    subst e
    refine vals_iter1 kb blk off c l hlen _ fun W h=>⟨h.1,fun q hq=>?_⟩
    have h1:=ok.cell W h.2 (recs_from (l:=l) (i:=q) hq 0 _ rfl)
    have h2:=ok.cell W h.2 (recs_from (l:=l) (i:=q) hq 1 _ rfl)
    exact ⟨h1,by rw [Nat.add_assoc];exact h2⟩
end Go.Proofs.YtoffbmhmocfmnaaGreatDoor
namespace Go.Proofs.YtoffbmhmocfmnaaGreatDoor
open Go.RowKit Go.Cg
set_option linter.unusedVariables false
set_option linter.unusedSimpArgs false
set_option maxRecDepth 8000
set_option synthInstance.maxHeartbeats 1000000
set_option synthInstance.maxSize 1000000
open Go.Cg.Dk (By Nm)
open Go.Cg.Rn (R)
theorem values_ct (w:World) (fr:List Res) (A:Option Addr) (n c:Nat) (H:Sat w (fr)):
    Rt Tryz.prog 159 #[.slice A n c] w fun v w'=>∃kb,v=.func (.func 164) #[] #[.pointer (some ⟨kb,0,none⟩)]/\Sat w' (blk kb (.cells #[.slice A n c] 86)::fr):=by
  refine en1 Tryz.func159 rfl Tryz.ntmps159 rfl fun a S=>?_
  refine sb ?_
  refine r_box (c:=#[.slice A n c]) S H rfl rfl rfl rfl rfl rfl fun a w b1 S H=>?_
  refine rs 1 S H t0 fun a w S H=>?_
  refine sb ?_
  refine r_y S H (y_makeFunc (vs:=#[.pointer (some ⟨b1,0,none⟩)]) S rfl rfl) rfl rfl rfl fun a S=>?_
  refine rs 1 S H t0 fun a w S H=>?_
  refine wp_ret ?_
  refine r_ret1 S H Tryz.results159 (ro_tmp S rfl) ?_
  exact ⟨_,rfl,H⟩

theorem take_getD {zs:List R} {i:Nat} (h:i < zs.length):zs.take (i+1)=zs.take i++[zs.getD i (0,0)]:=by
  rw [List.take_add_one,List.getElem?_eq_getElem h,List.getD_eq_getElem?_getD,List.getElem?_eq_getElem h];rfl
theorem aseq_ct (w:World) (fr:List Res) (kb:Nat) (A:Option Addr) (c:Nat) (zs:List R) (ok:SlOk fr 2 A zs.length c (recs zs)) (hn:zs.length<=1099511627776) (H:Sat w (blk kb (.cells #[.slice A zs.length c] 86)::fr)):
    Rt Tryz.prog 166 #[.slice none 0 0,.func (.func 164) #[] #[.pointer (some ⟨kb,0,none⟩)]] w fun v w'=>∃A' c',v=.slice A' zs.length c'/\Sat w' (row 91 2 (.slice A' zs.length c') zs.length (recs zs)::blk kb (.cells #[.slice A zs.length c] 86)::fr):=by
  refine rt_enterM (n:=13) Tryz.func166 rfl Tryz.ntmps166 rfl fun a S=>?_
  replace S:Slots a 13 [(0,.slice none 0 0),(1,.func (.func 164) #[] #[.pointer (some ⟨kb,0,none⟩)]),(13,undef)]:=S
  refine sb ?_
  refine r_box (c:=#[.slice none 0 0]) S H rfl rfl rfl rfl rfl rfl fun a w b1 S H=>?_
  refine rs 1 S H t0 fun a w S H=>?_
  refine r_seq ?_
  refine sr 1 S H t0 fun a w S H=>?_
  refine r_block ?_
  have H:=H.nilRow 91 2
  replace S:=S.sub (E':=[(0,.slice none 0 0),(1,.func (.func 164) #[] #[.pointer (some ⟨kb,0,none⟩)]),(2,.pointer (some ⟨b1,0,none⟩)),(4,.slice none 0 0),(6,.func (.func 164) #[] #[.pointer (some ⟨kb,0,none⟩)]),(13,undef)]) ⟨rfl,rfl,rfl,rfl,rfl,rfl,trivial⟩
  refine wp_range (ι:=Option Addr×Nat) (κ:=Nat) (n:=13) (fun i ⟨Aq,cq⟩=>blk b1 (.cells #[.slice Aq ((zs.take i).length) cq] 86)::row 91 2 (.slice Aq ((zs.take i).length) cq) ((zs.take i).length) (recs (zs.take i))::blk kb (.cells #[.slice A zs.length c] 86)::fr) (fun i ⟨Aq,cq⟩=>True) [(0,.slice none 0 0),(1,.func (.func 164) #[] #[.pointer (some ⟨kb,0,none⟩)]),(2,.pointer (some ⟨b1,0,none⟩)),(4,.slice none 0 0),(6,.func (.func 164) #[] #[.pointer (some ⟨kb,0,none⟩)])] (fun x=>[(7,.agg #[.int .u64 ((x.1:Nat):Int),.int .u64 ((x.2:Nat):Int)])]++([(0,.slice none 0 0),(1,.func (.func 164) #[] #[.pointer (some ⟨kb,0,none⟩)]),(2,.pointer (some ⟨b1,0,none⟩)),(4,.slice none 0 0),(6,.func (.func 164) #[] #[.pointer (some ⟨kb,0,none⟩)])]++[(13,undef)])) S (none,0) (pk [1,0,2] 3 H) trivial rfl (enters_of Tryz.func164 (by kernel_rfl) rfl) (vals_iter kb A c zs fr ok hn _ H.drop.drop.drop) (fun _=>rfl) ?_ (fun _=>rfl) (fun _=>rfl) (fun x b2=>[(0,.slice none 0 0),(1,.func (.func 164) #[] #[.pointer (some ⟨kb,0,none⟩)]),(2,.pointer (some ⟨b1,0,none⟩)),(4,.slice none 0 0),(5,.pointer (some ⟨b2,0,none⟩)),(6,.func (.func 164) #[] #[.pointer (some ⟨kb,0,none⟩)]),(13,undef)]) (fun i ⟨Aq,cq⟩ x b2=>blk b2 (.cells #[.int .u64 ((x.1:Nat):Int),.int .u64 ((x.2:Nat):Int)] 91)::blk b1 (.cells #[.slice Aq ((zs.take i).length) cq] 86)::row 91 2 (.slice Aq ((zs.take i).length) cq) ((zs.take i).length) (recs (zs.take i))::blk kb (.cells #[.slice A zs.length c] 86)::fr) ?_ ?_ 0 (S.noCode rfl) ⟨rfl,rfl,rfl,rfl,rfl,trivial⟩ rfl ?_
  · rintro i ⟨Aq,cq⟩ W hF H
    exact ⟨by have:=(H.cellOf (i:=2) rfl).1 0;simpa using this,H.drop.drop.drop⟩
  · rintro l D i ⟨Aq,cq⟩ x a w r hx hF S H
    replace S:=S.sub (E':=[(0,.slice none 0 0),(1,.func (.func 164) #[] #[.pointer (some ⟨kb,0,none⟩)]),(2,.pointer (some ⟨b1,0,none⟩)),(4,.slice none 0 0),(6,.func (.func 164) #[] #[.pointer (some ⟨kb,0,none⟩)]),(7,.agg #[.int .u64 ((x.1:Nat):Int),.int .u64 ((x.2:Nat):Int)]),(13,undef)]) ⟨rfl,rfl,rfl,rfl,rfl,rfl,rfl,trivial⟩
    refine in_region ?_
    refine r_alloc S H rfl Tryz.zeroValue91 rfl rfl rfl rfl fun a w b2 S H=>?_
    replace H:Sat _ (blk b2 (.cells #[.int .u64 0,.int .u64 0] 91)::blk D (.deferred (some []))::blk l (.loop r)::blk b1 (.cells #[.slice Aq ((zs.take i).length) cq] 86)::row 91 2 (.slice Aq ((zs.take i).length) cq) ((zs.take i).length) (recs (zs.take i))::blk kb (.cells #[.slice A zs.length c] 86)::fr):=H
    refine rn 1 S H t0 fun a w S H=>?_
    refine r_nil ?_
    refine x_then ?_
    exact ⟨b2,S.sub ⟨rfl,rfl,rfl,rfl,rfl,rfl,rfl,trivial⟩,pk [1,2,0,3,4,5] 6 H⟩
  · rintro l D i ⟨Aq,cq⟩ x b2 a w r hx hF S H
    have hil:i < zs.length:=(List.getElem?_eq_some_iff.1 hx).1
    have hxq:x=zs.getD i (0,0):=by rw [List.getD_eq_getElem?_getD,hx];rfl
    subst hxq
    have htl:(zs.take i).length<=zs.length:=by simp;omega
    replace S:=S.sub (E':=[(2,.pointer (some ⟨b1,0,none⟩)),(5,.pointer (some ⟨b2,0,none⟩)),(13,undef)]) ⟨rfl,rfl,rfl,trivial⟩
    replace H:Sat _ (blk D (.deferred (some []))::blk l (.loop r)::blk b2 (.cells #[.int .u64 (((zs.getD i (0,0)).1:Nat):Int),.int .u64 (((zs.getD i (0,0)).2:Nat):Int)] 91)::blk b1 (.cells #[.slice Aq ((zs.take i).length) cq] 86)::row 91 2 (.slice Aq ((zs.take i).length) cq) ((zs.take i).length) (recs (zs.take i))::blk kb (.cells #[.slice A zs.length c] 86)::fr):=H
    refine in_block ?_
    refine in_region ?_
    refine rn 2 S H t0 fun a w S H=>?_
    refine r_lit (vs:=#[(0,.agg #[.int .u64 (((zs.getD i (0,0)).1:Nat):Int),.int .u64 (((zs.getD i (0,0)).2:Nat):Int)])]) (cs:=recs [(((zs.getD i (0,0)).1),((zs.getD i (0,0)).2))]) S H rfl rfl el86 (by kernel_rfl) (by decide) (by rfl) rfl rfl rfl fun a w b3 S H=>?_
    refine r_appendS (L':=fun A4 c5=>row 91 2 (.slice (some ⟨b3,0,none⟩) 1 1) 1 (recs [(((zs.getD i (0,0)).1),((zs.getD i (0,0)).2))])::blk D (.deferred (some []))::blk l (.loop r)::blk b2 (.cells #[.int .u64 (((zs.getD i (0,0)).1:Nat):Int),.int .u64 (((zs.getD i (0,0)).2:Nat):Int)] 91)::blk b1 (.cells #[.slice Aq ((zs.take i).length) cq] 86)::row 91 2 (.slice A4 ((zs.take i).length+1) c5) ((zs.take i).length+1) (recs ((zs.take i)++([(((zs.getD i (0,0)).1),((zs.getD i (0,0)).2))])))::blk kb (.cells #[.slice A zs.length c] 86)::fr) (xs':=recs ((zs.take i)++([(((zs.getD i (0,0)).1),((zs.getD i (0,0)).2))]))) 5 S H rfl rfl rfl rfl el86 (SlOk.ofRow (i:=0) H rfl) (one_recs _) (by simp only [maxLen];first | omega | (simp<;>omega)) (by first | omega | (simp<;>omega)) (recs_app (zs.take i) ([(((zs.getD i (0,0)).1),((zs.getD i (0,0)).2))])) (by first | omega | (simp<;>omega)) (fun _ _=>rfl) rfl rfl rfl fun a w A4 c5 hA4 S H=>?_
    refine rn 1 S H t0 fun a w S H=>?_
    refine r_nil ?_
    refine x_blockEnd ?_
    refine x_then ?_
    have e1:(zs.take i)++([(((zs.getD i (0,0)).1),((zs.getD i (0,0)).2))])=zs.take (i+1):=(take_getD hil).symm
    have n1:(zs.take i).length+1=(zs.take (i+1)).length:=by rw [<-e1];simp
    have H:=pk [1,2,4,5,6] 7 H
    rw [e1,n1] at H
    exact ⟨(A4,c5),H,trivial⟩
  · rintro D C a w ⟨Aq,cq⟩ hC S H hF
    replace S:Slots a 13 [(0,.slice none 0 0),(1,.func (.func 164) #[] #[.pointer (some ⟨kb,0,none⟩)]),(2,.pointer (some ⟨b1,0,none⟩)),(4,.slice none 0 0),(6,.func (.func 164) #[] #[.pointer (some ⟨kb,0,none⟩)]),(C+14,undef)]:=S
    have H:=Sat.mark1 hC H
    replace H:Sat _ (marksR C::blk b1 (.cells #[.slice Aq ((zs.take zs.length).length) cq] 86)::row 91 2 (.slice Aq ((zs.take zs.length).length) cq) ((zs.take zs.length).length) (recs (zs.take zs.length))::blk kb (.cells #[.slice A zs.length c] 86)::fr):=H
    refine x_blockEnd ?_
    refine x_then ?_
    refine sr 2 S H t0 fun a w S H=>?_
    refine wp_ret ?_
    refine m_ret1 14 S H Tryz.results166 (ro_tmp S rfl) fun w H=>?_
    have e:zs.take zs.length=zs:=List.take_length
    have H:=pk [1,2] 3 H
    rw [e] at H ⊢
    exact ⟨_,_,rfl,H⟩

theorem collect_ct (w:World) (fr:List Res) (kb:Nat) (A:Option Addr) (c:Nat) (zs:List R) (ok:SlOk fr 2 A zs.length c (recs zs)) (hn:zs.length<=1099511627776) (H:Sat w (blk kb (.cells #[.slice A zs.length c] 86)::fr)):
    Rt Tryz.prog 162 #[.func (.func 164) #[] #[.pointer (some ⟨kb,0,none⟩)]] w fun v w'=>∃A' c',v=.slice A' zs.length c'/\Sat w' (row 91 2 (.slice A' zs.length c') zs.length (recs zs)::blk kb (.cells #[.slice A zs.length c] 86)::fr):=by
  refine en1 Tryz.func162 rfl Tryz.ntmps162 rfl fun a S=>?_
  refine sr 1 S H t0 fun a w S H=>?_
  refine sb ?_
  refine rn 1 S H t0 fun a w S H=>?_
  refine r_call (args:=#[.slice none 0 0,.func (.func 164) #[] #[.pointer (some ⟨kb,0,none⟩)]]) S rfl rfl Tryz.call166 (aseq_ct (H:=H) _ _ kb A c zs ok hn) rfl rfl rfl fun v a w hR S=>?_
  obtain ⟨A5,c6,rfl,H⟩:=hR
  refine rs 1 S H t0 fun a w S H=>?_
  refine wp_ret ?_
  refine r_ret1 S H Tryz.results162 (ro_tmp S rfl) ?_
  exact ⟨_,_,rfl,H⟩

end Go.Proofs.YtoffbmhmocfmnaaGreatDoor
namespace Go.Proofs.YtoffbmhmocfmnaaGreatDoor
open Go.RowKit Go.Cg
set_option linter.unusedVariables false
set_option linter.unusedSimpArgs false
set_option maxRecDepth 8000
set_option synthInstance.maxHeartbeats 1000000
set_option synthInstance.maxSize 1000000
open Go.Cg.Rn (R)
open Go.Shelf Go.Proofs Go.Sort Go.Lib
attribute [local go_sem] Oper.semAt_some
set_option maxHeartbeats 2000000 in
set_option maxRecDepth 100000 in
theorem before_kit (x y:R) (W:World):Calls Tryz.prog 165 #[.agg #[.int .u64 (x.1:Int),.int .u64 (x.2:Int)],.agg #[.int .u64 (y.1:Int),.int .u64 (y.2:Int)]] W fun e w'=>e=.returned (.bool (Rn.ltb x y))/\∃q os',w'=grow (W.drewN q) os':=by
  have h1:Rn.ltb x y=(decide ((x.1:Int) < y.1)||(decide ((x.1:Int)=y.1)&&decide ((x.2:Int) < y.2))):=by
    unfold Rn.ltb;rw [Bool.eq_iff_iff];simp;omega
  rw [h1]
  go_enter Tryz.func165,Tryz.ntmps165
  have hg:∀ o o',∃q os',(W.alloc o).alloc o'=grow (W.drewN q) os':=fun o o'=>⟨0,_,by rw [alloc_eq_grow,alloc_eq_grow,grow_grow];rfl⟩
  by_cases h2:(x.1:Int) < y.1
  · go_wp2
    go_ret
    exact ⟨by simp [h2],hg _ _⟩
  · by_cases h3:(x.1:Int)=y.1
    · go_wp2
      go_ret
      exact ⟨by simp [h3],hg _ _⟩
    · go_wp2
      go_ret
      exact ⟨by simp [h3];omega,hg _ _⟩
def Gw (W w':World):Prop:=∃q os',w'=grow (W.drewN q) os'
theorem Gw.alloc (W:World) (o:Obj):Gw W (W.alloc o):=⟨0,_,by rw [alloc_eq_grow];rfl⟩
theorem Gw.drew (W:World):Gw W W.drew:=⟨1,#[],by simp;rfl⟩
theorem drewN_drewN (W:World) (m n:Nat):(W.drewN m).drewN n=W.drewN (m+n):=by simp [World.drewN,Nat.add_assoc]
theorem Gw.trans {a b c:World} (h:Gw a b) (k:Gw b c):Gw a c:=by
  obtain ⟨q,os,rfl⟩:=h;obtain ⟨q',os',rfl⟩:=k
  exact ⟨q+q',os++os',by rw [<-grow_grow,<-drewN_drewN];rfl⟩
theorem cells_kept (W:World) (a b c d:Value) (t u:TypeId) (w':World) (h:Gw ((W.alloc (.cells #[a,b] t)).alloc (.cells #[c,d] u)) w'):w'.cell? ⟨W.heap.size,0,none⟩=some a/\w'.cell? ⟨W.heap.size,1,none⟩=some b/\w'.cell? ⟨W.heap.size+1,0,none⟩=some c/\w'.cell? ⟨W.heap.size+1,1,none⟩=some d:=by
  obtain ⟨q,os,rfl⟩:=h
  have e0:(grow (((W.alloc (.cells #[a,b] t)).alloc (.cells #[c,d] u)).drewN q) os).heap[W.heap.size]? =some (.cells #[a,b] t):=by show ((((W.heap.push _).push _)++os)[W.heap.size]?)=_;rw [Array.getElem?_append_left (by simp;omega),Array.getElem?_push,if_neg (by simp),Array.getElem?_push_size]
  have e1:(grow (((W.alloc (.cells #[a,b] t)).alloc (.cells #[c,d] u)).drewN q) os).heap[W.heap.size+1]? =some (.cells #[c,d] u):=by show ((((W.heap.push (.cells #[a,b] t)).push _)++os)[W.heap.size+1]?)=_;rw [Array.getElem?_append_left (by simp),show W.heap.size+1=(W.heap.push (.cells #[a,b] t)).size from by simp,Array.getElem?_push_size]
  refine ⟨?_,?_,?_,?_⟩<;>simp [World.cell?,e0,e1]
set_option maxHeartbeats 4000000 in
set_option maxRecDepth 100000 in
theorem compare_kit (x y:R) (W:World):Calls Tryz.prog 160 #[.agg #[.int .u64 (x.1:Int),.int .u64 (x.2:Int)],.agg #[.int .u64 (y.1:Int),.int .u64 (y.2:Int)]] W fun e w'=>e=.returned (.int .i64 (Rn.cmp x y))/\∃q os',w'=grow (W.drewN q) os':=by
  have hb:=before_kit
  have h1:Rn.cmp x y=if Rn.ltb x y=true then -1 else if Rn.ltb y x=true then 1 else 0:=rfl
  rw [h1]
  have hG:=(Gw.alloc W (.cells #[.int .u64 (x.1:Int),.int .u64 (x.2:Int)] 91)).trans (Gw.alloc _ (.cells #[.int .u64 (y.1:Int),.int .u64 (y.2:Int)] 91))
  cases hp:Rn.ltb x y
  · cases hq:Rn.ltb y x
    all_goals
      go_enter Tryz.func160,Tryz.ntmps160
      go_wp2_with (go_at_call 165;first | (have hh:=hw1;clear hh;refine (hb y x _).mono ?_;rintro e w2 ⟨rfl,hw2⟩;rw [hq]) | (refine (hb x y _).mono ?_;rintro e w1 ⟨rfl,hw1⟩;rw [hp];have hk:=cells_kept W _ _ _ _ _ _ w1 hw1;obtain ⟨k0,k1,k2,k3⟩:=hk))
      go_ret
      exact ⟨rfl,(hG.trans hw1).trans hw2⟩
  · go_enter Tryz.func160,Tryz.ntmps160
    go_wp2_with (go_at_call 165;refine (hb x y _).mono ?_;rintro e w1 ⟨rfl,hw1⟩;rw [hp])
    go_ret
    exact ⟨rfl,hG.trans hw1⟩
end Go.Proofs.YtoffbmhmocfmnaaGreatDoor
namespace Go.Proofs.YtoffbmhmocfmnaaGreatDoor
open Go.RowKit Go.Cg
set_option linter.unusedVariables false
set_option linter.unusedSimpArgs false
set_option maxRecDepth 8000
set_option synthInstance.maxHeartbeats 1000000
set_option synthInstance.maxSize 1000000
open Go.Cg.Rn (R)
open Go.Shelf Go.Proofs Go.Sort Go.Lib
theorem getDR_bang (l:List R) (i:Nat):l.toArray[i]! =l.getD i (0,0):=by
  by_cases h:i < l.length
  · rw [getElem!_pos _ i (by simpa using h),List.getD_eq_getElem?_getD,List.getElem?_eq_getElem h];rfl
  · rw [getElem!_neg _ i (by simpa using h),List.getD_eq_getElem?_getD,List.getElem?_eq_none (by omega)];rfl
theorem flat_at (l:List R) (t:Nat) (h:t < l.length*2):(flatK rcell 2 l.toArray)[t]! =(recs l)[t]! :=by
  rw [get_flatK _ _ _ _ (by simpa using h),getDR_bang]
  have h2:(rcell (l.getD (t / 2) (0,0)))[t%2]? =some (rcell (l.getD (t / 2) (0,0)))[t%2]! :=by
    rw [List.getElem!_eq_getElem?_getD,List.getElem?_eq_getElem (by simp [rcell];omega)];rfl
  have h3:=recs_from (l:=l) (i:=t / 2) (by omega) (t%2) _ h2
  rw [show t / 2*2+t%2=t from by omega] at h3
  rw [List.getElem!_eq_getElem?_getD (l:=recs l),h3];rfl
theorem held_row {w:World} {fr:List Res} {e:TypeId} {g c:Nat} {zs:List R} (H:Sat w (row e 2 (.slice (some ⟨g,0,none⟩) zs.length c) zs.length (recs zs)::fr)):HoldsK rcell 2 w g 0 zs.toArray/\g < w.heap.size:=by
  obtain ⟨F,hF,⟨⟨_,ho⟩,hk⟩⟩:=H.head
  have hg:g < w.heap.size:=hF g ((hk g).2 rfl)
  refine ⟨fun j hj=>?_,hg⟩
  rw [size_flatK] at hj
  have hj:j < zs.length*2:=by simpa using hj
  rcases ho with ⟨h,_⟩ | ⟨g',cap,cur,hv,_,hb,h1,h2,h3,h4⟩
  · cases h
  · cases hv
    have hc:cur[0+j]? =some (recs zs)[j]! :=by
      rw [Nat.zero_add,<-Array.getElem?_toList,List.getElem!_eq_getElem?_getD,<-h4,List.getElem?_take,if_pos hj,Array.getElem?_toList,Array.getElem?_eq_getElem (by omega)];rfl
    refine ⟨?_,by simp [World.frozen?,hb]⟩
    rw [flat_at _ _ hj]
    simp only [World.cell?,hb,id]
    simpa using hc
theorem Sat.sortedR {w:World} {fr:List Res} {e:TypeId} {g c n:Nat} {zs zs':List R} {os:Array Obj} (hl:zs'.length=zs.length) (H:Sat w (row e 2 (.slice (some ⟨g,0,none⟩) zs.length c) zs.length (recs zs)::fr)):
    Sat (sortWorldK rcell 2 w g 0 n zs'.toArray os) (row e 2 (.slice (some ⟨g,0,none⟩) zs.length c) zs.length (recs zs')::fr):=by
  have hhp:Hp w (sortWorldK rcell 2 w g 0 n zs'.toArray os):=⟨rfl,rfl,rfl,by simp [sortWorldK,grow,putRowK,putRow,mapBlock,Sort.ahead]⟩
  have hat:∀ k,k < w.heap.size->(sortWorldK rcell 2 w g 0 n zs'.toArray os).heap[k]? =if g=k then (w.heap[k]?).map (onCells (putCells id 0 (flatK rcell 2 zs'.toArray))) else w.heap[k]? :=fun k hk=>by
    show ((w.heap.modify g _)++os)[k]? =_
    rw [Array.getElem?_append_left (by simpa using hk),Array.getElem?_modify]
  refine H.turn hhp fun F hF hP=>⟨F,fun k hk=>⟨Nat.lt_of_lt_of_le (hF k hk) hhp.size,.inl hk⟩,⟨⟨by simp [hl],?_⟩,hP.2⟩,fun k hk hf=>?_⟩
  · have hg:g < w.heap.size:=hF g ((hP.2 g).2 rfl)
    rcases hP.1.2 with ⟨h,_⟩ | ⟨g',cap,cur,hv,h0,hb,h1,h2,h3,h4⟩
    · cases h
    · cases hv
      refine .inr ⟨g,c,putCells id 0 (flatK rcell 2 zs'.toArray) cur,rfl,Nat.zero_le _,?_,h1,h2,by simp [putCells,h3],?_⟩
      · rw [hat g hg,if_pos rfl,hb];rfl
      · apply List.ext_getElem?
        intro t
        by_cases ht:t < zs.length*2
        · rw [List.getElem?_take,if_pos ht,Array.getElem?_toList]
          simp only [putCells,Array.getElem?_mapIdx]
          rw [Array.getElem?_eq_getElem (by omega)]
          simp only [Option.map_some,Nat.zero_le,true_and,Nat.zero_add,size_flatK,List.size_toArray,Nat.sub_zero,id]
          rw [if_pos (by omega),flat_at _ _ (by omega),List.getElem!_eq_getElem?_getD,List.getElem?_eq_getElem (by simp;omega)];rfl
        · rw [List.getElem?_take,if_neg ht,List.getElem?_eq_none (by simp;omega)]
  · rw [hat k hk,if_neg (fun e=>hf ((hP.2 k).2 (by rw [e];rfl)))]
theorem swo_ltb:SWO (ltOf Rn.cmp):=by
  have e:ltOf Rn.cmp=Rn.ltb:=by funext x y;exact Rn.cmp_lt x y
  rw [e]
  exact ⟨Rn.ltb_irr,fun _ _ _ h k=>Rn.ltb_tr h k,fun _ _ _ h k=>Rn.ltb_ntr h k⟩
theorem one_rcell (x:R):∀ v∈rcell x,v.oneCell'=true:=by
  intro v hv;simp [rcell] at hv;rcases hv with rfl | rfl<;>rfl
theorem sortf_ct (w:World) (fr:List Res) (A:Option Addr) (c:Nat) (zs:List R) (hn:zs.length<=1099511627776) (H:Sat w (row 91 2 (.slice A zs.length c) zs.length (recs zs)::fr)):
    Rt Tryz.prog 163 #[.slice A zs.length c,.func (.func 160) #[] #[]] w fun v w'=>v=.tuple #[]/\Sat w' (row 91 2 (.slice A zs.length c) zs.length (recs (Rn.sort zs))::fr):=by
  by_cases hz:zs=[]
  · subst hz
    have h:=AnyF.slices_SortFunc_none { sortFA with } A c (.func (.func 160) #[] #[]) w
    change Calls _ 163 _ _ _ at h
    refine h.mono ?_
    rintro e w' ⟨rfl,rfl⟩
    exact ⟨_,rfl,rfl,H⟩
  · have hpos:0 < zs.length:=List.length_pos_iff.2 hz
    obtain ⟨g,rfl⟩:=H.rowAt (i:=0) rfl hpos
    obtain ⟨hH,hg⟩:=held_row H
    have eg:∀ args w,(callFunc 160 args).run Tryz.prog w=.ok (.enter 160 args) w:=enters_of Tryz.func160 (by kernel_rfl) rfl
    have h:=AnyQ.slices_SortFunc_total sortFA 2 Tryz.isAgg91 Tryz.sizeOf91 rcell (fun _=>rfl) one_rcell Rn.cmp swo_ltb 160 #[] g 0 c zs.toArray w eg (fun _ _ _ _ x y=>compare_kit x y _) hH hg (by simp;omega) (fun x y h k=>Rn.ltb_one (by rw [<-Rn.cmp_lt];exact h) (by rw [<-Rn.cmp_lt];exact k))
    change Calls _ 163 _ _ _ at h
    refine h.mono ?_
    rintro e w' ⟨rfl,n,os,rfl⟩
    refine ⟨_,rfl,rfl,?_⟩
    have e:(zs.toArray.toList.mergeSort fun x y=> !(ltOf Rn.cmp) y x)=Rn.sort zs:=by
      rw [<-Rn.merge_sort]
      congr 1;funext x y;exact congrArg (!·) (Rn.cmp_lt y x)
    rw [e]
    exact Sat.sortedR (by simp) H
end Go.Proofs.YtoffbmhmocfmnaaGreatDoor
namespace Go.Proofs.YtoffbmhmocfmnaaGreatDoor
open Go.RowKit Go.Cg
set_option linter.unusedVariables false
set_option linter.unusedSimpArgs false
set_option maxRecDepth 8000
set_option synthInstance.maxHeartbeats 1000000
set_option synthInstance.maxSize 1000000
open Go.Cg.Rn (R Bd)
theorem sortedf_ct (w:World) (fr:List Res) (kb:Nat) (A:Option Addr) (c:Nat) (zs:List R) (ok:SlOk fr 2 A zs.length c (recs zs)) (hn:zs.length<=1099511627776) (H:Sat w (blk kb (.cells #[.slice A zs.length c] 86)::fr)):
    Rt Tryz.prog 158 #[.func (.func 164) #[] #[.pointer (some ⟨kb,0,none⟩)],.func (.func 160) #[] #[]] w fun v w'=>∃A' c',v=.slice A' zs.length c'/\Sat w' (row 91 2 (.slice A' zs.length c') zs.length (recs (Rn.sort zs))::blk kb (.cells #[.slice A zs.length c] 86)::fr):=by
  refine en2 Tryz.func158 rfl Tryz.ntmps158 rfl fun a S=>?_
  refine sr 1 S H t0 fun a w S H=>?_
  refine sb ?_
  refine rn 1 S H t0 fun a w S H=>?_
  refine r_call (args:=#[.func (.func 164) #[] #[.pointer (some ⟨kb,0,none⟩)]]) S rfl rfl Tryz.call162 (collect_ct (H:=H) _ _ kb A c zs ok (by first | omega | (simp<;>omega))) rfl rfl rfl fun v a w hR S=>?_
  obtain ⟨A5,c6,rfl,H⟩:=hR
  refine rs 1 S H t0 fun a w S H=>?_
  refine sb ?_
  refine rn 2 S H t0 fun a w S H=>?_
  refine r_call (args:=#[.slice A5 zs.length c6,.func (.func 160) #[] #[]]) S rfl rfl Tryz.call163 (sortf_ct _ _ _ _ zs (by first | omega | (simp<;>omega)) H) rfl rfl rfl fun v a w hR S=>?_
  obtain ⟨rfl,H⟩:=hR
  refine sn ?_
  refine sr 2 S H t0 fun a w S H=>?_
  refine wp_ret ?_
  refine r_ret1 S H Tryz.results158 (ro_tmp S rfl) ?_
  exact ⟨_,_,rfl,H⟩

theorem sorted14_ct (w:World) (fr:List Res) (A:Option Addr) (c:Nat) (l:List R) (ok:SlOk fr 2 A l.length c (recs l)) (hn:l.length<=1099511627776) (hl:Bd l) (how:Int) (H:Sat w (fr)):
    Rt Tryz.prog 149 #[.slice A l.length c,.int .i64 how] w fun v w'=>∃A' c',v=.tuple #[.slice A' (Rn.sorted how l).1.length c',.int .i64 (((Rn.sorted how l).2:Nat):Int)]/\Sat w' (row 91 2 (.slice A' (Rn.sorted how l).1.length c') (Rn.sorted how l).1.length (recs (Rn.sorted how l).1)::fr):=by
  refine en2 Tryz.func149 rfl Tryz.ntmps149 rfl fun a S=>?_
  refine sr 2 S H t0 fun a w S H=>?_
  refine r_seq ?_
  refine sb ?_
  refine rn 1 S H t0 fun a w S H=>?_
  refine r_call (args:=#[.int .i64 how]) S rfl rfl Tryz.call157 (hright_ct (H:=H) _ _ how) rfl rfl rfl fun v a w hR S=>?_
  obtain ⟨rfl,H⟩:=hR
  refine rs 1 S H t0 fun a w S H=>?_
  refine r_cond S rfl (fun h11=>?_) (fun h11=>?_)
  · skip
    refine sr 2 S H t0 fun a w S H=>?_
    refine wp_ret ?_
    refine x_thenRet ?_
    refine r_ret2 S H Tryz.results149 (ro_tmp S rfl) (ro_tmp S rfl) ?_
    have hr:Rn.hright how=false:=by simpa using h11
    have e:Rn.sorted how l=([],1):=by unfold Rn.sorted;rw [hr];rfl
    rw [e]
    have H:=H.nilRow 91 2
    exact ⟨none,0,rfl,H⟩
  refine wp_skip ?_
  refine x_then ?_
  refine sb ?_
  refine rn 1 S H t0 fun a w S H=>?_
  refine r_y S H (y_build (vs:=#[(0,.int .i64 how)]) (v:=.agg #[.int .i64 how,.slice none 0 0]) S rfl rfl (fun w=>by kernel_rfl)) rfl rfl rfl fun a S=>?_
  refine r_alloc S H rfl Tryz.zeroValue232 rfl rfl rfl rfl fun a w b1 S H=>?_
  replace H:Sat _ (blk b1 (.cells #[.int .i64 0,.slice none 0 0] 232)::fr):=H
  refine rs 1 S H t0 fun a w S H=>?_
  refine r_seq ?_
  refine sb ?_
  refine rn 1 S H t0 fun a w S H=>?_
  refine r_call (args:=#[.slice A l.length c]) S rfl rfl Tryz.call159 (values_ct (H:=H) _ _ _ _ _) rfl rfl rfl fun v a w hR S=>?_
  obtain ⟨kb4,rfl,H⟩:=hR
  refine r_call (args:=#[.func (.func 164) #[] #[.pointer (some ⟨kb4,0,none⟩)],.func (.func 160) #[] #[]]) S rfl rfl Tryz.call158 (sortedf_ct (H:=H) _ _ kb4 A c l (ok.more _) (by first | omega | (simp<;>omega))) rfl rfl rfl fun v a w hR S=>?_
  obtain ⟨A7,c8,rfl,H⟩:=hR
  refine rs 2 S H t0 fun a w S H=>?_
  refine r_block ?_
  have H:=H.nilRow 91 2
  refine r_loop (ι:=Nat×Option Addr×Nat) (fun ⟨i,Af,cf⟩ a w=>Slots a 27 [(4,.slice none 0 0),(5,.int .i64 0),(6,.pointer (some ⟨b1,0,none⟩)),(16,.slice A7 l.length c8),(17,.int .i64 ((l.length:Nat):Int)),(18,.int .i64 ((i:Nat):Int)),(27,undef)]/\Sat w (blk b1 (.cells #[.int .i64 how,.slice Af ((Rn.fold how ((Rn.sort l).take i)).length) cf] 232)::row 91 2 (.slice Af ((Rn.fold how ((Rn.sort l).take i)).length) cf) ((Rn.fold how ((Rn.sort l).take i)).length) (recs (Rn.fold how ((Rn.sort l).take i)))::row 91 2 (.slice A7 l.length c8) l.length (recs (Rn.sort l))::fr)/\(i<=l.length)) (fun ⟨i,Af,cf⟩=>l.length - i) (0,none,0) ⟨S.sub ⟨rfl,rfl,rfl,rfl,rfl,rfl,rfl,trivial⟩,pk [3,0,1] 4 H,(Nat.zero_le _)⟩ (fun ⟨i,Af,cf⟩ a w hI=>?_)
  obtain ⟨S,H,hI⟩:=hI
  have hil:=hI
  refine sr 1 S H t0 fun a w S H=>?_
  refine r_seq ?_
  refine r_test S rfl (fun h19=>?_) (fun h19=>?_)
  · skip
    refine wp_skip ?_
    refine x_then ?_
    refine r_seq ?_
    refine r_block ?_
    refine sb ?_
    obtain ⟨b9,rfl⟩:=H.rowAt (i:=2) rfl (by first | omega | (simp<;>omega))
    refine r_y S H (y_index S rfl rfl rfl Tryz.underlying86 Tryz.sizeOf91 (by omega) (by omega)) rfl rfl rfl fun a S=>?_
    refine r_y S H (y_loadAggAt [.int .u64 ((((Rn.sort l).getD i (0,0)).1:Nat):Int),.int .u64 ((((Rn.sort l).getD i (0,0)).2:Nat):Int)] S rfl rfl (fun w=>⟨Tryz.isAgg91 w,Tryz.sizeOf91 w⟩) rfl (fun w H=>(SlOk.ofRow (i:=2) H rfl).cells w H (recs_from (i:=i) (by first | omega | (simp<;>omega))))) rfl rfl rfl fun a S=>?_
    refine r_alloc S H rfl Tryz.zeroValue91 rfl rfl rfl rfl fun a w b11 S H=>?_
    replace H:Sat _ (blk b11 (.cells #[.int .u64 0,.int .u64 0] 91)::blk b1 (.cells #[.int .i64 how,.slice Af ((Rn.fold how ((Rn.sort l).take i)).length) cf] 232)::row 91 2 (.slice Af ((Rn.fold how ((Rn.sort l).take i)).length) cf) ((Rn.fold how ((Rn.sort l).take i)).length) (recs (Rn.fold how ((Rn.sort l).take i)))::row 91 2 (.slice (some ⟨b9,0,none⟩) l.length c8) l.length (recs (Rn.sort l))::fr):=H
    refine rs 1 S H t0 fun a w S H=>?_
    refine r_region ?_
    refine rn 1 S H t0 fun a w S H=>?_
    refine r_call (args:=#[.pointer (some ⟨b1,0,none⟩),.agg #[.int .u64 ((((Rn.sort l).getD i (0,0)).1:Nat):Int),.int .u64 ((((Rn.sort l).getD i (0,0)).2:Nat):Int)]]) S rfl rfl Tryz.call161 (fput_ct (H:=(pk [1,2,0,3] 4 H)) _ _ b1 how _ _ (Rn.fold how ((Rn.sort l).take i)) ((Rn.sort l).getD i (0,0)) ((Rn.fold_bd how _ (hl.sort.take i))) ((hl.sort.at (by simp;omega))) (by have h1:=Rn.fold_len how ((Rn.sort l).take i);simp at h1;omega)) rfl rfl rfl fun v a w hR S=>?_
    obtain ⟨A12,c13,rfl,H⟩:=hR
    refine r_nil ?_
    refine x_blockEnd ?_
    refine x_then ?_
    refine er 2 S H (by omega) fun a w S H=>?_
    refine x_then ?_
    have e1:Rn.fput how (Rn.fold how ((Rn.sort l).take i)) ((Rn.sort l).getD i (0,0))=Rn.fold how ((Rn.sort l).take (i+1)):=(Rn.fold_take (by simp;omega)).symm
    have H:=pk [0,1,3] 4 H
    rw [e1] at H
    exact ⟨(i+1,A12,c13),⟨S.sub ⟨rfl,rfl,rfl,rfl,rfl,rfl,rfl,trivial⟩,H,(by omega)⟩,by show l.length - (i+1) < l.length - i;omega⟩
  refine wp_exit ?_
  refine x_thenExit ?_
  refine x_thenExit ?_
  refine x_blockHere ?_
  refine x_then ?_
  refine sr 4 S H t0 fun a w S H=>?_
  refine wp_ret ?_
  refine r_ret2 S H Tryz.results149 (ro_tmp S rfl) (ro_tmp S rfl) ?_
  have hr:Rn.hright how=true:=by simpa using h11
  have hi:i=l.length:=by omega
  subst hi
  have e:Rn.sorted how l=(Rn.fold how (Rn.sort l),0):=by unfold Rn.sorted;rw [hr];rfl
  have e2:(Rn.sort l).take l.length=Rn.sort l:=by rw [List.take_of_length_le (by simp)]
  rw [e2] at H ⊢
  rw [e]
  exact ⟨_,_,rfl,pk [1] 3 H⟩

end Go.Proofs.YtoffbmhmocfmnaaGreatDoor
namespace Go.Proofs.YtoffbmhmocfmnaaGreatDoor
open Go.RowKit Go.Cg
set_option linter.unusedVariables false
set_option linter.unusedSimpArgs false
set_option maxRecDepth 8000
set_option synthInstance.maxHeartbeats 1000000
set_option synthInstance.maxSize 1000000
open Go.Cg.Dk (By Nm)
open Go.Cg.Rn (R Bd RsOk RsFit)
theorem Sat.just {w:World} {R:Res} {L:List Res} (H:Sat w (R::L)):Sat w [R]:=H.sub (List.Sublist.cons_cons _ (List.nil_sublist _))
theorem rin_ct (w:World) (fr:List Res) (rb db:Nat) (n:Nm) (p sz:Nat) (A:Option Addr) (m c:Nat) (sh:Bool) (er:Int) (d:Dk.Disk) (hcnt:d.files.length<=4398046511104) (hp:p<=17592186044416) (hsz:sz<=17592186044416) (H:Sat w (blk rb (.cells #[.pointer (some ⟨db,0,none⟩),str (n),.int .i64 ((p:Nat):Int),.int .i64 ((sz:Nat):Int),.slice A m c,.bool sh,.int .i64 er] 120)::diskR db d::fr)):
    Rt Tryz.prog 88 #[.pointer (some ⟨rb,0,none⟩)] w fun v w'=>((Rn.rin n sz p sh d).2.2≠0/\v=.int .i64 (((Rn.rin n sz p sh d).2.2:Nat):Int)/\Sat w' (blk rb (.cells #[.pointer (some ⟨db,0,none⟩),str n,.int .i64 ((p:Nat):Int),.int .i64 ((sz:Nat):Int),.slice A m c,.bool sh,.int .i64 er] 120)::diskR db (Rn.rin n sz p sh d).1::fr))\/((Rn.rin n sz p sh d).2.2=0/\v=.int .i64 0/\∃A' c',Sat w' (blk rb (.cells #[.pointer (some ⟨db,0,none⟩),str n,.int .i64 (((Rn.rin n sz p sh d).2.1.2.1:Nat):Int),.int .i64 ((sz:Nat):Int),.slice A' (Rn.rin n sz p sh d).2.1.1.length c',.bool (Rn.rin n sz p sh d).2.1.2.2,.int .i64 er] 120)::row 5 1 (.slice A' (Rn.rin n sz p sh d).2.1.1.length c') (Rn.rin n sz p sh d).2.1.1.length (u8s (Rn.rin n sz p sh d).2.1.1)::diskR db (Rn.rin n sz p sh d).1::fr)):=by
  refine en1 Tryz.func88 rfl Tryz.ntmps88 rfl fun a S=>?_
  refine sr 1 S H t0 fun a w S H=>?_
  refine r_seq ?_
  refine ha [0] 2 H fun w H HS=>?_
  refine tk 0 S HS fun a S=>?_
  refine tk 1 S HS fun a S=>?_
  refine tk 2 S HS fun a S=>?_
  refine tk 3 S HS fun a S=>?_
  refine tk 4 S HS fun a S=>?_
  refine tk 5 S HS fun a S=>?_
  refine tk 6 S HS fun a S=>?_
  refine tk 7 S HS fun a S=>?_
  refine tk 8 S HS fun a S=>?_
  refine tk 9 S HS fun a S=>?_
  refine tk 10 S HS fun a S=>?_
  refine tk 11 S HS fun a S=>?_
  refine tk 12 S HS fun a S=>?_
  refine tk 13 S HS fun a S=>?_
  refine tk 14 S HS fun a S=>?_
  refine tk 15 S HS fun a S=>?_
  refine tk 16 S HS fun a S=>?_
  refine tk 17 S HS fun a S=>?_
  refine tk 18 S HS fun a S=>?_
  refine tk 19 S HS fun a S=>?_
  refine tkC 20 S HS (by omega) fun a S=>?_
  refine tk 21 S HS fun a S=>?_
  refine h1 22 ?_
  refine r_call (args:=#[.pointer (some ⟨db,0,none⟩),str (n),.int .i64 ((p:Nat):Int),.int .i64 (min 1006 (((sz:Nat):Int) - ((p:Nat):Int)))]) S rfl rfl Tryz.call109 (readAt_ct (H:=(pk [1,0] 2 H)) _ _ db d n (by omega) ((p:Nat):Int) (min 1006 (((sz:Nat):Int) - ((p:Nat):Int))) (by omega) (by omega)) rfl rfl rfl fun v a w hR S=>?_
  obtain ⟨A3,c4,rfl,H⟩:=hR
  refine sn ?_
  refine hk (pk [2] 3 H) fun HS=>?_
  refine tk 23 S HS fun a S=>?_
  refine tk 24 S HS fun a S=>?_
  refine tk 25 S HS fun a S=>?_
  refine tk 26 S HS fun a S=>?_
  refine tk 27 S HS fun a S=>?_
  refine hz ?_
  refine x_then ?_
  refine r_seq ?_
  refine sr 2 S H t0 fun a w S H=>?_
  refine r_test S rfl (fun h34=>?_) (fun h34=>?_)
  · skip
    refine sr 2 S H t0 fun a w S H=>?_
    refine wp_ret ?_
    refine x_thenRet ?_
    refine r_ret1 S H Tryz.results88 (ro_tmp S rfl) ?_
    have e:=Rn.rin_e1 (sh:=sh) (show (Dk.Disk.readAt n ((p:Nat):Int) (min 1006 (((sz:Nat):Int) - ((p:Nat):Int))) d).2.2≠0 by omega)
    rw [e]
    exact .inl ⟨by show (Dk.Disk.readAt n ((p:Nat):Int) (min 1006 (((sz:Nat):Int) - ((p:Nat):Int))) d).2.2≠0;omega,rfl,pk [2,0] 3 H⟩
  refine wp_skip ?_
  refine x_then ?_
  have h0:(Dk.Disk.readAt n ((p:Nat):Int) (min 1006 (((sz:Nat):Int) - ((p:Nat):Int))) d).2.2=0:=by omega
  have hral:=Dk.readAt_le d n ((p:Nat):Int) (min 1006 (((sz:Nat):Int) - ((p:Nat):Int))) (by omega)
  refine sb ?_
  refine rn 1 S H t0 fun a w S H=>?_
  refine r_call (args:=#[.slice A3 ((Dk.Disk.readAt n ((p:Nat):Int) (min 1006 (((sz:Nat):Int) - ((p:Nat):Int))) d).2.1.length) c4]) S rfl rfl Tryz.call110 (decode_ct (H:=H) _ _ _ _ _ ((Dk.Disk.readAt n ((p:Nat):Int) (min 1006 (((sz:Nat):Int) - ((p:Nat):Int))) d).2.1) (SlOk.ofRow (i:=1) H rfl) (by omega)) rfl rfl rfl fun v a w hR S=>?_
  obtain ⟨A5,c6,rfl,H⟩:=hR
  refine rs 7 S H t0 fun a w S H=>?_
  refine r_seq ?_
  refine sr 2 S H t0 fun a w S H=>?_
  refine r_test S rfl (fun h43=>?_) (fun h43=>?_)
  · skip
    refine sr 2 S H t0 fun a w S H=>?_
    refine wp_ret ?_
    refine x_thenRet ?_
    refine r_ret1 S H Tryz.results88 (ro_tmp S rfl) ?_
    have e:=Rn.rin_e2 (sh:=sh) h0 (show (Oc.dec (Dk.Disk.readAt n ((p:Nat):Int) (min 1006 (((sz:Nat):Int) - ((p:Nat):Int))) d).2.1).2.2≠0 by omega)
    rw [e]
    exact .inl ⟨by show (Oc.dec (Dk.Disk.readAt n ((p:Nat):Int) (min 1006 (((sz:Nat):Int) - ((p:Nat):Int))) d).2.1).2.2≠0;omega,rfl,pk [3,1] 4 H⟩
  refine wp_skip ?_
  refine x_then ?_
  refine r_seq ?_
  have h1:(Oc.dec (Dk.Disk.readAt n ((p:Nat):Int) (min 1006 (((sz:Nat):Int) - ((p:Nat):Int))) d).2.1).2.2=0:=by omega
  have h6:=Rn.dec_facts0 h1
  obtain ⟨x,hx⟩:∃x,x=(Oc.dec (Dk.Disk.readAt n ((p:Nat):Int) (min 1006 (((sz:Nat):Int) - ((p:Nat):Int))) d).2.1).1:=⟨_,rfl⟩
  obtain ⟨q,hq⟩:∃q,q=(Oc.dec (Dk.Disk.readAt n ((p:Nat):Int) (min 1006 (((sz:Nat):Int) - ((p:Nat):Int))) d).2.1).2.1:=⟨_,rfl⟩
  rw [<-hx] at H S h6
  rw [<-hq] at S h6
  rcases Rn.in_cases x.length sh with hc | hc | hc | ⟨hc1,hc2,hc3,rfl⟩ | ⟨hc1,hc2,hc3,rfl⟩
  · skip
    refine sb ?_
    refine rn 2 S H t0 fun a w S H=>?_
    refine r_y S H (y_eq S rfl rfl rfl) rfl rfl rfl fun a S=>?_
    have S:=S.retell (v':=.bool true) 47 rfl (by rw [decide_eq_true (by omega)])
    refine rs 17 S H t0 fun a w S H=>?_
    refine r_condT S rfl ?_
    refine sr 1 S H t0 fun a w S H=>?_
    refine wp_ret ?_
    refine x_thenRet ?_
    refine r_ret1 S H Tryz.results88 (ro_tmp S rfl) ?_
    have e:=Rn.rin_e3 (sh:=sh) hx h0 h1 (by omega)
    rw [e]
    exact .inl ⟨by show 2≠0;omega,rfl,pk [3,1] 4 H⟩
  · skip
    refine sb ?_
    refine rn 2 S H t0 fun a w S H=>?_
    refine r_y S H (y_eq S rfl rfl rfl) rfl rfl rfl fun a S=>?_
    have S:=S.retell (v':=.bool false) 47 rfl (by rw [decide_eq_false (by omega)])
    refine rn 3 S H t0 fun a w S H=>?_
    refine r_y S H (y_remN S rfl rfl rfl (by omega) (by omega)) rfl rfl rfl fun a S=>?_
    refine r_y S H (y_ne S rfl rfl rfl) rfl rfl rfl fun a S=>?_
    have S:=S.retell (v':=.bool true) 52 rfl (by rw [decide_eq_true (by omega)])
    refine rs 12 S H t0 fun a w S H=>?_
    refine r_condT S rfl ?_
    refine sr 1 S H t0 fun a w S H=>?_
    refine wp_ret ?_
    refine x_thenRet ?_
    refine r_ret1 S H Tryz.results88 (ro_tmp S rfl) ?_
    have e:=Rn.rin_e3 (sh:=sh) hx h0 h1 (by omega)
    rw [e]
    exact .inl ⟨by show 2≠0;omega,rfl,pk [3,1] 4 H⟩
  · skip
    refine sb ?_
    refine rn 2 S H t0 fun a w S H=>?_
    refine r_y S H (y_eq S rfl rfl rfl) rfl rfl rfl fun a S=>?_
    have S:=S.retell (v':=.bool false) 47 rfl (by rw [decide_eq_false (by omega)])
    refine rn 3 S H t0 fun a w S H=>?_
    refine r_y S H (y_remN S rfl rfl rfl (by omega) (by omega)) rfl rfl rfl fun a S=>?_
    refine r_y S H (y_ne S rfl rfl rfl) rfl rfl rfl fun a S=>?_
    have S:=S.retell (v':=.bool false) 52 rfl (by rw [decide_eq_false (by omega)])
    refine rn 4 S H t0 fun a w S H=>?_
    refine r_y S H (y_gt S rfl rfl rfl) rfl rfl rfl fun a S=>?_
    have S:=S.retell (v':=.bool true) 57 rfl (by rw [decide_eq_true (by omega)])
    refine rs 7 S H t0 fun a w S H=>?_
    refine r_condT S rfl ?_
    refine sr 1 S H t0 fun a w S H=>?_
    refine wp_ret ?_
    refine x_thenRet ?_
    refine r_ret1 S H Tryz.results88 (ro_tmp S rfl) ?_
    have e:=Rn.rin_e3 (sh:=sh) hx h0 h1 (by omega)
    rw [e]
    exact .inl ⟨by show 2≠0;omega,rfl,pk [3,1] 4 H⟩
  · skip
    refine sb ?_
    refine rn 2 S H t0 fun a w S H=>?_
    refine r_y S H (y_eq S rfl rfl rfl) rfl rfl rfl fun a S=>?_
    have S:=S.retell (v':=.bool false) 47 rfl (by rw [decide_eq_false (by omega)])
    refine rn 3 S H t0 fun a w S H=>?_
    refine r_y S H (y_remN S rfl rfl rfl (by omega) (by omega)) rfl rfl rfl fun a S=>?_
    refine r_y S H (y_ne S rfl rfl rfl) rfl rfl rfl fun a S=>?_
    have S:=S.retell (v':=.bool false) 52 rfl (by rw [decide_eq_false (by omega)])
    refine rn 4 S H t0 fun a w S H=>?_
    refine r_y S H (y_gt S rfl rfl rfl) rfl rfl rfl fun a S=>?_
    have S:=S.retell (v':=.bool false) 57 rfl (by rw [decide_eq_false (by omega)])
    refine rs 7 S H t0 fun a w S H=>?_
    refine r_condT S rfl ?_
    refine sr 1 S H t0 fun a w S H=>?_
    refine wp_ret ?_
    refine x_thenRet ?_
    refine r_ret1 S H Tryz.results88 (ro_tmp S rfl) ?_
    have e:=Rn.rin_e3 (sh:=true) hx h0 h1 (by simp)
    rw [e]
    exact .inl ⟨by show 2≠0;omega,rfl,pk [3,1] 4 H⟩
  refine sb ?_
  refine rn 2 S H t0 fun a w S H=>?_
  refine r_y S H (y_eq S rfl rfl rfl) rfl rfl rfl fun a S=>?_
  have S:=S.retell (v':=.bool false) 47 rfl (by rw [decide_eq_false (by omega)])
  refine rn 3 S H t0 fun a w S H=>?_
  refine r_y S H (y_remN S rfl rfl rfl (by omega) (by omega)) rfl rfl rfl fun a S=>?_
  refine r_y S H (y_ne S rfl rfl rfl) rfl rfl rfl fun a S=>?_
  have S:=S.retell (v':=.bool false) 52 rfl (by rw [decide_eq_false (by omega)])
  refine rn 4 S H t0 fun a w S H=>?_
  refine r_y S H (y_gt S rfl rfl rfl) rfl rfl rfl fun a S=>?_
  have S:=S.retell (v':=.bool false) 57 rfl (by rw [decide_eq_false (by omega)])
  refine rs 7 S H t0 fun a w S H=>?_
  refine r_condF S rfl ?_
  refine wp_skip ?_
  refine x_then ?_
  refine sb ?_
  refine rn 8 S H t0 fun a w S H=>?_
  refine r_y S H (y_add S rfl rfl rfl (wi64 (by omega) (by omega))) rfl rfl rfl fun a S=>?_
  have S:=S.retell (v':=.int .i64 (((p+q):Nat):Int)) 73 rfl (int_eq (by omega))
  refine rs 13 S H t0 fun a w S H=>?_
  refine sr 1 S H t0 fun a w S H=>?_
  refine wp_ret ?_
  refine r_ret1 S H Tryz.results88 (ro_tmp S rfl) ?_
  have e:=Rn.rin_e4 (sh:=false) hx h0 h1 (fun h=>by rcases h with h | h | h | h;(exact hc1 h);(exact h hc2);(exact hc3 h);(cases h))
  rw [<-hx,<-hq] at e
  rw [e]
  have eb:(decide (((x.length:Nat):Int) < 800))=decide (x.length < 800):=decide_eq_decide.2 (by omega)
  have H:=pk [3,0,1] 4 H
  rw [eb] at H
  exact .inr ⟨rfl,rfl,_,_,H⟩

theorem rin_bad (w:World) (fr:List Res) (rb db:Nat) (n:Nm) (p sz:Nat) (A:Option Addr) (m c:Nat) (sh:Bool) (er:Int) (d:Dk.Disk) (hcnt:d.files.length<=4398046511104) (hp:p<=17592186044416) (hsz:sz<=17592186044416) (h:(Rn.rin n sz p sh d).2.2≠0) (H:Sat w (blk rb (.cells #[.pointer (some ⟨db,0,none⟩),str n,.int .i64 ((p:Nat):Int),.int .i64 ((sz:Nat):Int),.slice A m c,.bool sh,.int .i64 er] 120)::diskR db d::fr)):
    Rt Tryz.prog 88 #[.pointer (some ⟨rb,0,none⟩)] w fun v w'=>v=.int .i64 (((Rn.rin n sz p sh d).2.2:Nat):Int)/\Sat w' (blk rb (.cells #[.pointer (some ⟨db,0,none⟩),str n,.int .i64 ((p:Nat):Int),.int .i64 ((sz:Nat):Int),.slice A m c,.bool sh,.int .i64 er] 120)::diskR db (Rn.rin n sz p sh d).1::fr):=
  Calls.mono (rin_ct w fr rb db n p sz A m c sh er d hcnt hp hsz H) fun e w' ⟨v,he,hR⟩=>⟨v,he,by rcases hR with ⟨_,h1,h2⟩ | ⟨h0,_⟩;(exact ⟨h1,h2⟩);(exact absurd h0 h)⟩
theorem rin_good (w:World) (fr:List Res) (rb db:Nat) (n:Nm) (p sz:Nat) (A:Option Addr) (m c:Nat) (sh:Bool) (er:Int) (d:Dk.Disk) (hcnt:d.files.length<=4398046511104) (hp:p<=17592186044416) (hsz:sz<=17592186044416) (h:(Rn.rin n sz p sh d).2.2=0) (H:Sat w (blk rb (.cells #[.pointer (some ⟨db,0,none⟩),str n,.int .i64 ((p:Nat):Int),.int .i64 ((sz:Nat):Int),.slice A m c,.bool sh,.int .i64 er] 120)::diskR db d::fr)):
    Rt Tryz.prog 88 #[.pointer (some ⟨rb,0,none⟩)] w fun v w'=>∃A' c',v=.int .i64 0/\Sat w' (blk rb (.cells #[.pointer (some ⟨db,0,none⟩),str n,.int .i64 (((Rn.rin n sz p sh d).2.1.2.1:Nat):Int),.int .i64 ((sz:Nat):Int),.slice A' (Rn.rin n sz p sh d).2.1.1.length c',.bool (Rn.rin n sz p sh d).2.1.2.2,.int .i64 er] 120)::row 5 1 (.slice A' (Rn.rin n sz p sh d).2.1.1.length c') (Rn.rin n sz p sh d).2.1.1.length (u8s (Rn.rin n sz p sh d).2.1.1)::diskR db (Rn.rin n sz p sh d).1::fr):=
  Calls.mono (rin_ct w fr rb db n p sz A m c sh er d hcnt hp hsz H) fun e w' ⟨v,he,hR⟩=>⟨v,he,by rcases hR with ⟨h0,_⟩ | ⟨_,h1,A',c',h2⟩;(exact absurd h h0);(exact ⟨A',c',h1,h2⟩)⟩
theorem next_cases (t:By) (p sz e:Nat):t≠[]\/(t=[]/\¬ p < sz)\/(t=[]/\p < sz/\e≠0)\/(t=[]/\p < sz/\e=0):=by
  by_cases h:t=[]
  · by_cases h1:p < sz<;>by_cases h2:e=0<;>simp [h,h1,h2]
  · exact .inl h
theorem rnext_ct (w:World) (fr:List Res) (rb db:Nat) (n:Nm) (p sz:Nat) (A:Option Addr) (c:Nat) (t:By) (sh:Bool) (d:Dk.Disk) (TR:Res) (okt:SlOk [TR] 1 A t.length c (u8s t)) (hRs:RsOk sz (p,t,sh)) (hcnt:d.files.length<=4398046511104) (hp:p<=17592186044416) (hsz:sz<=17592186044416) (H:Sat w (blk rb (.cells #[.pointer (some ⟨db,0,none⟩),str (n),.int .i64 ((p:Nat):Int),.int .i64 ((sz:Nat):Int),.slice A t.length c,.bool sh,.int .i64 0] 120)::diskR db d::TR::fr)):
    Rt Tryz.prog 65 #[.pointer (some ⟨rb,0,none⟩)] w fun v w'=>∃TR' A' c',v=.tuple #[(.agg #[.int .u64 ((((Rn.rnext n sz (p,t,sh) d).2.2.1.getD (0,0)).1:Nat):Int),.int .u64 ((((Rn.rnext n sz (p,t,sh) d).2.2.1.getD (0,0)).2:Nat):Int)]),.bool (Rn.rnext n sz (p,t,sh) d).2.2.1.isSome,.int .i64 (((Rn.rnext n sz (p,t,sh) d).2.2.2:Nat):Int)]/\SlOk [TR'] 1 A' (Rn.rnext n sz (p,t,sh) d).2.1.2.1.length c' (u8s (Rn.rnext n sz (p,t,sh) d).2.1.2.1)/\Sat w' (blk rb (.cells #[.pointer (some ⟨db,0,none⟩),str n,.int .i64 (((Rn.rnext n sz (p,t,sh) d).2.1.1:Nat):Int),.int .i64 ((sz:Nat):Int),.slice A' (Rn.rnext n sz (p,t,sh) d).2.1.2.1.length c',.bool (Rn.rnext n sz (p,t,sh) d).2.1.2.2,.int .i64 (((Rn.rnext n sz (p,t,sh) d).2.2.2:Nat):Int)] 120)::diskR db (Rn.rnext n sz (p,t,sh) d).1::TR'::fr):=by
  refine en1 Tryz.func65 rfl Tryz.ntmps65 rfl fun a S=>?_
  have htlc:=okt.len
  refine sb ?_
  refine r_alloc S H rfl Tryz.zeroValue91 rfl rfl rfl rfl fun a w b1 S H=>?_
  replace H:Sat _ (blk b1 (.cells #[.int .u64 0,.int .u64 0] 91)::blk rb (.cells #[.pointer (some ⟨db,0,none⟩),str (n),.int .i64 ((p:Nat):Int),.int .i64 ((sz:Nat):Int),.slice A t.length c,.bool sh,.int .i64 0] 120)::diskR db d::TR::fr):=H
  refine rs 2 S H t0 fun a w S H=>?_
  refine r_seq ?_
  rcases next_cases t p sz (Rn.rin n sz p sh d).2.2 with hne | ⟨rfl,hps⟩ | ⟨rfl,hps,h0⟩ | ⟨rfl,hps,h0⟩
  · skip
    have htx0:=hRs.text hne
    simp only [] at htx0
    apply qb H rfl (by kernel_rfl)
    · skip
      refine qn 5 S t0 fun a S=>?_
      have S:=S.retell (v':=.bool true) 9 rfl rfl
      refine qn 6 S t0 fun a S=>?_
      refine q_y S (y_eq S rfl rfl rfl) rfl rfl rfl fun a S=>?_
      have S:=S.retell (v':=.bool false) 16 rfl (by first | (rw [decide_eq_false (by simp only [List.length_nil] at *;omega)];done) | rfl)
      refine qn 12 S t0 fun a S=>?_
      exact q_nil S
    · intro a w S H
      refine r_condF S rfl ?_
      refine wp_skip ?_
      refine x_then ?_
      refine r_seq ?_
      refine sb ?_
      refine rn 4 S H t0 fun a w S H=>?_
      refine r_y S H (y_ne S rfl rfl rfl) rfl rfl rfl fun a S=>?_
      have S:=S.retell (v':=.bool false) 38 rfl (by rw [decide_eq_false (by omega)])
      refine rn 6 S H t0 fun a w S H=>?_
      refine r_y S H (y_eq S rfl rfl rfl) rfl rfl rfl fun a S=>?_
      have S:=S.retell (v':=.bool false) 45 rfl (by first | rfl | (rw [decide_eq_false (by omega)];done) | (have htx:=Rn.rin_text h0;rw [decide_eq_false (by omega)]))
      refine rs 1 S H t0 fun a w S H=>?_
      refine r_condF S rfl ?_
      refine wp_skip ?_
      refine x_then ?_
      have htx:=hRs.text hne
      have htl:=hRs.len
      have hg1:Oc.get t 0 8=(Oc.unle ((t).take 8),true):=by have:=Oc.get_ok (b:=t) (i:=0) (k:=8) (by omega) (by simp only [] at htx ⊢;omega);simpa using this
      have hg2:Oc.get t 8 8=(Oc.unle (((t).drop 8).take 8),true):=Oc.get_ok (b:=t) (i:=8) (k:=8) (by omega) (by simp only [] at htx ⊢;omega)
      refine sb ?_
      refine rn 4 S H t0 fun a w S H=>?_
      refine r_call (args:=#[.slice A t.length c,.int .i64 0,.int .i64 8]) S rfl rfl Tryz.call89 (get_ct (H:=H) _ _ _ _ _ t (okt.via fun _ H=>Sat.just (pk [3] 4 H)) 0 8 (by omega) (by omega) (by simp only [] at *;omega)) rfl rfl rfl fun v a w hR S=>?_
      obtain ⟨rfl,H⟩:=hR
      rw [hg1] at S
      refine rs 5 S H t0 fun a w S H=>?_
      refine sb ?_
      refine rn 4 S H t0 fun a w S H=>?_
      refine r_call (args:=#[.slice A t.length c,.int .i64 8,.int .i64 8]) S rfl rfl Tryz.call89 (get_ct (H:=H) _ _ _ _ _ t (okt.via fun _ H=>Sat.just (pk [3] 4 H)) 8 8 (by omega) (by omega) (by simp only [] at *;omega)) rfl rfl rfl fun v a w hR S=>?_
      obtain ⟨rfl,H⟩:=hR
      rw [hg2] at S
      refine rs 5 S H t0 fun a w S H=>?_
      refine sb ?_
      refine rn 5 S H t0 fun a w S H=>?_
      refine r_y S H (y_sliceL (k:=16) S rfl rfl rfl Tryz.underlying50 Tryz.sizeOf5 (by first | omega | (simp<;>omega)) (by first | omega | (simp<;>omega))) rfl rfl rfl fun a S=>?_
      refine rs 3 S H t0 fun a w S H=>?_
      refine sr 4 S H t0 fun a w S H=>?_
      refine wp_ret ?_
      refine r_ret3 S H Tryz.results65 (ro_agg [_,_] (i:=0) S rfl (fun w=>⟨Tryz.isAgg91 w,Tryz.sizeOf91 w⟩) rfl rfl ⟨rfl,rfl,trivial⟩) (ro_tmp S rfl) (ro_tmp S rfl) ?_
      have e:(Rn.rnext n sz (p,t,sh) d)=(d,(p,t.drop 16,sh),some (Rn.recOf t),0):=Rn.rnext_A (s:=(p,t,sh)) hne
      rw [e]
      have en:t.length - 16=(t.drop 16).length:=by simp
      have okd:=SlOk.tail8 okt 16 (by omega)
      rw [en] at okd
      have H:=pk [1,2,3] 4 H
      rw [en] at H
      exact ⟨TR,_,_,rfl,okd,H⟩
  · skip
    apply qb H rfl (by kernel_rfl)
    · skip
      refine qn 5 S t0 fun a S=>?_
      have S:=S.retell (v':=.bool true) 9 rfl rfl
      refine qn 6 S t0 fun a S=>?_
      refine q_y S (y_eq S rfl rfl rfl) rfl rfl rfl fun a S=>?_
      have S:=S.retell (v':=.bool true) 16 rfl (by first | (rw [decide_eq_true (by simp only [List.length_nil] at *;omega)];done) | rfl)
      refine qn 10 S t0 fun a S=>?_
      refine q_y S (y_lt S rfl rfl rfl) rfl rfl rfl fun a S=>?_
      have S:=S.retell (v':=.bool false) 27 rfl (by rw [decide_eq_false (by omega)])
      refine qn 1 S t0 fun a S=>?_
      exact q_nil S
    · intro a w S H
      refine r_condF S rfl ?_
      refine wp_skip ?_
      refine x_then ?_
      refine r_seq ?_
      refine sb ?_
      refine rn 4 S H t0 fun a w S H=>?_
      refine r_y S H (y_ne S rfl rfl rfl) rfl rfl rfl fun a S=>?_
      have S:=S.retell (v':=.bool false) 38 rfl (by rw [decide_eq_false (by omega)])
      refine rn 6 S H t0 fun a w S H=>?_
      refine r_y S H (y_eq S rfl rfl rfl) rfl rfl rfl fun a S=>?_
      have S:=S.retell (v':=.bool true) 45 rfl (by first | rfl | (rw [decide_eq_false (by omega)];done) | (have htx:=Rn.rin_text h0;rw [decide_eq_false (by omega)]))
      refine rs 1 S H t0 fun a w S H=>?_
      refine r_condT S rfl ?_
      refine r_seq ?_
      refine ha [0,1,2,3] 4 H fun w H HS=>?_
      refine tk 0 S HS fun a S=>?_
      refine tk 1 S HS fun a S=>?_
      refine tk 2 S HS fun a S=>?_
      refine tk 3 S HS fun a S=>?_
      refine tk 4 S HS fun a S=>?_
      refine h1 5 ?_
      refine rs 1 S H t0 fun a w S H=>?_
      refine hk (H) fun HS=>?_
      refine tk 6 S HS fun a S=>?_
      refine tk 7 S HS fun a S=>?_
      refine hz ?_
      refine x_then ?_
      refine wp_ret ?_
      refine x_thenRet ?_
      refine r_ret3 S H Tryz.results65 (ro_agg [_,_] (i:=0) S rfl (fun w=>⟨Tryz.isAgg91 w,Tryz.sizeOf91 w⟩) rfl rfl ⟨rfl,rfl,trivial⟩) (ro_tmp S rfl) (ro_tmp S rfl) ?_
      have e:(Rn.rnext n sz (p,[],sh) d)=(d,(p,[],sh),none,0):=Rn.rnext_B (s:=(p,[],sh)) rfl hps
      rw [e]
      exact ⟨TR,_,_,rfl,okt,pk [1,2,3] 4 H⟩
  · skip
    apply qb H rfl (by kernel_rfl)
    · skip
      refine qn 5 S t0 fun a S=>?_
      have S:=S.retell (v':=.bool true) 9 rfl rfl
      refine qn 6 S t0 fun a S=>?_
      refine q_y S (y_eq S rfl rfl rfl) rfl rfl rfl fun a S=>?_
      have S:=S.retell (v':=.bool true) 16 rfl (by first | (rw [decide_eq_true (by simp only [List.length_nil] at *;omega)];done) | rfl)
      refine qn 10 S t0 fun a S=>?_
      refine q_y S (y_lt S rfl rfl rfl) rfl rfl rfl fun a S=>?_
      have S:=S.retell (v':=.bool true) 27 rfl (by rw [decide_eq_true (by omega)])
      refine qn 1 S t0 fun a S=>?_
      exact q_nil S
    · intro a w S H
      refine r_condT S rfl ?_
      refine r_region ?_
      refine rn 2 S H t0 fun a w S H=>?_
      refine r_call (args:=#[.pointer (some ⟨rb,0,none⟩)]) S rfl rfl Tryz.call88 (rin_bad (H:=(pk [1,2,0,3] 4 H)) _ _ rb db n p sz _ _ _ sh 0 d hcnt hp hsz h0) rfl rfl rfl fun v a w hR S=>?_
      obtain ⟨rfl,H⟩:=hR
      refine rn 3 S H t0 fun a w S H=>?_
      refine r_nil ?_
      refine x_then ?_
      refine r_seq ?_
      refine sb ?_
      refine rn 4 S H t0 fun a w S H=>?_
      refine r_y S H (y_ne S rfl rfl rfl) rfl rfl rfl fun a S=>?_
      have S:=S.retell (v':=.bool true) 38 rfl (by rw [decide_eq_true (by omega)])
      refine rs 8 S H t0 fun a w S H=>?_
      refine r_condT S rfl ?_
      refine r_seq ?_
      refine ha [0,1,2,3] 4 H fun w H HS=>?_
      refine tk 0 S HS fun a S=>?_
      refine tk 1 S HS fun a S=>?_
      refine tk 2 S HS fun a S=>?_
      refine tk 3 S HS fun a S=>?_
      refine tk 4 S HS fun a S=>?_
      refine h1 5 ?_
      refine rs 1 S H t0 fun a w S H=>?_
      refine hk (H) fun HS=>?_
      refine tk 6 S HS fun a S=>?_
      refine tk 7 S HS fun a S=>?_
      refine hz ?_
      refine x_then ?_
      refine wp_ret ?_
      refine x_thenRet ?_
      refine r_ret3 S H Tryz.results65 (ro_agg [_,_] (i:=2) S rfl (fun w=>⟨Tryz.isAgg91 w,Tryz.sizeOf91 w⟩) rfl rfl ⟨rfl,rfl,trivial⟩) (ro_tmp S rfl) (ro_tmp S rfl) ?_
      have e:(Rn.rnext n sz (p,[],sh) d)=((Rn.rin n sz p sh d).1,(p,[],sh),none,(Rn.rin n sz p sh d).2.2):=Rn.rnext_C (s:=(p,[],sh)) rfl hps h0
      rw [e]
      exact ⟨TR,_,_,rfl,okt,pk [0,1,3] 4 H⟩
  apply qb H rfl (by kernel_rfl)
  · skip
    refine qn 5 S t0 fun a S=>?_
    have S:=S.retell (v':=.bool true) 9 rfl rfl
    refine qn 6 S t0 fun a S=>?_
    refine q_y S (y_eq S rfl rfl rfl) rfl rfl rfl fun a S=>?_
    have S:=S.retell (v':=.bool true) 16 rfl (by first | (rw [decide_eq_true (by simp only [List.length_nil] at *;omega)];done) | rfl)
    refine qn 10 S t0 fun a S=>?_
    refine q_y S (y_lt S rfl rfl rfl) rfl rfl rfl fun a S=>?_
    have S:=S.retell (v':=.bool true) 27 rfl (by rw [decide_eq_true (by omega)])
    refine qn 1 S t0 fun a S=>?_
    exact q_nil S
  · intro a w S H
    refine r_condT S rfl ?_
    refine r_region ?_
    refine rn 2 S H t0 fun a w S H=>?_
    refine r_call (args:=#[.pointer (some ⟨rb,0,none⟩)]) S rfl rfl Tryz.call88 (rin_good (H:=(pk [1,2,0,3] 4 H)) _ _ rb db n p sz _ _ _ sh 0 d hcnt hp hsz h0) rfl rfl rfl fun v a w hR S=>?_
    obtain ⟨A6,c7,rfl,H⟩:=hR
    refine rn 3 S H t0 fun a w S H=>?_
    refine r_nil ?_
    refine x_then ?_
    refine r_seq ?_
    refine sb ?_
    refine rn 4 S H t0 fun a w S H=>?_
    refine r_y S H (y_ne S rfl rfl rfl) rfl rfl rfl fun a S=>?_
    have S:=S.retell (v':=.bool false) 38 rfl (by rw [decide_eq_false (by omega)])
    refine rn 6 S H t0 fun a w S H=>?_
    refine r_y S H (y_eq S rfl rfl rfl) rfl rfl rfl fun a S=>?_
    have S:=S.retell (v':=.bool false) 45 rfl (by first | rfl | (rw [decide_eq_false (by omega)];done) | (have htx:=Rn.rin_text h0;rw [decide_eq_false (by omega)]))
    refine rs 1 S H t0 fun a w S H=>?_
    refine r_condF S rfl ?_
    refine wp_skip ?_
    refine x_then ?_
    have htx:=Rn.rin_text h0
    have hg1:Oc.get ((Rn.rin n sz p sh d).2.1.1) 0 8=(Oc.unle (((Rn.rin n sz p sh d).2.1.1).take 8),true):=by have:=Oc.get_ok (b:=(Rn.rin n sz p sh d).2.1.1) (i:=0) (k:=8) (by omega) (by omega);simpa using this
    have hg2:Oc.get ((Rn.rin n sz p sh d).2.1.1) 8 8=(Oc.unle ((((Rn.rin n sz p sh d).2.1.1).drop 8).take 8),true):=Oc.get_ok (b:=(Rn.rin n sz p sh d).2.1.1) (i:=8) (k:=8) (by omega) (by omega)
    refine sb ?_
    refine rn 4 S H t0 fun a w S H=>?_
    refine r_call (args:=#[.slice A6 ((Rn.rin n sz p sh d).2.1.1.length) c7,.int .i64 0,.int .i64 8]) S rfl rfl Tryz.call89 (get_ct (H:=H) _ _ _ _ _ ((Rn.rin n sz p sh d).2.1.1) (SlOk.ofRow (i:=1) H rfl) 0 8 (by omega) (by omega) (by simp only [] at *;omega)) rfl rfl rfl fun v a w hR S=>?_
    obtain ⟨rfl,H⟩:=hR
    rw [hg1] at S
    refine rs 5 S H t0 fun a w S H=>?_
    refine sb ?_
    refine rn 4 S H t0 fun a w S H=>?_
    refine r_call (args:=#[.slice A6 ((Rn.rin n sz p sh d).2.1.1.length) c7,.int .i64 8,.int .i64 8]) S rfl rfl Tryz.call89 (get_ct (H:=H) _ _ _ _ _ ((Rn.rin n sz p sh d).2.1.1) (SlOk.ofRow (i:=1) H rfl) 8 8 (by omega) (by omega) (by simp only [] at *;omega)) rfl rfl rfl fun v a w hR S=>?_
    obtain ⟨rfl,H⟩:=hR
    rw [hg2] at S
    refine rs 5 S H t0 fun a w S H=>?_
    refine sb ?_
    refine rn 5 S H t0 fun a w S H=>?_
    refine r_y S H (y_sliceL (k:=16) S rfl rfl rfl Tryz.underlying50 Tryz.sizeOf5 (by first | omega | (simp<;>omega)) (by first | omega | (simp<;>omega))) rfl rfl rfl fun a S=>?_
    refine rs 3 S H t0 fun a w S H=>?_
    refine sr 4 S H t0 fun a w S H=>?_
    refine wp_ret ?_
    refine r_ret3 S H Tryz.results65 (ro_agg [_,_] (i:=3) S rfl (fun w=>⟨Tryz.isAgg91 w,Tryz.sizeOf91 w⟩) rfl rfl ⟨rfl,rfl,trivial⟩) (ro_tmp S rfl) (ro_tmp S rfl) ?_
    have e:(Rn.rnext n sz (p,[],sh) d)=((Rn.rin n sz p sh d).1,((Rn.rin n sz p sh d).2.1.2.1,(Rn.rin n sz p sh d).2.1.1.drop 16,(Rn.rin n sz p sh d).2.1.2.2),some (Rn.recOf (Rn.rin n sz p sh d).2.1.1),0):=Rn.rnext_D (s:=(p,[],sh)) rfl hps h0
    rw [e]
    have en:(Rn.rin n sz p sh d).2.1.1.length - 16=((Rn.rin n sz p sh d).2.1.1.drop 16).length:=by simp
    have H:=pk [0,2,1] 5 H
    have okd:=SlOk.tail8 (SlOk.ofRow (i:=0) (Sat.just (pk [2] 3 H)) rfl) 16 (by omega)
    rw [en] at okd
    rw [en] at H
    exact ⟨_,_,_,rfl,okd,H⟩

end Go.Proofs.YtoffbmhmocfmnaaGreatDoor
namespace Go.Proofs.YtoffbmhmocfmnaaGreatDoor
open Go.RowKit Go.Cg
set_option linter.unusedVariables false
set_option linter.unusedSimpArgs false
set_option maxRecDepth 8000
set_option synthInstance.maxHeartbeats 1000000
set_option synthInstance.maxSize 1000000
open Go.Cg.Dk (By Nm)
open Go.Cg.Rn (R Bd RsOk RsFit)
theorem newr_ct (w:World) (fr:List Res) (db:Nat) (n:Nm) (d:Dk.Disk) (hcnt:d.files.length<=4398046511104) (h0:(d.size n).2.2=0) (H:Sat w (diskR db d::fr)):
    Rt Tryz.prog 36 #[.pointer (some ⟨db,0,none⟩),str (n)] w fun v w'=>∃rb,v=.tuple #[.pointer (some ⟨rb,0,none⟩),.int .i64 0]/\Sat w' (blk rb (.cells #[.pointer (some ⟨db,0,none⟩),str n,.int .i64 0,.int .i64 (((d.size n).2.1:Nat):Int),.slice none 0 0,.bool false,.int .i64 0] 120)::diskR db (d.size n).1::fr):=by
  refine en2 Tryz.func36 rfl Tryz.ntmps36 rfl fun a S=>?_
  refine sr 2 S H t0 fun a w S H=>?_
  refine sr 8 S H (by omega) fun a w S H=>?_
  refine r_seq ?_
  refine sr 2 S H t0 fun a w S H=>?_
  refine r_test S rfl (fun h15=>?_) (fun h15=>?_)
  · skip
    exfalso;rw [h0] at h15;simp at h15
  refine wp_skip ?_
  refine x_then ?_
  refine sb ?_
  refine rn 3 S H t0 fun a w S H=>?_
  refine r_y S H (y_build (vs:=#[(0,.pointer (some ⟨db,0,none⟩)),(1,str (n)),(3,.int .i64 (((Dk.Disk.size n d).2.1:Nat):Int))]) (v:=.agg #[.pointer (some ⟨db,0,none⟩),str (n),.int .i64 0,.int .i64 (((Dk.Disk.size n d).2.1:Nat):Int),.slice none 0 0,.bool false,.int .i64 0]) S rfl rfl (fun w=>by kernel_rfl)) rfl rfl rfl fun a S=>?_
  refine r_box (c:=#[.pointer (some ⟨db,0,none⟩),str (n),.int .i64 0,.int .i64 (((Dk.Disk.size n d).2.1:Nat):Int),.slice none 0 0,.bool false,.int .i64 0]) S H rfl rfl rfl rfl rfl rfl fun a w b1 S H=>?_
  refine rs 2 S H t0 fun a w S H=>?_
  refine wp_ret ?_
  refine r_ret2 S H Tryz.results36 (ro_tmp S rfl) (ro_tmp S rfl) ?_
  exact ⟨_,rfl,H⟩

theorem newrbad_ct (w:World) (fr:List Res) (db:Nat) (n:Nm) (d:Dk.Disk) (hcnt:d.files.length<=4398046511104) (h0:(d.size n).2.2≠0) (H:Sat w (diskR db d::fr)):
    Rt Tryz.prog 36 #[.pointer (some ⟨db,0,none⟩),str (n)] w fun v w'=>v=.tuple #[.pointer none,.int .i64 (((d.size n).2.2:Nat):Int)]/\Sat w' (diskR db (d.size n).1::fr):=by
  refine en2 Tryz.func36 rfl Tryz.ntmps36 rfl fun a S=>?_
  refine sr 2 S H t0 fun a w S H=>?_
  refine sr 8 S H (by omega) fun a w S H=>?_
  refine r_seq ?_
  refine sr 2 S H t0 fun a w S H=>?_
  refine r_test S rfl (fun h15=>?_) (fun h15=>?_)
  · skip
    refine sr 3 S H t0 fun a w S H=>?_
    refine wp_ret ?_
    refine x_thenRet ?_
    refine r_ret2 S H Tryz.results36 (ro_tmp S rfl) (ro_tmp S rfl) ?_
    exact ⟨rfl,H⟩
  exfalso;omega

theorem read_ct (w:World) (fr:List Res) (db:Nat) (n:Nm) (d:Dk.Disk) (hcnt:d.files.length<=4398046511104) (H:Sat w (diskR db d::fr)):
    Rt Tryz.prog 38 #[.pointer (some ⟨db,0,none⟩),str (n)] w fun v w'=>∃A' c',v=.tuple #[.slice A' (Rn.read n d).2.1.length c',.int .i64 (((Rn.read n d).2.2:Nat):Int)]/\Sat w' (row 91 2 (.slice A' (Rn.read n d).2.1.length c') (Rn.read n d).2.1.length (recs (Rn.read n d).2.1)::diskR db (Rn.read n d).1::fr):=by
  refine en2 Tryz.func38 rfl Tryz.ntmps38 rfl fun a S=>?_
  have hdok:=H.diskOk
  have hsz:=Dk.size_le hdok n
  refine sr 2 S H t0 fun a w S H=>?_
  rcases Nat.eq_zero_or_pos (Dk.Disk.size n d).2.2 with hc0 | hc0
  · skip
    refine sb ?_
    refine rn 2 S H t0 fun a w S H=>?_
    refine r_call (args:=#[.pointer (some ⟨db,0,none⟩),str (n)]) S rfl rfl Tryz.call36 (newr_ct (H:=H) _ _ db n d (hcnt) (by omega)) rfl rfl rfl fun v a w hR S=>?_
    obtain ⟨b1,rfl,H⟩:=hR
    refine rs 5 S H t0 fun a w S H=>?_
    refine r_seq ?_
    refine sr 2 S H t0 fun a w S H=>?_
    have S:=S.retell (v':=.bool false) 17 rfl rfl
    refine r_condF S rfl ?_
    refine wp_skip ?_
    refine x_then ?_
    refine r_block ?_
    have H:=H.nilRow 91 2
    have H:=H.nilRow 5 1
    refine r_loop (ι:=Nat×By×Bool×List R×Dk.Disk×Res×Option Addr×Nat×Option Addr×Nat) (fun ⟨p,t,sh,l,dd,TR,At,ct,Al,cl⟩ a w=>Slots a 37 [(4,.slice Al l.length cl),(6,.pointer (some ⟨b1,0,none⟩)),(37,undef)]/\Sat w (blk b1 (.cells #[.pointer (some ⟨db,0,none⟩),str (n),.int .i64 ((p:Nat):Int),.int .i64 (((Dk.Disk.size n d).2.1:Nat):Int),.slice At t.length ct,.bool sh,.int .i64 0] 120)::diskR db dd::TR::row 91 2 (.slice Al l.length cl) l.length (recs l)::fr)/\(SlOk [TR] 1 At t.length ct (u8s t)/\RsOk (Dk.Disk.size n d).2.1 (p,t,sh)/\RsFit (Dk.Disk.size n d).2.1 l.length (p,t,sh)/\dd.files.length=d.files.length/\Rn.read n d=Rn.rloop n (Dk.Disk.size n d).2.1 (Rn.rleft (Dk.Disk.size n d).2.1 (p,t,sh)+1) (p,t,sh) l dd)) (fun ⟨p,t,sh,l,dd,TR,At,ct,Al,cl⟩=>Rn.rleft (Dk.Disk.size n d).2.1 (p,t,sh)) (0,[],false,[],(Dk.Disk.size n d).1,row 5 1 (.slice none 0 0) 0 (u8s ([])),none,0,none,0) ⟨S.sub ⟨rfl,rfl,rfl,trivial⟩,pk [2,3,0,1] 4 H,⟨SlOk.nil8 _,RsOk.start _,RsFit.start _,Dk.len_size _ _,Rn.read_go hc0⟩⟩ (fun ⟨p,t,sh,l,dd,TR,At,ct,Al,cl⟩ a w hI=>?_)
    obtain ⟨S,H,hI⟩:=hI
    obtain ⟨okt,hRs,hFt,hdd,hrd⟩:=hI
    have hfs:=hFt.size
    refine r_block ?_
    refine sb ?_
    refine rn 1 S H t0 fun a w S H=>?_
    refine r_call (args:=#[.pointer (some ⟨b1,0,none⟩)]) S rfl rfl Tryz.call65 (rnext_ct (H:=H) _ _ b1 db n p (Dk.Disk.size n d).2.1 _ _ t sh dd TR okt hRs (by omega) (by have:=hFt.pos;simp only [] at this;omega) (by omega)) rfl rfl rfl fun v a w hR S=>?_
    obtain ⟨TR8,A9,c10,rfl,okTR8,H⟩:=hR
    refine rn 4 S H t0 fun a w S H=>?_
    refine r_alloc S H rfl Tryz.zeroValue91 rfl rfl rfl rfl fun a w b11 S H=>?_
    replace H:Sat _ (blk b11 (.cells #[.int .u64 0,.int .u64 0] 91)::blk b1 (.cells #[.pointer (some ⟨db,0,none⟩),str (n),.int .i64 (((Rn.rnext n (Dk.Disk.size n d).2.1 (p,t,sh) dd).2.1.1:Nat):Int),.int .i64 (((Dk.Disk.size n d).2.1:Nat):Int),.slice A9 ((Rn.rnext n (Dk.Disk.size n d).2.1 (p,t,sh) dd).2.1.2.1.length) c10,.bool ((Rn.rnext n (Dk.Disk.size n d).2.1 (p,t,sh) dd).2.1.2.2),.int .i64 (((Rn.rnext n (Dk.Disk.size n d).2.1 (p,t,sh) dd).2.2.2:Nat):Int)] 120)::diskR db (Rn.rnext n (Dk.Disk.size n d).2.1 (p,t,sh) dd).1::TR8::row 91 2 (.slice Al l.length cl) l.length (recs l)::fr):=H
    refine rs 3 S H t0 fun a w S H=>?_
    refine r_block ?_
    refine sr 3 S H t0 fun a w S H=>?_
    refine r_test S rfl (fun h29=>?_) (fun h29=>?_)
    · skip
      refine sr 3 S H t0 fun a w S H=>?_
      refine wp_ret ?_
      refine x_blockRet ?_
      refine x_blockRet ?_
      refine x_thenRet ?_
      refine x_blockRet ?_
      refine r_ret2 S H Tryz.results38 (ro_tmp S rfl) (ro_tmp S rfl) ?_
      have e:=hrd.trans (Rn.rloop_bad (show (Rn.rnext n (Dk.Disk.size n d).2.1 (p,t,sh) dd).2.2.2≠0 by omega))
      rw [e]
      have H:=H.nilRow 91 2
      exact ⟨none,0,rfl,pk [0,3] 6 H⟩
    refine sr 3 S H t0 fun a w S H=>?_
    refine r_cond S rfl (fun h33=>?_) (fun h33=>?_)
    · skip
      refine sr 3 S H t0 fun a w S H=>?_
      refine wp_ret ?_
      refine x_blockRet ?_
      refine x_blockRet ?_
      refine x_thenRet ?_
      refine x_blockRet ?_
      refine r_ret2 S H Tryz.results38 (ro_tmp S rfl) (ro_tmp S rfl) ?_
      have e:=hrd.trans (Rn.rloop_end (show (Rn.rnext n (Dk.Disk.size n d).2.1 (p,t,sh) dd).2.2.2=0 by omega) (by simpa using h33))
      rw [e]
      exact ⟨_,_,rfl,pk [4,2] 5 H⟩
    refine r_region ?_
    refine rn 2 S H t0 fun a w S H=>?_
    refine r_lit (vs:=#[(0,.agg #[.int .u64 ((((Rn.rnext n (Dk.Disk.size n d).2.1 (p,t,sh) dd).2.2.1.getD (0,0)).1:Nat):Int),.int .u64 ((((Rn.rnext n (Dk.Disk.size n d).2.1 (p,t,sh) dd).2.2.1.getD (0,0)).2:Nat):Int)])]) (cs:=recs [((Rn.rnext n (Dk.Disk.size n d).2.1 (p,t,sh) dd).2.2.1.getD (0,0))]) S H rfl rfl el86 (by kernel_rfl) (by decide) (by rfl) rfl rfl rfl fun a w b12 S H=>?_
    refine r_appendS (L':=fun A13 c14=>row 91 2 (.slice (some ⟨b12,0,none⟩) 1 1) 1 (recs [((Rn.rnext n (Dk.Disk.size n d).2.1 (p,t,sh) dd).2.2.1.getD (0,0))])::blk b11 (.cells #[.int .u64 ((((Rn.rnext n (Dk.Disk.size n d).2.1 (p,t,sh) dd).2.2.1.getD (0,0)).1:Nat):Int),.int .u64 ((((Rn.rnext n (Dk.Disk.size n d).2.1 (p,t,sh) dd).2.2.1.getD (0,0)).2:Nat):Int)] 91)::blk b1 (.cells #[.pointer (some ⟨db,0,none⟩),str (n),.int .i64 (((Rn.rnext n (Dk.Disk.size n d).2.1 (p,t,sh) dd).2.1.1:Nat):Int),.int .i64 (((Dk.Disk.size n d).2.1:Nat):Int),.slice A9 ((Rn.rnext n (Dk.Disk.size n d).2.1 (p,t,sh) dd).2.1.2.1.length) c10,.bool ((Rn.rnext n (Dk.Disk.size n d).2.1 (p,t,sh) dd).2.1.2.2),.int .i64 (((Rn.rnext n (Dk.Disk.size n d).2.1 (p,t,sh) dd).2.2.2:Nat):Int)] 120)::diskR db (Rn.rnext n (Dk.Disk.size n d).2.1 (p,t,sh) dd).1::TR8::row 91 2 (.slice A13 (l.length+1) c14) (l.length+1) (recs (l++([((Rn.rnext n (Dk.Disk.size n d).2.1 (p,t,sh) dd).2.2.1.getD (0,0))])))::fr) (xs':=recs (l++([((Rn.rnext n (Dk.Disk.size n d).2.1 (p,t,sh) dd).2.2.1.getD (0,0))]))) 5 S H rfl rfl rfl rfl el86 (SlOk.ofRow (i:=0) H rfl) (one_recs _) (by simp only [maxLen];first | omega | (simp<;>omega)) (by first | omega | (simp<;>omega)) (recs_app l ([((Rn.rnext n (Dk.Disk.size n d).2.1 (p,t,sh) dd).2.2.1.getD (0,0))])) (by first | omega | (simp<;>omega)) (fun _ _=>rfl) rfl rfl rfl fun a w A13 c14 hA13 S H=>?_
    refine rn 1 S H t0 fun a w S H=>?_
    refine r_nil ?_
    refine x_blockEnd ?_
    refine x_blockEnd ?_
    refine x_then ?_
    have he0:(Rn.rnext n (Dk.Disk.size n d).2.1 (p,t,sh) dd).2.2.2=0:=by omega
    obtain ⟨r,hr⟩:=Option.isSome_iff_exists.1 (show (Rn.rnext n (Dk.Disk.size n d).2.1 (p,t,sh) dd).2.2.1.isSome=true by simpa using h33)
    have hg:((Rn.rnext n (Dk.Disk.size n d).2.1 (p,t,sh) dd).2.2.1.getD (0,0))=r:=by rw [hr];rfl
    have hnn:=hRs.next (n:=n) (d:=dd)
    have hff:=(hFt.next hRs hr).1
    have H:=pk [2,3,4,5] 6 H
    rw [hg,he0] at H
    have en:l.length+1=(l++[r]).length:=by simp
    rw [en] at H S
    exact ⟨((Rn.rnext n (Dk.Disk.size n d).2.1 (p,t,sh) dd).2.1.1,(Rn.rnext n (Dk.Disk.size n d).2.1 (p,t,sh) dd).2.1.2.1,(Rn.rnext n (Dk.Disk.size n d).2.1 (p,t,sh) dd).2.1.2.2,l++[r],(Rn.rnext n (Dk.Disk.size n d).2.1 (p,t,sh) dd).1,TR8,A9,c10,A13,c14),⟨S.sub ⟨rfl,rfl,rfl,trivial⟩,H,⟨okTR8,hnn.1,(by simpa using hff),(Rn.rnext_cnt _ _ _ _).trans hdd,hrd.trans (Rn.rloop_step hRs he0 hr)⟩⟩,hnn.2 (by rw [hr];rfl)⟩
  refine sb ?_
  refine rn 2 S H t0 fun a w S H=>?_
  refine r_call (args:=#[.pointer (some ⟨db,0,none⟩),str (n)]) S rfl rfl Tryz.call36 (newrbad_ct (H:=H) _ _ db n d (hcnt) (by omega)) rfl rfl rfl fun v a w hR S=>?_
  obtain ⟨rfl,H⟩:=hR
  refine rs 5 S H t0 fun a w S H=>?_
  refine r_seq ?_
  refine sr 2 S H t0 fun a w S H=>?_
  refine r_test S rfl (fun h17=>?_) (fun h17=>?_)
  · skip
    refine sr 3 S H t0 fun a w S H=>?_
    refine wp_ret ?_
    refine x_thenRet ?_
    refine r_ret2 S H Tryz.results38 (ro_tmp S rfl) (ro_tmp S rfl) ?_
    rw [Rn.read_bad (by omega)]
    have H:=H.nilRow 91 2
    exact ⟨none,0,rfl,H⟩
  exfalso;omega

end Go.Proofs.YtoffbmhmocfmnaaGreatDoor
