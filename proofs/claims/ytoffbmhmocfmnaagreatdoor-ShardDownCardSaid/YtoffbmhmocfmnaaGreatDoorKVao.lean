/- Laws of the model, walks of functions of the program, and what they rest on. No condition. -/
import Derived.Test.YtoffbmhmocfmnaaGreatDoorKVam
import Derived.Test.YtoffbmhmocfmnaaGreatDoorKVan
namespace Go.Proofs.YtoffbmhmocfmnaaGreatDoor
open Go.RowKit Go.Cg
set_option linter.unusedVariables false
set_option linter.unusedSimpArgs false
set_option maxRecDepth 8000
set_option synthInstance.maxHeartbeats 1000000
set_option synthInstance.maxSize 1000000
theorem el50:Elem Tryz.prog 50 5 1 1 (.int .u8 0):=⟨Tryz.underlying50,by kernel_rfl,rfl,by decide⟩
theorem el56:Elem Tryz.prog 56 4 1 1 (.bool false):=⟨Tryz.underlying56,by kernel_rfl,rfl,by decide⟩
theorem clone8_ct (w:World) (fr:List Res) (A:Option Addr) (n c:Nat) (l:List UInt8) (ok:SlOk fr 1 A n c (u8s l)) (hn:l.length<=70368744177664) (H:Sat w (fr)):
    Rt Tryz.prog 74 #[.slice A n c] w fun v w'=>(∃A' c',v=.slice A' l.length c'/\Sat w' (row 5 1 (.slice A' l.length c') l.length (u8s l)::fr)):=by
  refine en1 Tryz.func74 rfl Tryz.ntmps74 rfl fun a S=>?_
  obtain rfl:=ok.n8
  refine sr 1 S H t0 fun a w S H=>?_
  refine r_seq ?_
  refine sb ?_
  refine rn 1 S H t0 fun a w S H=>?_
  refine r_y S H (y_sliceNil S rfl rfl rfl Tryz.underlying50) rfl rfl rfl fun a S=>?_
  refine sn ?_
  refine r_cond S rfl (fun h4=>?_) (fun h4=>?_)
  · skip
    refine sr 1 S H t0 fun a w S H=>?_
    refine wp_ret ?_
    refine x_thenRet ?_
    refine r_ret1 S H Tryz.results74 (ro_tmp S rfl) ?_
    have hA:A=none:=by simpa using h4
    have h0:l=[]:=List.eq_nil_of_length_eq_zero (by have:=ok.nil hA;have:=ok.le;omega)
    subst h0
    exact ⟨none,0,rfl,H.nilRow _ _⟩
  refine wp_skip ?_
  refine x_then ?_
  refine sb ?_
  refine r_lit (vs:=#[]) (cs:=u8s []) S H rfl rfl el50 (by kernel_rfl) (by decide) (by rfl) rfl rfl rfl fun a w b1 S H=>?_
  refine rn 1 S H t0 fun a w S H=>?_
  refine r_appendS (L':=fun A2 c3=>row 5 1 (.slice A2 l.length c3) l.length (u8s l)::fr) (xs':=u8s l) 0 S H rfl rfl rfl rfl el50 (ok.more _) (one_u8s _) (by simp only [maxLen];first | omega | (simp<;>omega)) (by first | omega | (simp<;>omega)) (List.nil_append _) (by first | omega | (simp<;>omega)) (fun _ _=>rfl) rfl rfl rfl fun a w A2 c3 hA2 S H=>?_
  refine rs 1 S H t0 fun a w S H=>?_
  refine wp_ret ?_
  refine r_ret1 S H Tryz.results74 (ro_tmp S rfl) ?_
  exact ⟨_,_,rfl,H⟩

theorem cloneB_ct (w:World) (fr:List Res) (A:Option Addr) (n c:Nat) (l:List Bool) (ok:SlOk fr 1 A n c (bools l)) (hn:l.length<=70368744177664) (H:Sat w (fr)):
    Rt Tryz.prog 56 #[.slice A n c] w fun v w'=>(∃A' c',v=.slice A' l.length c'/\Sat w' (row 4 1 (.slice A' l.length c') l.length (bools l)::fr)):=by
  refine en1 Tryz.func56 rfl Tryz.ntmps56 rfl fun a S=>?_
  obtain rfl:=ok.nB
  refine sr 1 S H t0 fun a w S H=>?_
  refine r_seq ?_
  refine sb ?_
  refine rn 1 S H t0 fun a w S H=>?_
  refine r_y S H (y_sliceNil S rfl rfl rfl Tryz.underlying56) rfl rfl rfl fun a S=>?_
  refine sn ?_
  refine r_cond S rfl (fun h4=>?_) (fun h4=>?_)
  · skip
    refine sr 1 S H t0 fun a w S H=>?_
    refine wp_ret ?_
    refine x_thenRet ?_
    refine r_ret1 S H Tryz.results56 (ro_tmp S rfl) ?_
    have hA:A=none:=by simpa using h4
    have h0:l=[]:=List.eq_nil_of_length_eq_zero (by have:=ok.nil hA;have:=ok.le;omega)
    subst h0
    exact ⟨none,0,rfl,H.nilRow _ _⟩
  refine wp_skip ?_
  refine x_then ?_
  refine sb ?_
  refine r_lit (vs:=#[]) (cs:=bools []) S H rfl rfl el56 (by kernel_rfl) (by decide) (by rfl) rfl rfl rfl fun a w b1 S H=>?_
  refine rn 1 S H t0 fun a w S H=>?_
  refine r_appendS (L':=fun A2 c3=>row 4 1 (.slice A2 l.length c3) l.length (bools l)::fr) (xs':=bools l) 0 S H rfl rfl rfl rfl el56 (ok.more _) (one_bools _) (by simp only [maxLen];first | omega | (simp<;>omega)) (by first | omega | (simp<;>omega)) (List.nil_append _) (by first | omega | (simp<;>omega)) (fun _ _=>rfl) rfl rfl rfl fun a w A2 c3 hA2 S H=>?_
  refine rs 1 S H t0 fun a w S H=>?_
  refine wp_ret ?_
  refine r_ret1 S H Tryz.results56 (ro_tmp S rfl) ?_
  exact ⟨_,_,rfl,H⟩

theorem equal_ct (w:World) (fr:List Res) (A:Option Addr) (n c:Nat) (x:List UInt8) (okx:SlOk fr 1 A n c (u8s x)) (D:Option Addr) (m e:Nat) (y:List UInt8) (oky:SlOk fr 1 D m e (u8s y)) (H:Sat w (fr)):
    Rt Tryz.prog 75 #[.slice A n c,.slice D m e] w fun v w'=>v=.bool (decide (x=y))/\Sat w' fr:=by
  refine en2 Tryz.func75 rfl Tryz.ntmps75 rfl fun a S=>?_
  obtain rfl:=okx.n8
  obtain rfl:=oky.n8
  refine sr 1 S H t0 fun a w S H=>?_
  refine sb ?_
  refine rn 1 S H t0 fun a w S H=>?_
  refine r_y S H (y_bytesStr Tryz.underlying50 Tryz.underlying5 Tryz.underlying9 okx S rfl rfl) rfl rfl rfl fun a S=>?_
  refine rn 1 S H t0 fun a w S H=>?_
  refine r_y S H (y_bytesStr Tryz.underlying50 Tryz.underlying5 Tryz.underlying9 oky S rfl rfl) rfl rfl rfl fun a S=>?_
  refine rs 2 S H t0 fun a w S H=>?_
  refine wp_ret ?_
  refine r_ret1 S H Tryz.results75 (ro_tmp S rfl) ?_
  exact ⟨rfl,H⟩

theorem next_ct (w:World) (M:List Res) (fr:List Res) (hM:∀ w,Sat w M->Sat w fr) (bk:Nat) (A:Option Addr) (c:Nat) (r:List Bool) (ok:SlOk fr 1 A r.length c (bools r)) (H:Sat w (blk bk (.cells #[.slice A r.length c] 56)::M)):
    Rt Tryz.prog 50 #[.pointer (some ⟨bk,0,none⟩)] w fun v w'=>v=.bool (r.headD false)/\∃A' c',SlOk fr 1 A' r.tail.length c' (bools r.tail)/\Sat w' (blk bk (.cells #[.slice A' r.tail.length c'] 56)::M):=by
  refine en1 Tryz.func50 rfl Tryz.ntmps50 rfl fun a S=>?_
  refine sr 1 S H t0 fun a w S H=>?_
  refine r_seq ?_
  refine sr 3 S H t0 fun a w S H=>?_
  refine r_test S rfl (fun h5=>?_) (fun h5=>?_)
  · skip
    have hr:r=[]:=List.eq_nil_of_length_eq_zero (by omega)
    subst hr
    refine sr 1 S H t0 fun a w S H=>?_
    refine wp_ret ?_
    refine x_thenRet ?_
    refine r_ret1 S H Tryz.results50 (ro_tmp S rfl) ?_
    exact ⟨rfl,_,_,ok,H⟩
  refine wp_skip ?_
  refine x_then ?_
  refine sb ?_
  refine rn 1 S H t0 fun a w S H=>?_
  obtain ⟨b1,o2,rfl⟩:=((ok.via hM).more _).addr H (by first | omega | (simp<;>omega))
  refine r_y S H (y_index S rfl rfl rfl Tryz.underlying56 Tryz.sizeOf4 (by omega) (by omega)) rfl rfl rfl fun a S=>?_
  refine r_y S H (y_loadAt S rfl rfl Tryz.isAgg4 (fun w H=>((ok.via hM).more _).cell w H (bools_at (i:=0) (by first | omega | (simp<;>omega))))) rfl rfl rfl fun a S=>?_
  refine rs 1 S H t0 fun a w S H=>?_
  refine sb ?_
  refine rn 1 S H t0 fun a w S H=>?_
  refine r_y S H (y_sliceL (k:=1) S rfl rfl rfl Tryz.underlying56 Tryz.sizeOf4 (by first | omega | (simp<;>omega)) (by first | omega | (simp<;>omega))) rfl rfl rfl fun a S=>?_
  refine rs 1 S H t0 fun a w S H=>?_
  refine sr 2 S H t0 fun a w S H=>?_
  refine wp_ret ?_
  refine r_ret1 S H Tryz.results50 (ro_tmp S rfl) ?_
  have ht:r.tail.length=r.length - 1:=by simp
  refine ⟨congrArg Value.bool ?_,?_⟩
  · cases r with
    | nil=>simp at h5
    | cons b r=>rfl
  rw [ht]
  refine ⟨_,_,?_,H⟩
  have:=ok.tailB 1 (by omega)
  rwa [List.drop_one] at this

end Go.Proofs.YtoffbmhmocfmnaaGreatDoor
namespace Go.Proofs.YtoffbmhmocfmnaaGreatDoor
open Go.RowKit Go.Cg
set_option linter.unusedVariables false
set_option linter.unusedSimpArgs false
set_option maxRecDepth 8000
set_option synthInstance.maxHeartbeats 1000000
set_option synthInstance.maxSize 1000000
open Go.Cg.Dk (Fl)
theorem torn_ct (w:World) (M:List Res) (fr:List Res) (hM:∀ w,Sat w M->Sat w fr) (fb bk:Nat) (A:Option Addr) (c:Nat) (D:Option Addr) (e:Nat) (f:Fl) (Ak:Option Addr) (ck:Nat) (r:List Bool) (ok:SlOk fr 1 Ak r.length ck (bools r)) (hsyn:f.syn.length<=f.now.length) (hlen:f.now.length<=17592186044416) (H:Sat w (blk fb (.cells #[.slice A f.now.length c,.slice D f.syn.length e] 105)::row 5 1 (.slice A f.now.length c) f.now.length (u8s f.now)::row 5 1 (.slice D f.syn.length e) f.syn.length (u8s f.syn)::blk bk (.cells #[.slice Ak r.length ck] 56)::M)):
    Rt Tryz.prog 51 #[.pointer (some ⟨fb,0,none⟩),.func (.func 50) #[] #[.pointer (some ⟨bk,0,none⟩)]] w fun v w'=>v=.tuple #[]/\∃A' c',SlOk fr 1 A' (Dk.torn f r).2.length c' (bools (Dk.torn f r).2)/\Sat w' (fileR fb ⟨(Dk.torn f r).1,(Dk.torn f r).1⟩::blk bk (.cells #[.slice A' (Dk.torn f r).2.length c'] 56)::M):=by
  refine en2 Tryz.func51 rfl Tryz.ntmps51 rfl fun a S=>?_
  have hcN:=(SlOk.ofRow (i:=1) H rfl).le
  have hcS:=(SlOk.ofRow (i:=2) H rfl).le
  refine sb ?_
  refine rn 4 S H t0 fun a w S H=>?_
  refine r_call (args:=#[.slice D f.syn.length e]) S rfl rfl Tryz.call74 (clone8_ct (H:=H) _ _ _ _ _ f.syn (SlOk.ofRow (i:=2) H rfl) (by omega)) rfl rfl rfl fun v a w hR S=>?_
  obtain ⟨A5,c6,rfl,H⟩:=hR
  refine rs 1 S H t0 fun a w S H=>?_
  refine r_seq ?_
  refine sr 1 S H t0 fun a w S H=>?_
  refine r_block ?_
  refine r_loop (ι:=Nat×List UInt8×List Bool×Option Addr×Nat×Option Addr×Nat) (fun ⟨k,o,y,Ao,co,Ay,cy⟩ a w=>Slots a 88 [(0,.pointer (some ⟨fb,0,none⟩)),(1,.func (.func 50) #[] #[.pointer (some ⟨bk,0,none⟩)]),(4,.slice Ao o.length co),(5,.int .i64 ((16*k:Nat):Int)),(88,undef)]/\Sat w (row 5 1 (.slice Ao o.length co) o.length (u8s o)::blk fb (.cells #[.slice A f.now.length c,.slice D f.syn.length e] 105)::row 5 1 (.slice A f.now.length c) f.now.length (u8s f.now)::row 5 1 (.slice D f.syn.length e) f.syn.length (u8s f.syn)::blk bk (.cells #[.slice Ay y.length cy] 56)::M)/\(k<=Dk.sectors f.now.length/\Dk.tornUpto f r k=(o,y)/\SlOk fr 1 Ay y.length cy (bools y))) (fun ⟨k,o,y,Ao,co,Ay,cy⟩=>Dk.sectors f.now.length - k) (0,f.syn,r,A5,c6,Ak,ck) ⟨S.sub ⟨rfl,rfl,rfl,rfl,rfl,trivial⟩,H,⟨Nat.zero_le _,rfl,ok⟩⟩ (fun ⟨k,o,y,Ao,co,Ay,cy⟩ a w hI=>?_)
  obtain ⟨S,H,hI⟩:=hI
  obtain ⟨hks,hU,oky⟩:=hI
  have hol:=Dk.tornUpto_len r hsyn k
  rw [hU] at hol
  have hol1:f.syn.length<=o.length:=hol.1
  have hol2:o.length<=f.now.length:=hol.2
  refine r_seq ?_
  refine sr 7 S H t0 fun a w S H=>?_
  refine r_test S rfl (fun h18=>?_) (fun h18=>?_)
  · skip
    refine wp_skip ?_
    refine x_then ?_
    refine r_seq ?_
    refine r_block ?_
    refine sb ?_
    refine rn 7 S H (by omega) fun a w S H=>?_
    refine r_y S H (y_min S rfl rfl rfl) rfl rfl rfl fun a S=>?_
    obtain ⟨to_,hto⟩:∃to_:Nat,to_=min (16*k+16) f.now.length:=⟨_,rfl⟩
    have S:=S.retell (v':=.int .i64 ((to_:Nat):Int)) 28 rfl (int_eq (by omega))
    refine rs 1 S H t0 fun a w S H=>?_
    refine r_seq ?_
    rcases three (min (16*k+16) f.now.length<=f.syn.length) ((f.now.drop (16*k)).take (min (16*k+16) f.now.length - 16*k)=(f.syn.drop (16*k)).take (min (16*k+16) f.now.length - 16*k)) with hq | ⟨hq,he⟩ | ⟨hq,he⟩
    · skip
      have hne:¬ (min (16*k+16) f.now.length<=f.syn.length/\(f.now.drop (16*k)).take (min (16*k+16) f.now.length - 16*k)=(f.syn.drop (16*k)).take (min (16*k+16) f.now.length - 16*k)):=fun h=>hq h.1
      refine r_seq ?_
      refine ha [0,1,2,3] 5 H fun w H HS=>?_
      refine tk 0 S HS fun a S=>?_
      refine tk 1 S HS fun a S=>?_
      refine tk 2 S HS fun a S=>?_
      refine tk 3 S HS fun a S=>?_
      refine tk 4 S HS fun a S=>?_
      refine tk 5 S HS fun a S=>?_
      refine tkY 6 S HS rfl (y_le S rfl rfl rfl) rfl rfl rfl fun a S=>?_
      have S:=S.retell (v':=.bool false) 35 rfl (congrArg Value.bool (decide_eq_false (by omega)))
      refine tk 7 S HS fun a S=>?_
      refine tkS 8 S HS fun a S=>?_
      refine tkS 9 S HS fun a S=>?_
      refine tkS 10 S HS fun a S=>?_
      refine tkS 11 S HS fun a S=>?_
      refine tkS 12 S HS fun a S=>?_
      refine tkS 13 S HS fun a S=>?_
      refine tkS 14 S HS fun a S=>?_
      refine tkS 15 S HS fun a S=>?_
      refine tkS 16 S HS fun a S=>?_
      refine tkS 17 S HS fun a S=>?_
      refine tkS 18 S HS fun a S=>?_
      refine tkS 19 S HS fun a S=>?_
      refine tkS 20 S HS fun a S=>?_
      refine tkS 21 S HS fun a S=>?_
      refine tkS 22 S HS fun a S=>?_
      refine tk 23 S HS fun a S=>?_
      refine tk 24 S HS fun a S=>?_
      refine tk 25 S HS fun a S=>?_
      refine h1 26 ?_
      refine r_callV (args:=#[]) S rfl rfl rfl Tryz.call50 (next_ct (H:=pk [4,0,1,2,3] 5 H) _ _ fr (fun _ H=>hM _ (H.drop.drop.drop.drop)) bk _ _ y oky) rfl rfl rfl fun v a w hR S=>?_
      obtain ⟨rfl,A7,c8,okxA7,H⟩:=hR
      refine sn ?_
      refine hk (pk [1,2,3,4] 5 H) fun HS=>?_
      refine tk 27 S HS fun a S=>?_
      refine tk 28 S HS fun a S=>?_
      refine hz ?_
      refine x_then ?_
      refine r_cond S rfl (fun h57=>?_) (fun h57=>?_)
      · skip
        have hb:y.headD false=false:=by simpa using h57
        refine wp_exit ?_
        refine x_thenExit ?_
        refine x_blockHere ?_
        refine x_then ?_
        refine er 3 S H (by omega) fun a w S H=>?_
        refine x_then ?_
        have hU2:Dk.tornUpto f r (k+1)=(o,y.tail):=by
          rw [Dk.tornUpto,hU]
          exact Dk.tornStep_no hne hb
        exact ⟨(k+1,o,y.tail,Ao,co,A7,c8),⟨S.sub ⟨rfl,rfl,(by first | rfl | simp),((show lk _ _=some _ from rfl).trans (congrArg (fun x=>some (Value.int .i64 x)) (by omega))),rfl,trivial⟩,pk [1,2,3,4,0] 5 H,⟨by unfold Dk.sectors;omega,hU2,okxA7⟩⟩,by show Dk.sectors f.now.length - (k+1) < Dk.sectors f.now.length - k;unfold Dk.sectors;omega⟩
      have hb:y.headD false=true:=by simpa using h57
      refine wp_skip ?_
      refine x_then ?_
      refine r_seq ?_
      refine sr 4 S H t0 fun a w S H=>?_
      refine r_test S rfl (fun h61=>?_) (fun h61=>?_)
      · skip
        refine r_region ?_
        refine rn 5 S H (by omega) fun a w S H=>?_
        refine r_extend (m:=(to_ - o.length)) (xs':=u8s (o++List.replicate (to_ - o.length) 0)) (km:=(o++List.replicate (to_ - o.length) 0).length) (L':=fun A9 c10=>blk bk (.cells #[.slice A7 y.tail.length c8] 56)::row 5 1 (.slice A9 ((o++List.replicate (to_ - o.length) 0).length) c10) ((o++List.replicate (to_ - o.length) 0).length) (u8s (o++List.replicate (to_ - o.length) 0))::blk fb (.cells #[.slice A f.now.length c,.slice D f.syn.length e] 105)::row 5 1 (.slice A f.now.length c) f.now.length (u8s f.now)::row 5 1 (.slice D f.syn.length e) f.syn.length (u8s f.syn)::M) 1 S H rfl rfl rfl rfl el50 Tryz.underlying3 rfl rfl (by first | omega | (simp<;>omega)) (by simp only [maxLen];first | omega | (simp<;>omega)) (by first | omega | (simp<;>omega)) (by simp) (by simp [u8s]) (fun _ _=>rfl) rfl rfl rfl fun a w A9 c10 S H=>?_
        refine rn 1 S H t0 fun a w S H=>?_
        refine r_nil ?_
        refine x_then ?_
        have hcap:=(SlOk.ofRow (i:=1) H rfl).le
        have hXl:to_<=(o++List.replicate (to_ - o.length) 0).length:=by simp;omega
        obtain ⟨b11,rfl⟩:=H.rowAt (i:=1) rfl (by omega)
        refine ha [0,2,3,4] 5 H fun w H HS=>?_
        refine tk 0 S HS fun a S=>?_
        refine tk 1 S HS fun a S=>?_
        refine tkY 2 S HS rfl (y_sliceRow2 (k:=16*k) S rfl rfl rfl Tryz.underlying50 Tryz.sizeOf5 rfl (by omega)) rfl rfl rfl fun a S=>?_
        refine tk 3 S HS fun a S=>?_
        refine tk 4 S HS fun a S=>?_
        refine tk 5 S HS fun a S=>?_
        refine tk 6 S HS fun a S=>?_
        refine tk 7 S HS fun a S=>?_
        refine tk 8 S HS fun a S=>?_
        refine tkY 9 S HS rfl (y_sliceLH (k:=(16*k)) (k':=to_) S rfl rfl rfl rfl Tryz.underlying50 Tryz.sizeOf5 (by first | omega | (simp<;>omega)) (by first | omega | (simp<;>omega)) (by first | omega | (simp<;>omega)) (by first | omega | (simp<;>omega))) rfl rfl rfl fun a S=>?_
        refine h1 10 ?_
        refine r_copy (L':=blk bk (.cells #[.slice A7 y.tail.length c8] 56)::row 5 1 (.slice (some ⟨b11,0,none⟩) ((o++List.replicate (to_ - o.length) 0).length) c10) ((o++List.replicate (to_ - o.length) 0).length) (u8s ((o++List.replicate (to_ - o.length) 0).take (16*k)++((f.now.drop (16*k)).take (to_ - 16*k)).take (min (to_ - 16*k) ((o++List.replicate (to_ - o.length) 0).length - 16*k))++(o++List.replicate (to_ - o.length) 0).drop (16*k+min (to_ - 16*k) ((o++List.replicate (to_ - o.length) 0).length - 16*k))))::blk fb (.cells #[.slice A f.now.length c,.slice D f.syn.length e] 105)::row 5 1 (.slice A f.now.length c) f.now.length (u8s f.now)::row 5 1 (.slice D f.syn.length e) f.syn.length (u8s f.syn)::M) 1 S H rfl rfl rfl Tryz.underlying50 (by kernel_rfl) ((SlOk.ofRow (i:=3) H rfl).part8 (16*k) to_ (by first | omega | (simp<;>omega)) (by first | omega | (simp<;>omega))) (one_u8s _) rfl (by first | omega | (simp<;>omega)) (by rw [copy8];rfl) rfl rfl rfl fun a w S H=>?_
        generalize hX:(o++List.replicate (to_ - o.length) 0).take (16*k)++((f.now.drop (16*k)).take (to_ - 16*k)).take (min (to_ - 16*k) ((o++List.replicate (to_ - o.length) 0).length - 16*k))++(o++List.replicate (to_ - o.length) 0).drop (16*k+min (to_ - 16*k) ((o++List.replicate (to_ - o.length) 0).length - 16*k))=X at H
        have hXn:(o++List.replicate (to_ - o.length) 0).length=X.length:=by rw [<-hX];simp;omega
        rw [hXn] at H S
        refine sn ?_
        refine hk (pk [0,2,3,4] 5 H) fun HS=>?_
        refine hz ?_
        refine x_blockEnd ?_
        refine x_then ?_
        refine er 3 S H (by omega) fun a w S H=>?_
        refine x_then ?_
        have hU2:Dk.tornUpto f r (k+1)=(X,y.tail):=by
          rw [Dk.tornUpto,hU,Dk.tornStep_yes hne hb,<-hto]
          exact Prod.ext ((torn_fin (by simp;omega) (by omega) (by first | rfl | (simp;omega)) (by first | omega | (simp;omega))).trans hX) rfl
        exact ⟨(k+1,X,y.tail,(some ⟨b11,0,none⟩),c10,A7,c8),⟨S.sub ⟨rfl,rfl,(by first | rfl | simp),((show lk _ _=some _ from rfl).trans (congrArg (fun x=>some (Value.int .i64 x)) (by omega))),rfl,trivial⟩,pk [1,2,3,4,0] 5 H,⟨by unfold Dk.sectors;omega,hU2,okxA7⟩⟩,by show Dk.sectors f.now.length - (k+1) < Dk.sectors f.now.length - k;unfold Dk.sectors;omega⟩
      refine wp_skip ?_
      refine x_then ?_
      have hcap:=(SlOk.ofRow (i:=1) H rfl).le
      have hXl:to_<=o.length:=by omega
      obtain ⟨b12,rfl⟩:=H.rowAt (i:=1) rfl (by omega)
      refine ha [0,2,3,4] 5 H fun w H HS=>?_
      refine tk 0 S HS fun a S=>?_
      refine tk 1 S HS fun a S=>?_
      refine tkY 2 S HS rfl (y_sliceRow2 (k:=16*k) S rfl rfl rfl Tryz.underlying50 Tryz.sizeOf5 rfl (by omega)) rfl rfl rfl fun a S=>?_
      refine tk 3 S HS fun a S=>?_
      refine tk 4 S HS fun a S=>?_
      refine tk 5 S HS fun a S=>?_
      refine tk 6 S HS fun a S=>?_
      refine tk 7 S HS fun a S=>?_
      refine tk 8 S HS fun a S=>?_
      refine tkY 9 S HS rfl (y_sliceLH (k:=(16*k)) (k':=to_) S rfl rfl rfl rfl Tryz.underlying50 Tryz.sizeOf5 (by first | omega | (simp<;>omega)) (by first | omega | (simp<;>omega)) (by first | omega | (simp<;>omega)) (by first | omega | (simp<;>omega))) rfl rfl rfl fun a S=>?_
      refine h1 10 ?_
      refine r_copy (L':=blk bk (.cells #[.slice A7 y.tail.length c8] 56)::row 5 1 (.slice (some ⟨b12,0,none⟩) o.length co) o.length (u8s (o.take (16*k)++((f.now.drop (16*k)).take (to_ - 16*k)).take (min (to_ - 16*k) (o.length - 16*k))++o.drop (16*k+min (to_ - 16*k) (o.length - 16*k))))::blk fb (.cells #[.slice A f.now.length c,.slice D f.syn.length e] 105)::row 5 1 (.slice A f.now.length c) f.now.length (u8s f.now)::row 5 1 (.slice D f.syn.length e) f.syn.length (u8s f.syn)::M) 1 S H rfl rfl rfl Tryz.underlying50 (by kernel_rfl) ((SlOk.ofRow (i:=3) H rfl).part8 (16*k) to_ (by first | omega | (simp<;>omega)) (by first | omega | (simp<;>omega))) (one_u8s _) rfl (by first | omega | (simp<;>omega)) (by rw [copy8];rfl) rfl rfl rfl fun a w S H=>?_
      generalize hX:o.take (16*k)++((f.now.drop (16*k)).take (to_ - 16*k)).take (min (to_ - 16*k) (o.length - 16*k))++o.drop (16*k+min (to_ - 16*k) (o.length - 16*k))=X at H
      have hXn:o.length=X.length:=by rw [<-hX];simp;omega
      rw [hXn] at H S
      refine sn ?_
      refine hk (pk [0,2,3,4] 5 H) fun HS=>?_
      refine hz ?_
      refine x_blockEnd ?_
      refine x_then ?_
      refine er 3 S H (by omega) fun a w S H=>?_
      refine x_then ?_
      have hU2:Dk.tornUpto f r (k+1)=(X,y.tail):=by
        rw [Dk.tornUpto,hU,Dk.tornStep_yes hne hb,<-hto]
        exact Prod.ext ((torn_fin (by simp;omega) (by omega) (by first | rfl | (simp;omega)) (by first | omega | (simp;omega))).trans hX) rfl
      exact ⟨(k+1,X,y.tail,(some ⟨b12,0,none⟩),co,A7,c8),⟨S.sub ⟨rfl,rfl,(by first | rfl | simp),((show lk _ _=some _ from rfl).trans (congrArg (fun x=>some (Value.int .i64 x)) (by omega))),rfl,trivial⟩,pk [1,2,3,4,0] 5 H,⟨by unfold Dk.sectors;omega,hU2,okxA7⟩⟩,by show Dk.sectors f.now.length - (k+1) < Dk.sectors f.now.length - k;unfold Dk.sectors;omega⟩
    · skip
      refine r_seq ?_
      refine ha [0,1,2,3,4] 5 H fun w H HS=>?_
      refine tk 0 S HS fun a S=>?_
      refine tk 1 S HS fun a S=>?_
      refine tk 2 S HS fun a S=>?_
      refine tk 3 S HS fun a S=>?_
      refine tk 4 S HS fun a S=>?_
      refine tk 5 S HS fun a S=>?_
      refine tkY 6 S HS rfl (y_le S rfl rfl rfl) rfl rfl rfl fun a S=>?_
      have S:=S.retell (v':=.bool true) 35 rfl (congrArg Value.bool (decide_eq_true (by omega)))
      refine tk 7 S HS fun a S=>?_
      refine tk 8 S HS fun a S=>?_
      refine tk 9 S HS fun a S=>?_
      refine tk 10 S HS fun a S=>?_
      refine tk 11 S HS fun a S=>?_
      refine tk 12 S HS fun a S=>?_
      refine tk 13 S HS fun a S=>?_
      refine tkY 14 S HS rfl (y_sliceLH (k:=(16*k)) (k':=to_) S rfl rfl rfl rfl Tryz.underlying50 Tryz.sizeOf5 (by first | omega | (simp<;>omega)) (by first | omega | (simp<;>omega)) (by first | omega | (simp<;>omega)) (by first | omega | (simp<;>omega))) rfl rfl rfl fun a S=>?_
      refine tk 15 S HS fun a S=>?_
      refine tk 16 S HS fun a S=>?_
      refine tk 17 S HS fun a S=>?_
      refine tk 18 S HS fun a S=>?_
      refine tk 19 S HS fun a S=>?_
      refine tk 20 S HS fun a S=>?_
      refine tkY 21 S HS rfl (y_sliceLH (k:=(16*k)) (k':=to_) S rfl rfl rfl rfl Tryz.underlying50 Tryz.sizeOf5 (by first | omega | (simp<;>omega)) (by first | omega | (simp<;>omega)) (by first | omega | (simp<;>omega)) (by first | omega | (simp<;>omega))) rfl rfl rfl fun a S=>?_
      refine h1 22 ?_
      refine r_call (args:=#[.slice (shift A ((16*k)*1) (decide (c=(16*k)))) (to_ - (16*k)) (c - (16*k)),.slice (shift D ((16*k)*1) (decide (e=(16*k)))) (to_ - (16*k)) (e - (16*k))]) S rfl rfl Tryz.call75 (equal_ct (H:=H) _ _ _ _ _ _ ((SlOk.ofRow (i:=2) H rfl).part8 (16*k) to_ (by first | omega | (simp<;>omega)) (by first | omega | (simp<;>omega))) _ _ _ _ ((SlOk.ofRow (i:=3) H rfl).part8 (16*k) to_ (by first | omega | (simp<;>omega)) (by first | omega | (simp<;>omega)))) rfl rfl rfl fun v a w hR S=>?_
      obtain ⟨rfl,H⟩:=hR
      have S:=S.retell (v':=.bool true) 51 rfl (congrArg Value.bool (decide_eq_true (by rw [hto];exact he)))
      refine sn ?_
      refine hk (H) fun HS=>?_
      refine tk 23 S HS fun a S=>?_
      refine tk 24 S HS fun a S=>?_
      refine tkS 25 S HS fun a S=>?_
      refine tkS 26 S HS fun a S=>?_
      refine tkS 27 S HS fun a S=>?_
      refine tk 28 S HS fun a S=>?_
      refine hz ?_
      refine x_then ?_
      refine r_condT S rfl ?_
      refine wp_exit ?_
      refine x_thenExit ?_
      refine x_blockHere ?_
      refine x_then ?_
      refine er 3 S H (by omega) fun a w S H=>?_
      refine x_then ?_
      have hU2:Dk.tornUpto f r (k+1)=(o,y):=by
        rw [Dk.tornUpto,hU]
        exact Dk.tornStep_same hq he
      exact ⟨(k+1,o,y,Ao,co,Ay,cy),⟨S.sub ⟨rfl,rfl,(by first | rfl | simp),((show lk _ _=some _ from rfl).trans (congrArg (fun x=>some (Value.int .i64 x)) (by omega))),rfl,trivial⟩,H,⟨by unfold Dk.sectors;omega,hU2,oky⟩⟩,by show Dk.sectors f.now.length - (k+1) < Dk.sectors f.now.length - k;unfold Dk.sectors;omega⟩
    have hne:¬ (min (16*k+16) f.now.length<=f.syn.length/\(f.now.drop (16*k)).take (min (16*k+16) f.now.length - 16*k)=(f.syn.drop (16*k)).take (min (16*k+16) f.now.length - 16*k)):=fun h=>he h.2
    refine r_seq ?_
    refine ha [0,1,2,3] 5 H fun w H HS=>?_
    refine tk 0 S HS fun a S=>?_
    refine tk 1 S HS fun a S=>?_
    refine tk 2 S HS fun a S=>?_
    refine tk 3 S HS fun a S=>?_
    refine tk 4 S HS fun a S=>?_
    refine tk 5 S HS fun a S=>?_
    refine tkY 6 S HS rfl (y_le S rfl rfl rfl) rfl rfl rfl fun a S=>?_
    have S:=S.retell (v':=.bool true) 35 rfl (congrArg Value.bool (decide_eq_true (by omega)))
    refine tk 7 S HS fun a S=>?_
    refine tk 8 S HS fun a S=>?_
    refine tk 9 S HS fun a S=>?_
    refine tk 10 S HS fun a S=>?_
    refine tk 11 S HS fun a S=>?_
    refine tk 12 S HS fun a S=>?_
    refine tk 13 S HS fun a S=>?_
    refine tkY 14 S HS rfl (y_sliceLH (k:=(16*k)) (k':=to_) S rfl rfl rfl rfl Tryz.underlying50 Tryz.sizeOf5 (by first | omega | (simp<;>omega)) (by first | omega | (simp<;>omega)) (by first | omega | (simp<;>omega)) (by first | omega | (simp<;>omega))) rfl rfl rfl fun a S=>?_
    refine tk 15 S HS fun a S=>?_
    refine tk 16 S HS fun a S=>?_
    refine tk 17 S HS fun a S=>?_
    refine tk 18 S HS fun a S=>?_
    refine tk 19 S HS fun a S=>?_
    refine tk 20 S HS fun a S=>?_
    refine tkY 21 S HS rfl (y_sliceLH (k:=(16*k)) (k':=to_) S rfl rfl rfl rfl Tryz.underlying50 Tryz.sizeOf5 (by first | omega | (simp<;>omega)) (by first | omega | (simp<;>omega)) (by first | omega | (simp<;>omega)) (by first | omega | (simp<;>omega))) rfl rfl rfl fun a S=>?_
    refine h1 22 ?_
    refine r_call (args:=#[.slice (shift A ((16*k)*1) (decide (c=(16*k)))) (to_ - (16*k)) (c - (16*k)),.slice (shift D ((16*k)*1) (decide (e=(16*k)))) (to_ - (16*k)) (e - (16*k))]) S rfl rfl Tryz.call75 (equal_ct (H:=H) _ _ _ _ _ _ ((SlOk.ofRow (i:=2) H rfl).part8 (16*k) to_ (by first | omega | (simp<;>omega)) (by first | omega | (simp<;>omega))) _ _ _ _ ((SlOk.ofRow (i:=3) H rfl).part8 (16*k) to_ (by first | omega | (simp<;>omega)) (by first | omega | (simp<;>omega)))) rfl rfl rfl fun v a w hR S=>?_
    obtain ⟨rfl,H⟩:=hR
    have S:=S.retell (v':=.bool false) 51 rfl (congrArg Value.bool (decide_eq_false (by rw [hto];exact he)))
    refine sn ?_
    refine hk (pk [0,1,2,3] 5 H) fun HS=>?_
    refine tk 23 S HS fun a S=>?_
    refine tk 24 S HS fun a S=>?_
    refine tk 25 S HS fun a S=>?_
    refine h1 26 ?_
    refine r_callV (args:=#[]) S rfl rfl rfl Tryz.call50 (next_ct (H:=pk [4,0,1,2,3] 5 H) _ _ fr (fun _ H=>hM _ (H.drop.drop.drop.drop)) bk _ _ y oky) rfl rfl rfl fun v a w hR S=>?_
    obtain ⟨rfl,A13,c14,okxA13,H⟩:=hR
    refine sn ?_
    refine hk (pk [1,2,3,4] 5 H) fun HS=>?_
    refine tk 27 S HS fun a S=>?_
    refine tk 28 S HS fun a S=>?_
    refine hz ?_
    refine x_then ?_
    refine r_cond S rfl (fun h57=>?_) (fun h57=>?_)
    · skip
      have hb:y.headD false=false:=by simpa using h57
      refine wp_exit ?_
      refine x_thenExit ?_
      refine x_blockHere ?_
      refine x_then ?_
      refine er 3 S H (by omega) fun a w S H=>?_
      refine x_then ?_
      have hU2:Dk.tornUpto f r (k+1)=(o,y.tail):=by
        rw [Dk.tornUpto,hU]
        exact Dk.tornStep_no hne hb
      exact ⟨(k+1,o,y.tail,Ao,co,A13,c14),⟨S.sub ⟨rfl,rfl,(by first | rfl | simp),((show lk _ _=some _ from rfl).trans (congrArg (fun x=>some (Value.int .i64 x)) (by omega))),rfl,trivial⟩,pk [1,2,3,4,0] 5 H,⟨by unfold Dk.sectors;omega,hU2,okxA13⟩⟩,by show Dk.sectors f.now.length - (k+1) < Dk.sectors f.now.length - k;unfold Dk.sectors;omega⟩
    have hb:y.headD false=true:=by simpa using h57
    refine wp_skip ?_
    refine x_then ?_
    refine r_seq ?_
    refine sr 4 S H t0 fun a w S H=>?_
    refine r_test S rfl (fun h61=>?_) (fun h61=>?_)
    · skip
      refine r_region ?_
      refine rn 5 S H (by omega) fun a w S H=>?_
      refine r_extend (m:=(to_ - o.length)) (xs':=u8s (o++List.replicate (to_ - o.length) 0)) (km:=(o++List.replicate (to_ - o.length) 0).length) (L':=fun A15 c16=>blk bk (.cells #[.slice A13 y.tail.length c14] 56)::row 5 1 (.slice A15 ((o++List.replicate (to_ - o.length) 0).length) c16) ((o++List.replicate (to_ - o.length) 0).length) (u8s (o++List.replicate (to_ - o.length) 0))::blk fb (.cells #[.slice A f.now.length c,.slice D f.syn.length e] 105)::row 5 1 (.slice A f.now.length c) f.now.length (u8s f.now)::row 5 1 (.slice D f.syn.length e) f.syn.length (u8s f.syn)::M) 1 S H rfl rfl rfl rfl el50 Tryz.underlying3 rfl rfl (by first | omega | (simp<;>omega)) (by simp only [maxLen];first | omega | (simp<;>omega)) (by first | omega | (simp<;>omega)) (by simp) (by simp [u8s]) (fun _ _=>rfl) rfl rfl rfl fun a w A15 c16 S H=>?_
      refine rn 1 S H t0 fun a w S H=>?_
      refine r_nil ?_
      refine x_then ?_
      have hcap:=(SlOk.ofRow (i:=1) H rfl).le
      have hXl:to_<=(o++List.replicate (to_ - o.length) 0).length:=by simp;omega
      obtain ⟨b17,rfl⟩:=H.rowAt (i:=1) rfl (by omega)
      refine ha [0,2,3,4] 5 H fun w H HS=>?_
      refine tk 0 S HS fun a S=>?_
      refine tk 1 S HS fun a S=>?_
      refine tkY 2 S HS rfl (y_sliceRow2 (k:=16*k) S rfl rfl rfl Tryz.underlying50 Tryz.sizeOf5 rfl (by omega)) rfl rfl rfl fun a S=>?_
      refine tk 3 S HS fun a S=>?_
      refine tk 4 S HS fun a S=>?_
      refine tk 5 S HS fun a S=>?_
      refine tk 6 S HS fun a S=>?_
      refine tk 7 S HS fun a S=>?_
      refine tk 8 S HS fun a S=>?_
      refine tkY 9 S HS rfl (y_sliceLH (k:=(16*k)) (k':=to_) S rfl rfl rfl rfl Tryz.underlying50 Tryz.sizeOf5 (by first | omega | (simp<;>omega)) (by first | omega | (simp<;>omega)) (by first | omega | (simp<;>omega)) (by first | omega | (simp<;>omega))) rfl rfl rfl fun a S=>?_
      refine h1 10 ?_
      refine r_copy (L':=blk bk (.cells #[.slice A13 y.tail.length c14] 56)::row 5 1 (.slice (some ⟨b17,0,none⟩) ((o++List.replicate (to_ - o.length) 0).length) c16) ((o++List.replicate (to_ - o.length) 0).length) (u8s ((o++List.replicate (to_ - o.length) 0).take (16*k)++((f.now.drop (16*k)).take (to_ - 16*k)).take (min (to_ - 16*k) ((o++List.replicate (to_ - o.length) 0).length - 16*k))++(o++List.replicate (to_ - o.length) 0).drop (16*k+min (to_ - 16*k) ((o++List.replicate (to_ - o.length) 0).length - 16*k))))::blk fb (.cells #[.slice A f.now.length c,.slice D f.syn.length e] 105)::row 5 1 (.slice A f.now.length c) f.now.length (u8s f.now)::row 5 1 (.slice D f.syn.length e) f.syn.length (u8s f.syn)::M) 1 S H rfl rfl rfl Tryz.underlying50 (by kernel_rfl) ((SlOk.ofRow (i:=3) H rfl).part8 (16*k) to_ (by first | omega | (simp<;>omega)) (by first | omega | (simp<;>omega))) (one_u8s _) rfl (by first | omega | (simp<;>omega)) (by rw [copy8];rfl) rfl rfl rfl fun a w S H=>?_
      generalize hX:(o++List.replicate (to_ - o.length) 0).take (16*k)++((f.now.drop (16*k)).take (to_ - 16*k)).take (min (to_ - 16*k) ((o++List.replicate (to_ - o.length) 0).length - 16*k))++(o++List.replicate (to_ - o.length) 0).drop (16*k+min (to_ - 16*k) ((o++List.replicate (to_ - o.length) 0).length - 16*k))=X at H
      have hXn:(o++List.replicate (to_ - o.length) 0).length=X.length:=by rw [<-hX];simp;omega
      rw [hXn] at H S
      refine sn ?_
      refine hk (pk [0,2,3,4] 5 H) fun HS=>?_
      refine hz ?_
      refine x_blockEnd ?_
      refine x_then ?_
      refine er 3 S H (by omega) fun a w S H=>?_
      refine x_then ?_
      have hU2:Dk.tornUpto f r (k+1)=(X,y.tail):=by
        rw [Dk.tornUpto,hU,Dk.tornStep_yes hne hb,<-hto]
        exact Prod.ext ((torn_fin (by simp;omega) (by omega) (by first | rfl | (simp;omega)) (by first | omega | (simp;omega))).trans hX) rfl
      exact ⟨(k+1,X,y.tail,(some ⟨b17,0,none⟩),c16,A13,c14),⟨S.sub ⟨rfl,rfl,(by first | rfl | simp),((show lk _ _=some _ from rfl).trans (congrArg (fun x=>some (Value.int .i64 x)) (by omega))),rfl,trivial⟩,pk [1,2,3,4,0] 5 H,⟨by unfold Dk.sectors;omega,hU2,okxA13⟩⟩,by show Dk.sectors f.now.length - (k+1) < Dk.sectors f.now.length - k;unfold Dk.sectors;omega⟩
    refine wp_skip ?_
    refine x_then ?_
    have hcap:=(SlOk.ofRow (i:=1) H rfl).le
    have hXl:to_<=o.length:=by omega
    obtain ⟨b18,rfl⟩:=H.rowAt (i:=1) rfl (by omega)
    refine ha [0,2,3,4] 5 H fun w H HS=>?_
    refine tk 0 S HS fun a S=>?_
    refine tk 1 S HS fun a S=>?_
    refine tkY 2 S HS rfl (y_sliceRow2 (k:=16*k) S rfl rfl rfl Tryz.underlying50 Tryz.sizeOf5 rfl (by omega)) rfl rfl rfl fun a S=>?_
    refine tk 3 S HS fun a S=>?_
    refine tk 4 S HS fun a S=>?_
    refine tk 5 S HS fun a S=>?_
    refine tk 6 S HS fun a S=>?_
    refine tk 7 S HS fun a S=>?_
    refine tk 8 S HS fun a S=>?_
    refine tkY 9 S HS rfl (y_sliceLH (k:=(16*k)) (k':=to_) S rfl rfl rfl rfl Tryz.underlying50 Tryz.sizeOf5 (by first | omega | (simp<;>omega)) (by first | omega | (simp<;>omega)) (by first | omega | (simp<;>omega)) (by first | omega | (simp<;>omega))) rfl rfl rfl fun a S=>?_
    refine h1 10 ?_
    refine r_copy (L':=blk bk (.cells #[.slice A13 y.tail.length c14] 56)::row 5 1 (.slice (some ⟨b18,0,none⟩) o.length co) o.length (u8s (o.take (16*k)++((f.now.drop (16*k)).take (to_ - 16*k)).take (min (to_ - 16*k) (o.length - 16*k))++o.drop (16*k+min (to_ - 16*k) (o.length - 16*k))))::blk fb (.cells #[.slice A f.now.length c,.slice D f.syn.length e] 105)::row 5 1 (.slice A f.now.length c) f.now.length (u8s f.now)::row 5 1 (.slice D f.syn.length e) f.syn.length (u8s f.syn)::M) 1 S H rfl rfl rfl Tryz.underlying50 (by kernel_rfl) ((SlOk.ofRow (i:=3) H rfl).part8 (16*k) to_ (by first | omega | (simp<;>omega)) (by first | omega | (simp<;>omega))) (one_u8s _) rfl (by first | omega | (simp<;>omega)) (by rw [copy8];rfl) rfl rfl rfl fun a w S H=>?_
    generalize hX:o.take (16*k)++((f.now.drop (16*k)).take (to_ - 16*k)).take (min (to_ - 16*k) (o.length - 16*k))++o.drop (16*k+min (to_ - 16*k) (o.length - 16*k))=X at H
    have hXn:o.length=X.length:=by rw [<-hX];simp;omega
    rw [hXn] at H S
    refine sn ?_
    refine hk (pk [0,2,3,4] 5 H) fun HS=>?_
    refine hz ?_
    refine x_blockEnd ?_
    refine x_then ?_
    refine er 3 S H (by omega) fun a w S H=>?_
    refine x_then ?_
    have hU2:Dk.tornUpto f r (k+1)=(X,y.tail):=by
      rw [Dk.tornUpto,hU,Dk.tornStep_yes hne hb,<-hto]
      exact Prod.ext ((torn_fin (by simp;omega) (by omega) (by first | rfl | (simp;omega)) (by first | omega | (simp;omega))).trans hX) rfl
    exact ⟨(k+1,X,y.tail,(some ⟨b18,0,none⟩),co,A13,c14),⟨S.sub ⟨rfl,rfl,(by first | rfl | simp),((show lk _ _=some _ from rfl).trans (congrArg (fun x=>some (Value.int .i64 x)) (by omega))),rfl,trivial⟩,pk [1,2,3,4,0] 5 H,⟨by unfold Dk.sectors;omega,hU2,okxA13⟩⟩,by show Dk.sectors f.now.length - (k+1) < Dk.sectors f.now.length - k;unfold Dk.sectors;omega⟩
  refine wp_exit ?_
  refine x_thenExit ?_
  refine x_thenExit ?_
  refine x_blockHere ?_
  refine x_then ?_
  refine r_region ?_
  refine rn 4 S H t0 fun a w S H=>?_
  refine r_call (args:=#[.slice Ao o.length co]) S rfl rfl Tryz.call74 (clone8_ct (H:=H) _ _ _ _ _ o (SlOk.ofRow (i:=0) H rfl) (by omega)) rfl rfl rfl fun v a w hR S=>?_
  obtain ⟨A23,c24,rfl,H⟩:=hR
  refine rn 6 S H t0 fun a w S H=>?_
  refine r_nil ?_
  refine r_end0 S Tryz.results51 ?_
  have hk:k=Dk.sectors f.now.length:=by unfold Dk.sectors at *;omega
  have hT:Dk.torn f r=(o,y):=by unfold Dk.torn;rw [<-hk,hU]
  rw [hT]
  exact ⟨rfl,_,_,oky,Sat.shutFile ⟨o,o⟩ (pk [2,1,0,5] 6 H)⟩

end Go.Proofs.YtoffbmhmocfmnaaGreatDoor
