/- Laws of the model, walks of functions of the program, and what they rest on. No condition. -/
import Derived.Test.YtoffbmhmocfmnaaGreatDoorKVau
import Derived.Test.YtoffbmhmocfmnaaGreatDoorKVar
import Derived.Test.YtoffbmhmocfmnaaGreatDoorKVaj
import Derived.Shelf.Strconv.Itoa3
import Derived.Shelf.Small.Wraps
import Derived.Test.YtoffbmhmocfmnaaGreatDoorKVat
import Derived.RangeFuncBox
import Derived.Shelf.Abstract
import Derived.WalkKit
import Derived.OwnWalkIn
import Derived.TacticsInMore
import Derived.LoopNIn
import Derived.LoopIn
import Derived.BigRegionIn
namespace Go.Proofs.YtoffbmhmocfmnaaGreatDoor
open Go.RowKit Go.Cg
set_option linter.unusedVariables false
set_option linter.unusedSimpArgs false
set_option maxRecDepth 8000
set_option synthInstance.maxHeartbeats 1000000
set_option synthInstance.maxSize 1000000
theorem el197:Elem Tryz.prog 197 202 3 24 (.agg #[.int .u64 0,.int .u64 0,.pointer none]):=⟨Tryz.underlying197,by kernel_rfl,rfl,by decide⟩
open Go.Cg.Rn (R Bd Hd hd0 hg)
open Go.Cg.Sn (slt)
/-- the address of a reader, by its number from 1 on -/
def pzo:Option Nat->Value
  | some b=>.pointer (some ⟨b,0,none⟩)
  | none=>.pointer none
def pz (rbs:List Nat):Nat->Value
  | 0=>.pointer none
  | i+1=>pzo rbs[i]?
theorem pz_at {rbs:List Nat} {i:Nat} (h:i < rbs.length):pz rbs (i+1)=.pointer (some ⟨rbs.getD i 0,0,none⟩):=by
  show pzo _=_
  rw [List.getElem?_eq_getElem h,List.getD_eq_getElem?_getD,List.getElem?_eq_getElem h];rfl
theorem pz_more {rbs:List Nat} {b i:Nat} (h:i<=rbs.length):pz (rbs++[b]) i=pz rbs i:=by
  cases i with
  | zero=>rfl
  | succ i=>rw [pz_at (by simp;omega),pz_at (by omega),List.getD_eq_getElem?_getD,List.getD_eq_getElem?_getD,List.getElem?_append_left (by omega)]
@[simp] theorem pz_cell (rbs:List Nat) (i:Nat):(pz rbs i).oneCell'=true:=by
  cases i with
  | zero=>rfl
  | succ i=>
    show (pzo _).oneCell'=true
    cases rbs[i]? <;>rfl
instance (rbs:List Nat) (i:Nat):One1 (pz rbs i):=⟨pz_cell rbs i⟩
def scell (rbs:List Nat) (h:Hd):List Value:=[.int .u64 ((h.1.1:Nat):Int),.int .u64 ((h.1.2:Nat):Int),pz rbs h.2]
def sds (rbs:List Nat) (l:List Hd):List Value:=l.flatMap (scell rbs)
theorem sds_more {rbs:List Nat} {b:Nat} {l:List Hd} (h:∀ x∈l,x.2<=rbs.length):sds (rbs++[b]) l=sds rbs l:=by
  induction l with
  | nil=>rfl
  | cons x l ih=>
    have h1:=ih fun y hy=>h y (List.mem_cons_of_mem _ hy)
    unfold sds at h1 ⊢
    rw [List.flatMap_cons,List.flatMap_cons,h1]
    unfold scell;rw [pz_more (h x List.mem_cons_self)]
theorem sds_cons {rbs:List Nat} (e:Hd) (l:List Hd):sds rbs (e::l)=scell rbs e++sds rbs l:=by simp [sds]
@[simp] theorem len_sds {rbs:List Nat}:∀ l:List Hd,(sds rbs l).length=l.length*3
  | []=>rfl
  | e::l=>by rw [sds_cons,List.length_append,len_sds l];simp [scell];omega
theorem sds_app {rbs:List Nat} (l l':List Hd):sds rbs l++sds rbs l'=sds rbs (l++l'):=by simp [sds]
theorem sds_take {rbs:List Nat}:∀ (l:List Hd) (k:Nat),(sds rbs l).take (k*3)=sds rbs (l.take k)
  | [],k=>by simp [sds]
  | e::l,0=>by simp [sds]
  | e::l,k+1=>by
    rw [sds_cons,List.take_succ_cons,sds_cons,<-sds_take l k,show (k+1)*3=3+k*3 from by omega]
    exact List.take_length_add_append (l₁:=scell rbs e) (l₂:=sds rbs l) (k*3)
theorem sds_from {rbs:List Nat}:∀ {l:List Hd} {i:Nat},i < l.length->∀ k v,(scell rbs (l.getD i hd0))[k]? =some v->(sds rbs l)[i*3+k]? =some v
  | e::l,0,_,k,v,h=>by
    have hk:k < (scell rbs e).length:=(List.getElem?_eq_some_iff.1 h).1
    rw [sds_cons,Nat.zero_mul,Nat.zero_add,List.getElem?_append_left hk];exact h
  | e::l,i+1,hi,k,v,h=>by
    have:=sds_from (l:=l) (i:=i) (by simpa using hi) k v (by simpa using h)
    rw [sds_cons,List.getElem?_append_right (by simp [scell];omega)]
    rw [show (i+1)*3+k - (scell rbs e).length=i*3+k from by simp [scell];omega]
    exact this
theorem one_sds {rbs:List Nat} (l:List Hd):∀ u∈sds rbs l,u.oneCell'=true:=by
  intro u hu
  simp only [sds,List.mem_flatMap] at hu
  obtain ⟨e,_,he⟩:=hu
  simp [scell] at he
  rcases he with rfl | rfl | rfl
  · rfl
  · rfl
  · exact pz_cell _ _
theorem putL_app:∀ (vs xs ys:List Value) (j:Nat),putL (xs++ys) (xs.length+j) vs=xs++putL ys j vs
  | [],_,_,_=>rfl
  | v::vs,xs,ys,j=>by
    rw [putL,putL,List.set_append,if_neg (by omega),show xs.length+j - xs.length=j from by omega,Nat.add_assoc,putL_app vs xs _ (j+1)]
theorem sds_put' {rbs:List Nat}:∀ {l:List Hd} {i:Nat} {x:Hd},i < l.length->putL (sds rbs l) (i*3) (scell rbs x)=sds rbs (l.set i x)
  | e::l,0,x,_=>by rw [sds_cons];simp [putL,scell,sds_cons]
  | e::l,i+1,x,h=>by
    rw [sds_cons,show (i+1)*3=(scell rbs e).length+i*3 from by simp [scell];omega,putL_app,sds_put' (l:=l) (i:=i) (by simpa using h),List.set_cons_succ,sds_cons]
theorem sds_put {rbs:List Nat} {l:List Hd} {i j:Nat} {x:Hd} (h:i < l.length) (hj:j=i*3:=by omega):putL (sds rbs l) j (scell rbs x)=sds rbs (l.set i x):=by subst hj;exact sds_put' h
theorem meth202_Before (v:Value):Meth Tryz.prog 202 v "Before" 197:=fun w=>by kernel_rfl
theorem sbefore_ct (w:World) (fr:List Res) (rbs:List Nat) (x y:Hd) (H:Sat w (fr)):
    Rt Tryz.prog 197 #[.agg #[.int .u64 ((x.1.1:Nat):Int),.int .u64 ((x.1.2:Nat):Int),pz rbs x.2],.agg #[.int .u64 ((y.1.1:Nat):Int),.int .u64 ((y.1.2:Nat):Int),pz rbs y.2]] w fun v w'=>v=.bool (slt x y)/\Sat w' fr:=by
  refine en2 Tryz.func197 rfl Tryz.ntmps197 rfl fun a S=>?_
  refine sb ?_
  refine r_box (c:=#[.int .u64 ((x.1.1:Nat):Int),.int .u64 ((x.1.2:Nat):Int),pz rbs x.2]) S H rfl rfl rfl rfl rfl rfl fun a w b1 S H=>?_
  refine r_box (c:=#[.int .u64 ((y.1.1:Nat):Int),.int .u64 ((y.1.2:Nat):Int),pz rbs y.2]) S H rfl rfl rfl rfl rfl rfl fun a w b2 S H=>?_
  refine rs 1 S H t0 fun a w S H=>?_
  refine sb ?_
  refine rn 4 S H t0 fun a w S H=>?_
  refine r_call (args:=#[.agg #[.int .u64 ((x.1.1:Nat):Int),.int .u64 ((x.1.2:Nat):Int)],.agg #[.int .u64 ((y.1.1:Nat):Int),.int .u64 ((y.1.2:Nat):Int)]]) S rfl rfl Tryz.call165 (before_ct (H:=H) _ _ x.1 y.1) rfl rfl rfl fun v a w hR S=>?_
  obtain ⟨rfl,H⟩:=hR
  refine rs 1 S H t0 fun a w S H=>?_
  refine wp_ret ?_
  refine r_ret1 S H Tryz.results197 (ro_tmp S rfl) ?_
  exact ⟨rfl,H.drop.drop⟩

theorem push_ct (w:World) (fr:List Res) (rbs:List Nat) (hb:Nat) (A:Option Addr) (c:Nat) (hs:List Hd) (x:Hd) (hn:hs.length<=1099511627776) (H:Sat w (blk hb (.cells #[.slice A hs.length c] 199)::row 202 3 (.slice A hs.length c) hs.length (sds rbs hs)::fr)):
    Rt Tryz.prog 132 #[.pointer (some ⟨hb,0,none⟩),.agg #[.int .u64 ((x.1.1:Nat):Int),.int .u64 ((x.1.2:Nat):Int),pz rbs x.2]] w fun v w'=>∃A' c',v=.tuple #[]/\Sat w' (blk hb (.cells #[.slice A' (Sn.hpush hs x).length c'] 199)::row 202 3 (.slice A' (Sn.hpush hs x).length c') (Sn.hpush hs x).length (sds rbs (Sn.hpush hs x))::fr):=by
  refine en2 Tryz.func132 rfl Tryz.ntmps132 rfl fun a S=>?_
  refine sb ?_
  refine r_box (c:=#[.int .u64 ((x.1.1:Nat):Int),.int .u64 ((x.1.2:Nat):Int),pz rbs x.2]) S H rfl rfl rfl rfl rfl rfl fun a w b1 S H=>?_
  refine sn ?_
  refine sr 6 S H t0 fun a w S H=>?_
  refine r_seq ?_
  refine ha [0] 3 H fun w H HS=>?_
  refine tk 0 S HS fun a S=>?_
  refine tk 1 S HS fun a S=>?_
  refine tk 2 S HS fun a S=>?_
  refine tk 3 S HS fun a S=>?_
  refine tk 5 S HS fun a S=>?_
  refine hmemo [true,true,true,true,true,true,true,false,false,false,false] 4 (fun a w=>∃b2:Nat,Slots a 61 [(0,.pointer (some ⟨hb,0,none⟩)),(3,.pointer (some ⟨b1,0,none⟩)),(4,.int .i64 ((hs.length:Nat):Int)),(10,.pointer (some ⟨hb,0,none⟩)),(14,.slice A hs.length c),(16,.slice (some ⟨b2,0,none⟩) 1 1),(61,undef)]/\Sat w (row 202 3 (.slice (some ⟨b2,0,none⟩) 1 1) 1 (sds rbs [x])::blk b1 (.cells #[.int .u64 ((x.1.1:Nat):Int),.int .u64 ((x.1.2:Nat):Int),pz rbs x.2] 202)::blk hb (.cells #[.slice A hs.length c] 199)::row 202 3 (.slice A hs.length c) hs.length (sds rbs hs)::fr)) ?_ fun K0=>?_
  · rintro a w ⟨b2,S,H⟩
    have HS:Sat w _:=pk [1] 4 H
    refine h1 7 ?_
    refine r_appendS (L':=fun A6 c7=>row 202 3 (.slice (some ⟨b2,0,none⟩) 1 1) 1 (sds rbs [x])::blk b1 (.cells #[.int .u64 ((x.1.1:Nat):Int),.int .u64 ((x.1.2:Nat):Int),pz rbs x.2] 202)::blk hb (.cells #[.slice A hs.length c] 199)::row 202 3 (.slice A6 (hs.length+1) c7) (hs.length+1) (sds rbs (hs++([x])))::fr) (xs':=sds rbs (hs++([x]))) 3 S H rfl rfl rfl rfl el197 (SlOk.ofRow (i:=0) H rfl) (one_sds _) (by simp only [maxLen];first | omega | (simp<;>omega)) (by first | omega | (simp<;>omega)) (sds_app (rbs:=rbs) hs ([x])) (by first | omega | (simp<;>omega)) (fun _ _=>rfl) rfl rfl rfl fun a w A6 c7 hA6 S H=>?_
    refine sn ?_
    refine hk (pk [1] 4 H) fun HS=>?_
    refine tk 8 S HS fun a S=>?_
    refine tk 9 S HS fun a S=>?_
    refine h1 10 ?_
    refine rs 1 S H t0 fun a w S H=>?_
    refine hk (pk [1] 4 H) fun HS=>?_
    refine hz ?_
    refine x_then ?_
    refine r_seq ?_
    refine r_block ?_
    obtain ⟨b8,rfl⟩:=H.rowAt (i:=3) rfl (by omega)
    refine r_loop (ι:=List Hd×Nat) (fun ⟨l,i⟩ a w=>Slots a 61 [(0,.pointer (some ⟨hb,0,none⟩)),(3,.pointer (some ⟨b1,0,none⟩)),(4,.int .i64 ((i:Nat):Int)),(61,undef)]/\Sat w (row 202 3 (.slice (some ⟨b2,0,none⟩) 1 1) 1 (sds rbs [x])::blk b1 (.cells #[.int .u64 ((x.1.1:Nat):Int),.int .u64 ((x.1.2:Nat):Int),pz rbs x.2] 202)::blk hb (.cells #[.slice (some ⟨b8,0,none⟩) (hs.length+1) c7] 199)::row 202 3 (.slice (some ⟨b8,0,none⟩) (hs.length+1) c7) (hs.length+1) (sds rbs l)::fr)/\(i < l.length/\Sn.hup x i l=Sn.hpush hs x/\l.length=hs.length+1)) (fun ⟨l,i⟩=>i) (hs++[x],hs.length) ⟨S.sub ⟨rfl,rfl,rfl,rfl,trivial⟩,H,⟨by simp,rfl,by simp⟩⟩ (fun ⟨l,i⟩ a w hI=>?_)
    obtain ⟨S,H,hI⟩:=hI
    obtain ⟨hil,hU,hL⟩:=hI
    refine r_seq ?_
    rcases Nat.eq_zero_or_pos i with h0 | h0
    · skip
      apply qb H rfl (by kernel_rfl)
      · skip
        refine qn 1 S t0 fun a S=>?_
        refine q_y S (y_gt S rfl rfl rfl) rfl rfl rfl fun a S=>?_
        have S:=S.retell (v':=.bool false) 21 rfl (by rw [decide_eq_false (by omega)])
        refine qn 14 S t0 fun a S=>?_
        exact q_nil S
      · intro a w S H
        refine r_condF S rfl ?_
        refine wp_exit ?_
        refine x_thenExit ?_
        refine x_thenExit ?_
        refine x_blockHere ?_
        refine x_then ?_
        refine ha [0,1,2] 4 H fun w H HS=>?_
        refine tk 0 S HS fun a S=>?_
        refine tk 1 S HS fun a S=>?_
        refine tk 2 S HS fun a S=>?_
        refine tk 3 S HS fun a S=>?_
        refine tk 4 S HS fun a S=>?_
        refine tk 5 S HS fun a S=>?_
        refine tkY 6 S HS rfl (y_index S rfl rfl rfl Tryz.underlying197 Tryz.sizeOf202 (by omega) (by omega)) rfl rfl rfl fun a S=>?_
        refine h1 7 ?_
        refine r_setRows (vs:=[.int .u64 ((x.1.1:Nat):Int),.int .u64 ((x.1.2:Nat):Int),pz rbs x.2]) (xs':=sds rbs (l.set i x)) (L':=row 202 3 (.slice (some ⟨b2,0,none⟩) 1 1) 1 (sds rbs [x])::blk b1 (.cells #[.int .u64 ((x.1.1:Nat):Int),.int .u64 ((x.1.2:Nat):Int),pz rbs x.2] 202)::blk hb (.cells #[.slice (some ⟨b8,0,none⟩) (hs.length+1) c7] 199)::row 202 3 (.slice (some ⟨b8,0,none⟩) (hs.length+1) c7) (hs.length+1) (sds rbs (l.set i x))::fr) 3 S H rfl rfl rfl rfl Tryz.sizeOf202 rfl rfl (by intro v hv;simp only [List.mem_cons,List.not_mem_nil,or_false] at hv;rcases hv with rfl | rfl | rfl<;>first | rfl | exact pz_cell _ _) (by first | omega | (simp<;>omega)) (sds_put (by first | omega | (simp<;>omega))) rfl rfl rfl fun w H=>?_
        refine sn ?_
        refine hk (pk [0,1,2] 4 H) fun HS=>?_
        refine hz ?_
        refine r_end0 S Tryz.results132 ?_
        have e:l.set i x=Sn.hpush hs x:=by rw [<-hU];exact (Sn.hup_end (fun h=>absurd h (by omega))).symm
        have en:hs.length+1=(Sn.hpush hs x).length:=by simp
        have H:=pk [2,3] 4 H
        rw [e,en] at H
        exact ⟨_,_,rfl,H⟩
    apply qb H rfl (by kernel_rfl)
    · skip
      refine qn 1 S t0 fun a S=>?_
      refine q_y S (y_gt S rfl rfl rfl) rfl rfl rfl fun a S=>?_
      have S:=S.retell (v':=.bool true) 21 rfl (by rw [decide_eq_true (by omega)])
      refine qn 2 S t0 fun a S=>?_
      refine q_y S (y_iface S rfl rfl Tryz.underlying202 (fun _ h=>by cases h)) rfl rfl rfl fun a S=>?_
      refine qn 5 S t0 fun a S=>?_
      refine q_y S (y_sub S rfl rfl rfl (wi64 (by omega) (by omega))) rfl rfl rfl fun a S=>?_
      have S:=S.retell (v':=.int .i64 (((i - 1):Nat):Int)) 30 rfl (int_eq (by omega))
      refine q_y S (y_quoN S rfl rfl rfl (by omega) (by omega) (wdivi64 (by omega) (by omega) (by omega))) rfl rfl rfl fun a S=>?_
      have S:=S.retell (v':=.int .i64 ((((i - 1) / 2):Nat):Int)) 31 rfl (int_eq (by omega))
      refine q_y S (y_index S rfl rfl rfl Tryz.underlying197 Tryz.sizeOf202 (by omega) (by omega)) rfl rfl rfl fun a S=>?_
      refine q_y S (y_loadAggAt [.int .u64 (((l.getD ((i - 1) / 2) hd0).1.1:Nat):Int),.int .u64 (((l.getD ((i - 1) / 2) hd0).1.2:Nat):Int),pz rbs (l.getD ((i - 1) / 2) hd0).2] S rfl rfl (fun w=>⟨Tryz.isAgg202 w,Tryz.sizeOf202 w⟩) rfl (fun w H=>(SlOk.ofRow (i:=3) H rfl).cells w H (sds_from (rbs:=rbs) (i:=((i - 1) / 2)) (by first | omega | (simp<;>omega))))) rfl rfl rfl fun a S=>?_
      refine q_callM (args:=#[.agg #[.int .u64 (((l.getD ((i - 1) / 2) hd0).1.1:Nat):Int),.int .u64 (((l.getD ((i - 1) / 2) hd0).1.2:Nat):Int),pz rbs (l.getD ((i - 1) / 2) hd0).2]]) (args':=#[.agg #[.int .u64 ((x.1.1:Nat):Int),.int .u64 ((x.1.2:Nat):Int),pz rbs x.2],.agg #[.int .u64 (((l.getD ((i - 1) / 2) hd0).1.1:Nat):Int),.int .u64 (((l.getD ((i - 1) / 2) hd0).1.2:Nat):Int),pz rbs (l.getD ((i - 1) / 2) hd0).2]]) S rfl rfl rfl (meth202_Before _) Tryz.call197 rfl (fun w H=>sbefore_ct (H:=H) _ _ rbs x (l.getD ((i - 1) / 2) hd0)) rfl rfl rfl fun a S=>?_
      refine qn 1 S t0 fun a S=>?_
      exact q_nil S
    · intro a w S H
      refine r_cond S rfl (fun h35=>?_) (fun h35=>?_)
      · skip
        refine wp_skip ?_
        refine x_then ?_
        refine r_block ?_
        refine r_seq ?_
        refine ha [0,1,2] 4 H fun w H HS=>?_
        refine tk 0 S HS fun a S=>?_
        refine tk 1 S HS fun a S=>?_
        refine tk 2 S HS fun a S=>?_
        refine tk 3 S HS fun a S=>?_
        refine tk 4 S HS fun a S=>?_
        refine tk 5 S HS fun a S=>?_
        refine tk 6 S HS fun a S=>?_
        refine tk 7 S HS fun a S=>?_
        refine tk 8 S HS fun a S=>?_
        refine tk 9 S HS fun a S=>?_
        refine tkY 10 S HS rfl (y_sub S rfl rfl rfl (wi64 (by omega) (by omega))) rfl rfl rfl fun a S=>?_
        have S:=S.retell (v':=.int .i64 (((i - 1):Nat):Int)) 46 rfl (int_eq (by omega))
        refine tkY 11 S HS rfl (y_quoN S rfl rfl rfl (by omega) (by omega) (wdivi64 (by omega) (by omega) (by omega))) rfl rfl rfl fun a S=>?_
        have S:=S.retell (v':=.int .i64 ((((i - 1) / 2):Nat):Int)) 47 rfl (int_eq (by omega))
        refine tkY 12 S HS rfl (y_index S rfl rfl rfl Tryz.underlying197 Tryz.sizeOf202 (by omega) (by omega)) rfl rfl rfl fun a S=>?_
        refine h1 13 ?_
        refine r_y S H (y_loadAggAt [.int .u64 (((l.getD ((i - 1) / 2) hd0).1.1:Nat):Int),.int .u64 (((l.getD ((i - 1) / 2) hd0).1.2:Nat):Int),pz rbs (l.getD ((i - 1) / 2) hd0).2] S rfl rfl (fun w=>⟨Tryz.isAgg202 w,Tryz.sizeOf202 w⟩) rfl (fun w H=>(SlOk.ofRow (i:=3) H rfl).cells w H (sds_from (rbs:=rbs) (i:=((i - 1) / 2)) (by first | omega | (simp<;>omega))))) rfl rfl rfl fun a S=>?_
        refine sn ?_
        refine hk (pk [0,1,2] 4 H) fun HS=>?_
        refine tkY 14 S HS rfl (y_index S rfl rfl rfl Tryz.underlying197 Tryz.sizeOf202 (by omega) (by omega)) rfl rfl rfl fun a S=>?_
        refine h1 15 ?_
        refine r_setRows (vs:=[.int .u64 (((l.getD ((i - 1) / 2) hd0).1.1:Nat):Int),.int .u64 (((l.getD ((i - 1) / 2) hd0).1.2:Nat):Int),pz rbs (l.getD ((i - 1) / 2) hd0).2]) (xs':=sds rbs (l.set i (l.getD ((i - 1) / 2) hd0))) (L':=row 202 3 (.slice (some ⟨b2,0,none⟩) 1 1) 1 (sds rbs [x])::blk b1 (.cells #[.int .u64 ((x.1.1:Nat):Int),.int .u64 ((x.1.2:Nat):Int),pz rbs x.2] 202)::blk hb (.cells #[.slice (some ⟨b8,0,none⟩) (hs.length+1) c7] 199)::row 202 3 (.slice (some ⟨b8,0,none⟩) (hs.length+1) c7) (hs.length+1) (sds rbs (l.set i (l.getD ((i - 1) / 2) hd0)))::fr) 3 S H rfl rfl rfl rfl Tryz.sizeOf202 rfl rfl (by intro v hv;simp only [List.mem_cons,List.not_mem_nil,or_false] at hv;rcases hv with rfl | rfl | rfl<;>first | rfl | exact pz_cell _ _) (by first | omega | (simp<;>omega)) (sds_put (by first | omega | (simp<;>omega))) rfl rfl rfl fun w H=>?_
        refine sn ?_
        refine hk (pk [0,1,2] 4 H) fun HS=>?_
        refine hz ?_
        refine x_then ?_
        refine r_region ?_
        refine rn 1 S H t0 fun a w S H=>?_
        refine r_y S H (y_sub S rfl rfl rfl (wi64 (by omega) (by omega))) rfl rfl rfl fun a S=>?_
        have S:=S.retell (v':=.int .i64 (((i - 1):Nat):Int)) 52 rfl (int_eq (by omega))
        refine r_y S H (y_quoN S rfl rfl rfl (by omega) (by omega) (wdivi64 (by omega) (by omega) (by omega))) rfl rfl rfl fun a S=>?_
        have S:=S.retell (v':=.int .i64 ((((i - 1) / 2):Nat):Int)) 53 rfl (int_eq (by omega))
        refine rn 1 S H t0 fun a w S H=>?_
        refine r_nil ?_
        refine x_blockEnd ?_
        refine x_then ?_
        exact ⟨(l.set i (l.getD ((i - 1) / 2) hd0),(i - 1) / 2),⟨S.sub ⟨rfl,rfl,rfl,rfl,trivial⟩,H,⟨by simp;omega,by rw [<-hU];exact (Sn.hup_go h0 h35).symm,by simp;omega⟩⟩,by show (i - 1) / 2 < i;omega⟩
      refine wp_exit ?_
      refine x_thenExit ?_
      refine x_thenExit ?_
      refine x_blockHere ?_
      refine x_then ?_
      refine ha [0,1,2] 4 H fun w H HS=>?_
      refine tk 0 S HS fun a S=>?_
      refine tk 1 S HS fun a S=>?_
      refine tk 2 S HS fun a S=>?_
      refine tk 3 S HS fun a S=>?_
      refine tk 4 S HS fun a S=>?_
      refine tk 5 S HS fun a S=>?_
      refine tkY 6 S HS rfl (y_index S rfl rfl rfl Tryz.underlying197 Tryz.sizeOf202 (by omega) (by omega)) rfl rfl rfl fun a S=>?_
      refine h1 7 ?_
      refine r_setRows (vs:=[.int .u64 ((x.1.1:Nat):Int),.int .u64 ((x.1.2:Nat):Int),pz rbs x.2]) (xs':=sds rbs (l.set i x)) (L':=row 202 3 (.slice (some ⟨b2,0,none⟩) 1 1) 1 (sds rbs [x])::blk b1 (.cells #[.int .u64 ((x.1.1:Nat):Int),.int .u64 ((x.1.2:Nat):Int),pz rbs x.2] 202)::blk hb (.cells #[.slice (some ⟨b8,0,none⟩) (hs.length+1) c7] 199)::row 202 3 (.slice (some ⟨b8,0,none⟩) (hs.length+1) c7) (hs.length+1) (sds rbs (l.set i x))::fr) 3 S H rfl rfl rfl rfl Tryz.sizeOf202 rfl rfl (by intro v hv;simp only [List.mem_cons,List.not_mem_nil,or_false] at hv;rcases hv with rfl | rfl | rfl<;>first | rfl | exact pz_cell _ _) (by first | omega | (simp<;>omega)) (sds_put (by first | omega | (simp<;>omega))) rfl rfl rfl fun w H=>?_
      refine sn ?_
      refine hk (pk [0,1,2] 4 H) fun HS=>?_
      refine hz ?_
      refine r_end0 S Tryz.results132 ?_
      have e:l.set i x=Sn.hpush hs x:=by rw [<-hU];exact (Sn.hup_end (fun _=>by simpa using h35)).symm
      have en:hs.length+1=(Sn.hpush hs x).length:=by simp
      have H:=pk [2,3] 4 H
      rw [e,en] at H
      exact ⟨_,_,rfl,H⟩
  refine h2 4 6 ?_ ?_
  · skip
    refine rs 1 S H t0 fun a w S H=>?_
    refine hk (pk [0] 3 H) fun HS=>?_
    refine h1 6 ?_
    refine r_lit (vs:=#[(0,.agg #[.int .u64 ((x.1.1:Nat):Int),.int .u64 ((x.1.2:Nat):Int),pz rbs x.2])]) (cs:=sds rbs [x]) S H rfl rfl el197 (by kernel_rfl) (by decide) (by rfl) rfl rfl rfl fun a w b9 S H=>?_
    refine sn ?_
    refine hk (pk [1] 4 H) fun HS=>?_
    exact K0 _ _ ⟨_,S.sub ⟨rfl,rfl,rfl,rfl,rfl,rfl,rfl,trivial⟩,H⟩
  · skip
    refine r_lit (vs:=#[(0,.agg #[.int .u64 ((x.1.1:Nat):Int),.int .u64 ((x.1.2:Nat):Int),pz rbs x.2])]) (cs:=sds rbs [x]) S H rfl rfl el197 (by kernel_rfl) (by decide) (by rfl) rfl rfl rfl fun a w b10 S H=>?_
    refine sn ?_
    refine hk (pk [1] 4 H) fun HS=>?_
    refine h1 4 ?_
    refine rs 1 S H t0 fun a w S H=>?_
    refine hk (pk [1] 4 H) fun HS=>?_
    exact K0 _ _ ⟨_,S.sub ⟨rfl,rfl,rfl,rfl,rfl,rfl,rfl,trivial⟩,H⟩

theorem least_ct (w:World) (fr:List Res) (rbs:List Nat) (hb:Nat) (A:Option Addr) (c:Nat) (hs:List Hd) (i n:Nat) (hL:hs.length=n) (hn:hs.length<=1099511627776) (hi:i<=1099511627776) (H:Sat w (blk hb (.cells #[.slice A n c] 199)::row 202 3 (.slice A n c) n (sds rbs hs)::fr)):
    Rt Tryz.prog 151 #[.pointer (some ⟨hb,0,none⟩),.int .i64 ((i:Nat):Int)] w fun v w'=>v=.int .i64 (Sn.lst hs i)/\Sat w' (blk hb (.cells #[.slice A n c] 199)::row 202 3 (.slice A n c) n (sds rbs hs)::fr):=by
  refine en2 Tryz.func151 rfl Tryz.ntmps151 rfl fun a S=>?_
  refine sr 1 S H t0 fun a w S H=>?_
  refine sb ?_
  refine rn 2 S H (by omega) fun a w S H=>?_
  refine r_y S H (y_add S rfl rfl rfl (wi64 (by omega) (by omega))) rfl rfl rfl fun a S=>?_
  have S:=S.retell (v':=.int .i64 (((2*i+1):Nat):Int)) 8 rfl (int_eq (by omega))
  refine rs 1 S H t0 fun a w S H=>?_
  refine r_seq ?_
  refine sr 7 S H t0 fun a w S H=>?_
  refine r_test S rfl (fun h15=>?_) (fun h15=>?_)
  · skip
    refine sr 1 S H t0 fun a w S H=>?_
    refine wp_ret ?_
    refine x_thenRet ?_
    refine r_ret1 S H Tryz.results151 (ro_tmp S rfl) ?_
    have e:Sn.lst hs i= -1:=by unfold Sn.lst;rw [if_pos (by omega)]
    rw [e]
    exact ⟨rfl,H⟩
  refine wp_skip ?_
  refine x_then ?_
  refine r_seq ?_
  obtain ⟨b1,rfl⟩:=H.rowAt (i:=1) rfl (by omega)
  rcases Nat.lt_or_ge (2*i+2) hs.length with h0 | h0
  · skip
    apply qb H rfl (by kernel_rfl)
    · skip
      refine qn 1 S t0 fun a S=>?_
      refine q_y S (y_add S rfl rfl rfl (wi64 (by omega) (by omega))) rfl rfl rfl fun a S=>?_
      have S:=S.retell (v':=.int .i64 (((2*i+2):Nat):Int)) 17 rfl (int_eq (by omega))
      refine qn 5 S t0 fun a S=>?_
      refine q_y S (y_lt S rfl rfl rfl) rfl rfl rfl fun a S=>?_
      have S:=S.retell (v':=.bool true) 23 rfl (by rw [decide_eq_true (by omega)])
      refine qn 6 S t0 fun a S=>?_
      refine q_y S (y_add S rfl rfl rfl (wi64 (by omega) (by omega))) rfl rfl rfl fun a S=>?_
      have S:=S.retell (v':=.int .i64 (((2*i+2):Nat):Int)) 30 rfl (int_eq (by omega))
      refine q_y S (y_index S rfl rfl rfl Tryz.underlying197 Tryz.sizeOf202 (by omega) (by omega)) rfl rfl rfl fun a S=>?_
      refine q_y S (y_loadAggAt [.int .u64 (((hs.getD (2*i+2) hd0).1.1:Nat):Int),.int .u64 (((hs.getD (2*i+2) hd0).1.2:Nat):Int),pz rbs (hs.getD (2*i+2) hd0).2] S rfl rfl (fun w=>⟨Tryz.isAgg202 w,Tryz.sizeOf202 w⟩) rfl (fun w H=>(SlOk.ofRow (i:=1) H rfl).cells w H (sds_from (rbs:=rbs) (i:=(2*i+2)) (by first | omega | (simp<;>omega))))) rfl rfl rfl fun a S=>?_
      refine q_y S (y_iface S rfl rfl Tryz.underlying202 (fun _ h=>by cases h)) rfl rfl rfl fun a S=>?_
      refine qn 5 S t0 fun a S=>?_
      refine q_y S (y_index S rfl rfl rfl Tryz.underlying197 Tryz.sizeOf202 (by omega) (by omega)) rfl rfl rfl fun a S=>?_
      refine q_y S (y_loadAggAt [.int .u64 (((hs.getD (2*i+1) hd0).1.1:Nat):Int),.int .u64 (((hs.getD (2*i+1) hd0).1.2:Nat):Int),pz rbs (hs.getD (2*i+1) hd0).2] S rfl rfl (fun w=>⟨Tryz.isAgg202 w,Tryz.sizeOf202 w⟩) rfl (fun w H=>(SlOk.ofRow (i:=1) H rfl).cells w H (sds_from (rbs:=rbs) (i:=(2*i+1)) (by first | omega | (simp<;>omega))))) rfl rfl rfl fun a S=>?_
      refine q_callM (args:=#[.agg #[.int .u64 (((hs.getD (2*i+1) hd0).1.1:Nat):Int),.int .u64 (((hs.getD (2*i+1) hd0).1.2:Nat):Int),pz rbs (hs.getD (2*i+1) hd0).2]]) (args':=#[.agg #[.int .u64 (((hs.getD (2*i+2) hd0).1.1:Nat):Int),.int .u64 (((hs.getD (2*i+2) hd0).1.2:Nat):Int),pz rbs (hs.getD (2*i+2) hd0).2],.agg #[.int .u64 (((hs.getD (2*i+1) hd0).1.1:Nat):Int),.int .u64 (((hs.getD (2*i+1) hd0).1.2:Nat):Int),pz rbs (hs.getD (2*i+1) hd0).2]]) S rfl rfl rfl (meth202_Before _) Tryz.call197 rfl (fun w H=>sbefore_ct (H:=H) _ _ rbs (hs.getD (2*i+2) hd0) (hs.getD (2*i+1) hd0)) rfl rfl rfl fun a S=>?_
      refine qn 1 S t0 fun a S=>?_
      exact q_nil S
    · intro a w S H
      refine r_cond S rfl (fun h42=>?_) (fun h42=>?_)
      · skip
        refine r_region ?_
        refine rn 1 S H t0 fun a w S H=>?_
        refine r_y S H (y_add S rfl rfl rfl (wi64 (by omega) (by omega))) rfl rfl rfl fun a S=>?_
        have S:=S.retell (v':=.int .i64 (((2*i+2):Nat):Int)) 44 rfl (int_eq (by omega))
        refine rn 1 S H t0 fun a w S H=>?_
        refine r_nil ?_
        refine x_then ?_
        refine sr 2 S H t0 fun a w S H=>?_
        refine wp_ret ?_
        refine r_ret1 S H Tryz.results151 (ro_tmp S rfl) ?_
        have e:Sn.lst hs i=(((2*i+2):Nat):Int):=by unfold Sn.lst;rw [if_neg (by omega),if_pos ⟨by omega,h42⟩]
        rw [e]
        exact ⟨rfl,H⟩
      refine wp_skip ?_
      refine x_then ?_
      refine sr 2 S H t0 fun a w S H=>?_
      refine wp_ret ?_
      refine r_ret1 S H Tryz.results151 (ro_tmp S rfl) ?_
      have e:Sn.lst hs i=(((2*i+1):Nat):Int):=by unfold Sn.lst;rw [if_neg (by omega),if_neg (fun h=>by rw [h.2] at h42;cases h42)]
      rw [e]
      exact ⟨rfl,H⟩
  apply qb H rfl (by kernel_rfl)
  · skip
    refine qn 1 S t0 fun a S=>?_
    refine q_y S (y_add S rfl rfl rfl (wi64 (by omega) (by omega))) rfl rfl rfl fun a S=>?_
    have S:=S.retell (v':=.int .i64 (((2*i+2):Nat):Int)) 17 rfl (int_eq (by omega))
    refine qn 5 S t0 fun a S=>?_
    refine q_y S (y_lt S rfl rfl rfl) rfl rfl rfl fun a S=>?_
    have S:=S.retell (v':=.bool false) 23 rfl (by rw [decide_eq_false (by omega)])
    refine qn 19 S t0 fun a S=>?_
    exact q_nil S
  · intro a w S H
    refine r_condF S rfl ?_
    refine wp_skip ?_
    refine x_then ?_
    refine sr 2 S H t0 fun a w S H=>?_
    refine wp_ret ?_
    refine r_ret1 S H Tryz.results151 (ro_tmp S rfl) ?_
    have e:Sn.lst hs i=(((2*i+1):Nat):Int):=by unfold Sn.lst;rw [if_neg (by omega),if_neg (fun h=>by omega)]
    rw [e]
    exact ⟨rfl,H⟩

theorem peek_ct (w:World) (fr:List Res) (rbs:List Nat) (hb:Nat) (A:Option Addr) (c:Nat) (hs:List Hd) (H:Sat w (blk hb (.cells #[.slice A hs.length c] 199)::row 202 3 (.slice A hs.length c) hs.length (sds rbs hs)::fr)):
    Rt Tryz.prog 150 #[.pointer (some ⟨hb,0,none⟩)] w fun v w'=>v=.tuple #[.agg #[.int .u64 (((hs.getD 0 hd0).1.1:Nat):Int),.int .u64 (((hs.getD 0 hd0).1.2:Nat):Int),pz rbs (hs.getD 0 hd0).2],.bool (decide (0 < hs.length))]/\Sat w' (blk hb (.cells #[.slice A hs.length c] 199)::row 202 3 (.slice A hs.length c) hs.length (sds rbs hs)::fr):=by
  refine en1 Tryz.func150 rfl Tryz.ntmps150 rfl fun a S=>?_
  refine sb ?_
  refine r_alloc S H rfl Tryz.zeroValue202 rfl rfl rfl rfl fun a w b1 S H=>?_
  replace H:Sat _ (blk b1 (.cells #[.int .u64 0,.int .u64 0,.pointer none] 202)::blk hb (.cells #[.slice A hs.length c] 199)::row 202 3 (.slice A hs.length c) hs.length (sds rbs hs)::fr):=H
  refine rs 1 S H t0 fun a w S H=>?_
  refine r_seq ?_
  refine sr 6 S H t0 fun a w S H=>?_
  refine r_test S rfl (fun h9=>?_) (fun h9=>?_)
  · skip
    refine sr 3 S H t0 fun a w S H=>?_
    refine wp_ret ?_
    refine x_thenRet ?_
    refine r_ret2 S H Tryz.results150 (ro_agg [_,_,_] (i:=0) S rfl (fun w=>⟨Tryz.isAgg202 w,Tryz.sizeOf202 w⟩) rfl rfl ⟨rfl,rfl,rfl,trivial⟩) (ro_tmp S rfl) ?_
    have e:hs=[]:=List.eq_nil_of_length_eq_zero (by omega)
    subst e
    exact ⟨rfl,pk [1,2] 3 H⟩
  refine wp_skip ?_
  refine x_then ?_
  obtain ⟨b2,rfl⟩:=H.rowAt (i:=2) rfl (by omega)
  refine sb ?_
  refine rn 4 S H t0 fun a w S H=>?_
  refine r_y S H (y_index S rfl rfl rfl Tryz.underlying197 Tryz.sizeOf202 (by omega) (by omega)) rfl rfl rfl fun a S=>?_
  refine r_y S H (y_loadAggAt [.int .u64 (((hs.getD 0 hd0).1.1:Nat):Int),.int .u64 (((hs.getD 0 hd0).1.2:Nat):Int),pz rbs (hs.getD 0 hd0).2] S rfl rfl (fun w=>⟨Tryz.isAgg202 w,Tryz.sizeOf202 w⟩) rfl (fun w H=>(SlOk.ofRow (i:=2) H rfl).cells w H (sds_from (rbs:=rbs) (i:=0) (by first | omega | (simp<;>omega))))) rfl rfl rfl fun a S=>?_
  refine rs 2 S H t0 fun a w S H=>?_
  refine wp_ret ?_
  refine r_ret2 S H Tryz.results150 (ro_agg [_,_,_] (i:=0) S rfl (fun w=>⟨Tryz.isAgg202 w,Tryz.sizeOf202 w⟩) rfl rfl ⟨rfl,rfl,rfl,trivial⟩) (ro_tmp S rfl) ?_
  rw [decide_eq_true (by omega)]
  exact ⟨rfl,pk [1,2] 3 H⟩

theorem pop_ct (w:World) (fr:List Res) (rbs:List Nat) (hb:Nat) (A:Option Addr) (c:Nat) (hs:List Hd) (hn:hs.length<=1099511627776) (H:Sat w (blk hb (.cells #[.slice A hs.length c] 199)::row 202 3 (.slice A hs.length c) hs.length (sds rbs hs)::fr)):
    Rt Tryz.prog 133 #[.pointer (some ⟨hb,0,none⟩)] w fun v w'=>∃A' c',v=.tuple #[.agg #[.int .u64 (((hs.getD 0 hd0).1.1:Nat):Int),.int .u64 (((hs.getD 0 hd0).1.2:Nat):Int),pz rbs (hs.getD 0 hd0).2],.bool (decide (0 < hs.length))]/\Sat w' (blk hb (.cells #[.slice A' (Sn.hpop hs).length c'] 199)::row 202 3 (.slice A' (Sn.hpop hs).length c') (Sn.hpop hs).length (sds rbs (Sn.hpop hs))::fr):=by
  refine en1 Tryz.func133 rfl Tryz.ntmps133 rfl fun a S=>?_
  refine sb ?_
  refine r_alloc S H rfl Tryz.zeroValue202 rfl rfl rfl rfl fun a w b1 S H=>?_
  replace H:Sat _ (blk b1 (.cells #[.int .u64 0,.int .u64 0,.pointer none] 202)::blk hb (.cells #[.slice A hs.length c] 199)::row 202 3 (.slice A hs.length c) hs.length (sds rbs hs)::fr):=H
  refine rs 1 S H t0 fun a w S H=>?_
  refine sb ?_
  refine rn 1 S H t0 fun a w S H=>?_
  refine r_call (args:=#[.pointer (some ⟨hb,0,none⟩)]) S rfl rfl Tryz.call150 (peek_ct (H:=(pk [1,2,0] 3 H)) _ _ rbs hb _ _ hs) rfl rfl rfl fun v a w hR S=>?_
  obtain ⟨rfl,H⟩:=hR
  refine rn 3 S H t0 fun a w S H=>?_
  refine r_alloc S H rfl Tryz.zeroValue202 rfl rfl rfl rfl fun a w b2 S H=>?_
  replace H:Sat _ (blk b2 (.cells #[.int .u64 0,.int .u64 0,.pointer none] 202)::blk hb (.cells #[.slice A hs.length c] 199)::row 202 3 (.slice A hs.length c) hs.length (sds rbs hs)::blk b1 (.cells #[.int .u64 0,.int .u64 0,.pointer none] 202)::fr):=H
  refine rs 2 S H t0 fun a w S H=>?_
  refine r_seq ?_
  refine sr 2 S H t0 fun a w S H=>?_
  refine r_cond S rfl (fun h16=>?_) (fun h16=>?_)
  · skip
    have hnil:hs=[]:=by simpa using h16
    refine sr 3 S H t0 fun a w S H=>?_
    refine wp_ret ?_
    refine x_thenRet ?_
    refine r_ret2 S H Tryz.results133 (ro_agg [_,_,_] (i:=3) S rfl (fun w=>⟨Tryz.isAgg202 w,Tryz.sizeOf202 w⟩) rfl rfl ⟨rfl,rfl,rfl,trivial⟩) (ro_tmp S rfl) ?_
    subst hnil
    exact ⟨_,_,rfl,pk [1,2] 4 H⟩
  have hpos:0 < hs.length:=by simpa using h16
  refine wp_skip ?_
  refine x_then ?_
  refine sb ?_
  refine rn 5 S H t0 fun a w S H=>?_
  refine r_y S H (y_sub S rfl rfl rfl (wi64 (by omega) (by omega))) rfl rfl rfl fun a S=>?_
  have S:=S.retell (v':=.int .i64 (((hs.length - 1):Nat):Int)) 23 rfl (int_eq (by omega))
  refine rs 1 S H t0 fun a w S H=>?_
  obtain ⟨b3,rfl⟩:=H.rowAt (i:=2) rfl (by omega)
  refine sb ?_
  refine rn 5 S H t0 fun a w S H=>?_
  refine r_y S H (y_index S rfl rfl rfl Tryz.underlying197 Tryz.sizeOf202 (by omega) (by omega)) rfl rfl rfl fun a S=>?_
  refine r_y S H (y_loadAggAt [.int .u64 (((hs.getD (hs.length - 1) hd0).1.1:Nat):Int),.int .u64 (((hs.getD (hs.length - 1) hd0).1.2:Nat):Int),pz rbs (hs.getD (hs.length - 1) hd0).2] S rfl rfl (fun w=>⟨Tryz.isAgg202 w,Tryz.sizeOf202 w⟩) rfl (fun w H=>(SlOk.ofRow (i:=2) H rfl).cells w H (sds_from (rbs:=rbs) (i:=(hs.length - 1)) (by first | omega | (simp<;>omega))))) rfl rfl rfl fun a S=>?_
  refine r_alloc S H rfl Tryz.zeroValue202 rfl rfl rfl rfl fun a w b4 S H=>?_
  replace H:Sat _ (blk b4 (.cells #[.int .u64 0,.int .u64 0,.pointer none] 202)::blk b2 (.cells #[.int .u64 (((hs.getD 0 hd0).1.1:Nat):Int),.int .u64 (((hs.getD 0 hd0).1.2:Nat):Int),pz rbs (hs.getD 0 hd0).2] 202)::blk hb (.cells #[.slice (some ⟨b3,0,none⟩) hs.length c] 199)::row 202 3 (.slice (some ⟨b3,0,none⟩) hs.length c) hs.length (sds rbs hs)::blk b1 (.cells #[.int .u64 0,.int .u64 0,.pointer none] 202)::fr):=H
  refine rs 1 S H t0 fun a w S H=>?_
  have hle:=(SlOk.ofRow (i:=3) H rfl).le
  refine sb ?_
  refine rn 6 S H t0 fun a w S H=>?_
  refine r_y S H (y_sliceH (k:=(hs.length - 1)) S rfl rfl rfl Tryz.underlying197 Tryz.sizeOf202 (by first | omega | (simp<;>omega)) (by first | omega | (simp<;>omega))) rfl rfl rfl fun a S=>?_
  have S:=S.retell (v':=.slice (some ⟨b3,0,none⟩) (hs.length - 1) c) 37 rfl (by rw [shift0])
  refine rs 3 S H t0 fun a w S H=>?_
  refine r_seq ?_
  have H:=Sat.short (k:=(hs.length - 1)) ((pk [3,0,1,2,4] 5 H)) (by omega)
  rw [sds_take] at H
  replace H:Sat _ (row 202 3 (.slice (some ⟨b3,0,none⟩) (hs.length - 1) c) (hs.length - 1) (sds rbs (hs.take (hs.length - 1)))::blk b4 (.cells #[.int .u64 (((hs.getD (hs.length - 1) hd0).1.1:Nat):Int),.int .u64 (((hs.getD (hs.length - 1) hd0).1.2:Nat):Int),pz rbs (hs.getD (hs.length - 1) hd0).2] 202)::blk b2 (.cells #[.int .u64 (((hs.getD 0 hd0).1.1:Nat):Int),.int .u64 (((hs.getD 0 hd0).1.2:Nat):Int),pz rbs (hs.getD 0 hd0).2] 202)::blk hb (.cells #[.slice (some ⟨b3,0,none⟩) (hs.length - 1) c] 199)::blk b1 (.cells #[.int .u64 0,.int .u64 0,.pointer none] 202)::fr):=H
  refine sr 2 S H t0 fun a w S H=>?_
  refine r_test S rfl (fun h41=>?_) (fun h41=>?_)
  · skip
    refine sr 3 S H t0 fun a w S H=>?_
    refine wp_ret ?_
    refine x_thenRet ?_
    refine r_ret2 S H Tryz.results133 (ro_agg [_,_,_] (i:=4) S rfl (fun w=>⟨Tryz.isAgg202 w,Tryz.sizeOf202 w⟩) rfl rfl ⟨rfl,rfl,rfl,trivial⟩) (ro_tmp S rfl) ?_
    have h1:hs.length=1:=by omega
    obtain ⟨a,rfl⟩:=List.length_eq_one_iff.1 h1
    rw [decide_eq_true (by omega)]
    exact ⟨_,_,rfl,pk [3,0] 5 H⟩
  refine wp_skip ?_
  refine x_then ?_
  refine sr 1 S H t0 fun a w S H=>?_
  refine r_seq ?_
  refine sb ?_
  refine rn 2 S H t0 fun a w S H=>?_
  refine r_call (args:=#[.pointer (some ⟨hb,0,none⟩),.int .i64 0]) S rfl rfl Tryz.call151 (least_ct (H:=(pk [3,0,1,2,4] 5 H)) _ _ rbs hb _ _ (hs.take (hs.length - 1)) 0 _ (by simp) (by simp;omega) (by omega)) rfl rfl rfl fun v a w hR S=>?_
  obtain ⟨rfl,H⟩:=hR
  refine rs 1 S H t0 fun a w S H=>?_
  refine r_block ?_
  refine r_loop (ι:=List Hd×Nat) (fun ⟨l,i⟩ a w=>Slots a 85 [(0,.pointer (some ⟨hb,0,none⟩)),(2,.pointer (some ⟨b1,0,none⟩)),(3,.bool false),(4,.pointer (some ⟨b2,0,none⟩)),(7,.pointer (some ⟨b4,0,none⟩)),(8,.int .i64 ((i:Nat):Int)),(9,.int .i64 (Sn.lst l i)),(85,undef)]/\Sat w (blk hb (.cells #[.slice (some ⟨b3,0,none⟩) (hs.length - 1) c] 199)::row 202 3 (.slice (some ⟨b3,0,none⟩) (hs.length - 1) c) (hs.length - 1) (sds rbs l)::blk b4 (.cells #[.int .u64 (((hs.getD (hs.length - 1) hd0).1.1:Nat):Int),.int .u64 (((hs.getD (hs.length - 1) hd0).1.2:Nat):Int),pz rbs (hs.getD (hs.length - 1) hd0).2] 202)::blk b2 (.cells #[.int .u64 (((hs.getD 0 hd0).1.1:Nat):Int),.int .u64 (((hs.getD 0 hd0).1.2:Nat):Int),pz rbs (hs.getD 0 hd0).2] 202)::blk b1 (.cells #[.int .u64 0,.int .u64 0,.pointer none] 202)::fr)/\(i < l.length/\Sn.hdn (hs.getD (hs.length - 1) hd0) i l=Sn.hpop hs/\l.length=(hs.length - 1))) (fun ⟨l,i⟩=>l.length - i) (hs.take (hs.length - 1),0) ⟨S.sub ⟨rfl,rfl,rfl,rfl,rfl,rfl,rfl,rfl,trivial⟩,H,⟨by simp;omega,by unfold Sn.hpop;rw [if_neg (by omega)],by simp⟩⟩ (fun ⟨l,i⟩ a w hI=>?_)
  obtain ⟨S,H,hI⟩:=hI
  obtain ⟨hil,hD,hL⟩:=hI
  refine r_seq ?_
  rcases Int.lt_or_le (Sn.lst l i) 0 with h0 | h0
  · skip
    apply qb H rfl (by kernel_rfl)
    · skip
      refine qn 1 S t0 fun a S=>?_
      refine q_y S (y_ge S rfl rfl rfl) rfl rfl rfl fun a S=>?_
      have S:=S.retell (v':=.bool false) 47 rfl (by rw [decide_eq_false (by omega)])
      refine qn 12 S t0 fun a S=>?_
      exact q_nil S
    · intro a w S H
      refine r_condF S rfl ?_
      refine wp_exit ?_
      refine x_thenExit ?_
      refine x_thenExit ?_
      refine x_blockHere ?_
      refine x_then ?_
      refine r_seq ?_
      refine ha [0,2,3,4] 5 H fun w H HS=>?_
      refine tk 0 S HS fun a S=>?_
      refine tk 1 S HS fun a S=>?_
      refine tk 2 S HS fun a S=>?_
      refine tk 3 S HS fun a S=>?_
      refine tk 4 S HS fun a S=>?_
      refine tk 5 S HS fun a S=>?_
      refine tkY 6 S HS rfl (y_index S rfl rfl rfl Tryz.underlying197 Tryz.sizeOf202 (by omega) (by omega)) rfl rfl rfl fun a S=>?_
      refine h1 7 ?_
      refine r_setRows (vs:=[.int .u64 (((hs.getD (hs.length - 1) hd0).1.1:Nat):Int),.int .u64 (((hs.getD (hs.length - 1) hd0).1.2:Nat):Int),pz rbs (hs.getD (hs.length - 1) hd0).2]) (xs':=sds rbs (l.set i (hs.getD (hs.length - 1) hd0))) (L':=blk hb (.cells #[.slice (some ⟨b3,0,none⟩) (hs.length - 1) c] 199)::row 202 3 (.slice (some ⟨b3,0,none⟩) (hs.length - 1) c) (hs.length - 1) (sds rbs (l.set i (hs.getD (hs.length - 1) hd0)))::blk b4 (.cells #[.int .u64 (((hs.getD (hs.length - 1) hd0).1.1:Nat):Int),.int .u64 (((hs.getD (hs.length - 1) hd0).1.2:Nat):Int),pz rbs (hs.getD (hs.length - 1) hd0).2] 202)::blk b2 (.cells #[.int .u64 (((hs.getD 0 hd0).1.1:Nat):Int),.int .u64 (((hs.getD 0 hd0).1.2:Nat):Int),pz rbs (hs.getD 0 hd0).2] 202)::blk b1 (.cells #[.int .u64 0,.int .u64 0,.pointer none] 202)::fr) 1 S H rfl rfl rfl rfl Tryz.sizeOf202 rfl rfl (by intro v hv;simp only [List.mem_cons,List.not_mem_nil,or_false] at hv;rcases hv with rfl | rfl | rfl<;>first | rfl | exact pz_cell _ _) (by first | omega | (simp<;>omega)) (sds_put (by first | omega | (simp<;>omega))) rfl rfl rfl fun w H=>?_
      refine sn ?_
      refine hk (pk [0,2,3,4] 5 H) fun HS=>?_
      refine hz ?_
      refine x_then ?_
      refine sr 3 S H t0 fun a w S H=>?_
      refine wp_ret ?_
      refine r_ret2 S H Tryz.results133 (ro_agg [_,_,_] (i:=4) S rfl (fun w=>⟨Tryz.isAgg202 w,Tryz.sizeOf202 w⟩) rfl rfl ⟨rfl,rfl,rfl,trivial⟩) (ro_tmp S rfl) ?_
      have e:l.set i (hs.getD (hs.length - 1) hd0)=Sn.hpop hs:=by rw [<-hD];exact (Sn.hdn_end (fun h=>absurd h (by omega))).symm
      have en:(hs.length - 1)=(Sn.hpop hs).length:=by simp
      have H:=pk [0,1] 5 H
      rw [e,en] at H
      rw [decide_eq_true (by omega)]
      exact ⟨_,_,rfl,H⟩
  obtain ⟨k,hke,hkl,hk0,hkp,hkm⟩:=Sn.lst_some h0
  have S:=S.retell (v':=.int .i64 ((k:Nat):Int)) 9 rfl (by rw [hke])
  apply qb H rfl (by kernel_rfl)
  · skip
    refine qn 1 S t0 fun a S=>?_
    refine q_y S (y_ge S rfl rfl rfl) rfl rfl rfl fun a S=>?_
    have S:=S.retell (v':=.bool true) 47 rfl (by rw [decide_eq_true (by omega)])
    refine qn 6 S t0 fun a S=>?_
    refine q_y S (y_index S rfl rfl rfl Tryz.underlying197 Tryz.sizeOf202 (by omega) (by omega)) rfl rfl rfl fun a S=>?_
    refine q_y S (y_loadAggAt [.int .u64 (((l.getD k hd0).1.1:Nat):Int),.int .u64 (((l.getD k hd0).1.2:Nat):Int),pz rbs (l.getD k hd0).2] S rfl rfl (fun w=>⟨Tryz.isAgg202 w,Tryz.sizeOf202 w⟩) rfl (fun w H=>(SlOk.ofRow (i:=1) H rfl).cells w H (sds_from (rbs:=rbs) (i:=k) (by first | omega | (simp<;>omega))))) rfl rfl rfl fun a S=>?_
    refine q_y S (y_iface S rfl rfl Tryz.underlying202 (fun _ h=>by cases h)) rfl rfl rfl fun a S=>?_
    refine qn 1 S t0 fun a S=>?_
    refine q_callM (args:=#[.agg #[.int .u64 (((hs.getD (hs.length - 1) hd0).1.1:Nat):Int),.int .u64 (((hs.getD (hs.length - 1) hd0).1.2:Nat):Int),pz rbs (hs.getD (hs.length - 1) hd0).2]]) (args':=#[.agg #[.int .u64 (((l.getD k hd0).1.1:Nat):Int),.int .u64 (((l.getD k hd0).1.2:Nat):Int),pz rbs (l.getD k hd0).2],.agg #[.int .u64 (((hs.getD (hs.length - 1) hd0).1.1:Nat):Int),.int .u64 (((hs.getD (hs.length - 1) hd0).1.2:Nat):Int),pz rbs (hs.getD (hs.length - 1) hd0).2]]) S rfl rfl rfl (meth202_Before _) Tryz.call197 rfl (fun w H=>sbefore_ct (H:=H) _ _ rbs (l.getD k hd0) (hs.getD (hs.length - 1) hd0)) rfl rfl rfl fun a S=>?_
    refine qn 1 S t0 fun a S=>?_
    exact q_nil S
  · intro a w S H
    refine r_cond S rfl (fun h59=>?_) (fun h59=>?_)
    · skip
      refine wp_skip ?_
      refine x_then ?_
      refine r_seq ?_
      refine r_block ?_
      refine r_seq ?_
      refine ha [0,2,3,4] 5 H fun w H HS=>?_
      refine tk 0 S HS fun a S=>?_
      refine tk 1 S HS fun a S=>?_
      refine tk 2 S HS fun a S=>?_
      refine tk 3 S HS fun a S=>?_
      refine tk 4 S HS fun a S=>?_
      refine tk 5 S HS fun a S=>?_
      refine tk 6 S HS fun a S=>?_
      refine tk 7 S HS fun a S=>?_
      refine tk 8 S HS fun a S=>?_
      refine tk 9 S HS fun a S=>?_
      refine tkY 10 S HS rfl (y_index S rfl rfl rfl Tryz.underlying197 Tryz.sizeOf202 (by omega) (by omega)) rfl rfl rfl fun a S=>?_
      refine h1 11 ?_
      refine r_y S H (y_loadAggAt [.int .u64 (((l.getD k hd0).1.1:Nat):Int),.int .u64 (((l.getD k hd0).1.2:Nat):Int),pz rbs (l.getD k hd0).2] S rfl rfl (fun w=>⟨Tryz.isAgg202 w,Tryz.sizeOf202 w⟩) rfl (fun w H=>(SlOk.ofRow (i:=1) H rfl).cells w H (sds_from (rbs:=rbs) (i:=k) (by first | omega | (simp<;>omega))))) rfl rfl rfl fun a S=>?_
      refine sn ?_
      refine hk (pk [0,2,3,4] 5 H) fun HS=>?_
      refine tkY 12 S HS rfl (y_index S rfl rfl rfl Tryz.underlying197 Tryz.sizeOf202 (by omega) (by omega)) rfl rfl rfl fun a S=>?_
      refine h1 13 ?_
      refine r_setRows (vs:=[.int .u64 (((l.getD k hd0).1.1:Nat):Int),.int .u64 (((l.getD k hd0).1.2:Nat):Int),pz rbs (l.getD k hd0).2]) (xs':=sds rbs (l.set i (l.getD k hd0))) (L':=blk hb (.cells #[.slice (some ⟨b3,0,none⟩) (hs.length - 1) c] 199)::row 202 3 (.slice (some ⟨b3,0,none⟩) (hs.length - 1) c) (hs.length - 1) (sds rbs (l.set i (l.getD k hd0)))::blk b4 (.cells #[.int .u64 (((hs.getD (hs.length - 1) hd0).1.1:Nat):Int),.int .u64 (((hs.getD (hs.length - 1) hd0).1.2:Nat):Int),pz rbs (hs.getD (hs.length - 1) hd0).2] 202)::blk b2 (.cells #[.int .u64 (((hs.getD 0 hd0).1.1:Nat):Int),.int .u64 (((hs.getD 0 hd0).1.2:Nat):Int),pz rbs (hs.getD 0 hd0).2] 202)::blk b1 (.cells #[.int .u64 0,.int .u64 0,.pointer none] 202)::fr) 1 S H rfl rfl rfl rfl Tryz.sizeOf202 rfl rfl (by intro v hv;simp only [List.mem_cons,List.not_mem_nil,or_false] at hv;rcases hv with rfl | rfl | rfl<;>first | rfl | exact pz_cell _ _) (by first | omega | (simp<;>omega)) (sds_put (by first | omega | (simp<;>omega))) rfl rfl rfl fun w H=>?_
      refine sn ?_
      refine hk (pk [0,2,3,4] 5 H) fun HS=>?_
      refine hz ?_
      refine x_then ?_
      refine er 2 S H t0 fun a w S H=>?_
      refine x_blockEnd ?_
      refine x_then ?_
      refine r_region ?_
      refine rn 2 S H t0 fun a w S H=>?_
      refine r_call (args:=#[.pointer (some ⟨hb,0,none⟩),.int .i64 ((k:Nat):Int)]) S rfl rfl Tryz.call151 (least_ct (H:=H) _ _ rbs hb _ _ (l.set i (l.getD k hd0)) k _ (by simp;omega) (by simp;omega) (by omega)) rfl rfl rfl fun v a w hR S=>?_
      obtain ⟨rfl,H⟩:=hR
      refine rn 1 S H t0 fun a w S H=>?_
      refine r_nil ?_
      refine x_then ?_
      exact ⟨(l.set i (l.getD k hd0),k),⟨S.sub ⟨rfl,rfl,rfl,rfl,rfl,rfl,rfl,rfl,trivial⟩,H,⟨by simp;omega,by rw [<-hD];exact (Sn.hdn_go hke h59).symm,by simp;omega⟩⟩,by show (l.set i (l.getD k hd0)).length - k < l.length - i;rw [List.length_set];omega⟩
    refine wp_exit ?_
    refine x_thenExit ?_
    refine x_thenExit ?_
    refine x_blockHere ?_
    refine x_then ?_
    refine r_seq ?_
    refine ha [0,2,3,4] 5 H fun w H HS=>?_
    refine tk 0 S HS fun a S=>?_
    refine tk 1 S HS fun a S=>?_
    refine tk 2 S HS fun a S=>?_
    refine tk 3 S HS fun a S=>?_
    refine tk 4 S HS fun a S=>?_
    refine tk 5 S HS fun a S=>?_
    refine tkY 6 S HS rfl (y_index S rfl rfl rfl Tryz.underlying197 Tryz.sizeOf202 (by omega) (by omega)) rfl rfl rfl fun a S=>?_
    refine h1 7 ?_
    refine r_setRows (vs:=[.int .u64 (((hs.getD (hs.length - 1) hd0).1.1:Nat):Int),.int .u64 (((hs.getD (hs.length - 1) hd0).1.2:Nat):Int),pz rbs (hs.getD (hs.length - 1) hd0).2]) (xs':=sds rbs (l.set i (hs.getD (hs.length - 1) hd0))) (L':=blk hb (.cells #[.slice (some ⟨b3,0,none⟩) (hs.length - 1) c] 199)::row 202 3 (.slice (some ⟨b3,0,none⟩) (hs.length - 1) c) (hs.length - 1) (sds rbs (l.set i (hs.getD (hs.length - 1) hd0)))::blk b4 (.cells #[.int .u64 (((hs.getD (hs.length - 1) hd0).1.1:Nat):Int),.int .u64 (((hs.getD (hs.length - 1) hd0).1.2:Nat):Int),pz rbs (hs.getD (hs.length - 1) hd0).2] 202)::blk b2 (.cells #[.int .u64 (((hs.getD 0 hd0).1.1:Nat):Int),.int .u64 (((hs.getD 0 hd0).1.2:Nat):Int),pz rbs (hs.getD 0 hd0).2] 202)::blk b1 (.cells #[.int .u64 0,.int .u64 0,.pointer none] 202)::fr) 1 S H rfl rfl rfl rfl Tryz.sizeOf202 rfl rfl (by intro v hv;simp only [List.mem_cons,List.not_mem_nil,or_false] at hv;rcases hv with rfl | rfl | rfl<;>first | rfl | exact pz_cell _ _) (by first | omega | (simp<;>omega)) (sds_put (by first | omega | (simp<;>omega))) rfl rfl rfl fun w H=>?_
    refine sn ?_
    refine hk (pk [0,2,3,4] 5 H) fun HS=>?_
    refine hz ?_
    refine x_then ?_
    refine sr 3 S H t0 fun a w S H=>?_
    refine wp_ret ?_
    refine r_ret2 S H Tryz.results133 (ro_agg [_,_,_] (i:=4) S rfl (fun w=>⟨Tryz.isAgg202 w,Tryz.sizeOf202 w⟩) rfl rfl ⟨rfl,rfl,rfl,trivial⟩) (ro_tmp S rfl) ?_
    have e:l.set i (hs.getD (hs.length - 1) hd0)=Sn.hpop hs:=by rw [<-hD];exact (Sn.hdn_end (fun _=>by rw [hke];simpa using h59)).symm
    have en:(hs.length - 1)=(Sn.hpop hs).length:=by simp
    have H:=pk [0,1] 5 H
    rw [e,en] at H
    rw [decide_eq_true (by omega)]
    exact ⟨_,_,rfl,H⟩

end Go.Proofs.YtoffbmhmocfmnaaGreatDoor
namespace Go.Proofs.YtoffbmhmocfmnaaGreatDoor
open Go.RowKit Go.Cg
set_option linter.unusedVariables false
set_option linter.unusedSimpArgs false
set_option maxRecDepth 8000
set_option synthInstance.maxHeartbeats 1000000
set_option synthInstance.maxSize 1000000
theorem el46:Elem Tryz.prog 46 9 1 16 (.string ByteArray.empty):=⟨Tryz.underlying46,by kernel_rfl,rfl,by decide⟩
open Go.Cg.Dk (By Nm)
open Go.Cg.Rn (R Bd)
open Go.Shelf Go.Proofs
/-- what is laid: the table of powers -/
def Laid (fr:List Res):Prop:=∀ w,Sat w fr->Go.Lib.TabIs Tryz.prog w "internal/strconv.uint64pow10" .u64 Go.Lib.pow10Tab
theorem Laid.via {M L:List Res} (h:Laid L) (hM:∀ w,Sat w M->Sat w L):Laid M:=fun w H=>h w (hM w H)
theorem itoa_ct (w:World) (fr:List Res) (hT:Laid fr) (x:Int) (h0: -9223372036854775808<=x) (h1:x<=9223372036854775807) (H:Sat w fr):Rt Tryz.prog 43 #[.int .i64 x] w fun v w'=>v=str (Go.Lib.itoa x)/\Sat w' fr:=by
  have h:Calls Tryz.prog 43 #[.int .i64 x] w _:=Any.strconv_Itoa itoaA x h0 h1 w (hT w H)
  refine h.mono ?_
  rintro e w' ⟨rfl,k,os,rfl⟩
  exact ⟨_,rfl,rfl,H.grow ⟨rfl,rfl,rfl,by simp [Go.Sort.grow,World.drewN]⟩ fun k hk=>by simp [Go.Sort.grow,World.drewN,Array.getElem?_append_left hk]⟩
theorem itoa_le {x:Int} (h0: -9223372036854775808<=x) (h1:x<=9223372036854775807):(Go.Lib.itoa x).length<=30:=by
  have h20:∀ (k u:Nat),u < 10 ^ (k+1)->(Go.Lib.decDigits u).length<=k+1:=by
    intro k
    induction k with
    | zero=>
      intro u hu
      unfold Go.Lib.decDigits
      split
      · simp
      · exfalso;omega
    | succ k ih=>
      intro u hu
      unfold Go.Lib.decDigits
      split
      · simp
      · have:=ih (u / 10) (by rw [Nat.pow_succ] at hu;omega)
        simp;omega
  unfold Go.Lib.itoa
  split
  · have:=h20 18 x.natAbs (by omega);simp;omega
  · have:=h20 18 x.toNat (by omega);omega
theorem strs_app (l l':List Nm):strs l++strs l'=strs (l++l'):=by simp [strs]
theorem strs_put {l:List Nm} {j i:Nat} {x:Nm} {v:Value} (hj:j=i) (hv:v=str x):(strs l).set j v=strs (l.set i x):=by subst hj;subst hv;simp [strs,List.map_set]
theorem strs_take (l:List Nm) (k:Nat):(strs l).take (k*1)=strs (l.take k):=by simp [strs,List.map_take]
theorem nS {L:List Res} {A:Option Addr} {m c:Nat} {l:List Nm} (h:SlOk L 1 A m c (strs l)):m=l.length:=by have:=h.len;simp at this;omega
theorem shift_or {g i n c:Nat} (hc:n<=c):n - i=0\/shift (some ⟨g,0,none⟩) (i*1) (decide (c=i))=some ⟨g,i,none⟩:=by
  by_cases e:c=i
  · left;omega
  · right;rw [decide_eq_false e];show some (Addr.add _ _)=_;unfold Addr.add;split<;>simp_all
/-- the names that stay -/
abbrev keepN (n:Nm) (l:List Nm):List Nm:=l.filter fun m=> !decide (m=n)
/-- how far names are gone through -/
structure Del (n:Nm) (l l':List Nm) (i j:Nat):Prop where
  lt:i < j
  le:j<=l.length
  len:l'.length=l.length
  pre:l'.take i=keepN n (l.take j)
  post:l'.drop j=l.drop j
theorem keepN_all {n:Nm} {l:List Nm} (h:∀ j,j < l.length->¬ l.getD j []=n):keepN n l=l:=by
  rw [keepN,List.filter_eq_self]
  intro m hm
  obtain ⟨j,hj,rfl⟩:=List.getElem_of_mem hm
  have:=h j hj
  rw [List.getD_eq_getElem?_getD,List.getElem?_eq_getElem hj,Option.getD_some] at this
  simpa using this
theorem take_snocN {l:List Nm} {j:Nat} (hj:j < l.length):l.take (j+1)=l.take j++[l.getD j []]:=by
  rw [List.take_add_one,List.getElem?_eq_getElem hj,List.getD_eq_getElem?_getD,List.getElem?_eq_getElem hj];rfl
theorem Del.start {n:Nm} {l:List Nm} {k:Nat} (hk:k < l.length) (e:l.getD k []=n) (h:∀ j,j < k->¬ l.getD j []=n):Del n l l k (k+1):=by
  refine ⟨Nat.lt_succ_self _,hk,rfl,?_,rfl⟩
  have h1:keepN n (l.take k)=l.take k:=keepN_all fun j hj=>by
    have hj':j < k:=by simp at hj;omega
    have:=h j hj'
    rwa [List.getD_eq_getElem?_getD,List.getElem?_take,if_pos hj',<-List.getD_eq_getElem?_getD]
  rw [take_snocN hk,keepN,List.filter_append,<-keepN,h1,e];simp
theorem Del.at {n:Nm} {l l':List Nm} {i j:Nat} (h:Del n l l' i j) (hj:j < l.length):l'.getD j []=l.getD j []:=by
  have:=congrArg (fun x=>x[0]?) h.post
  simp only [List.getElem?_drop,Nat.add_zero] at this
  rw [List.getD_eq_getElem?_getD,List.getD_eq_getElem?_getD,this]
theorem drop_next {l l':List Nm} {j:Nat} (h:l'.drop j=l.drop j):l'.drop (j+1)=l.drop (j+1):=by
  have:=congrArg (List.drop 1) h
  rwa [List.drop_drop,List.drop_drop] at this
theorem Del.skip {n:Nm} {l l':List Nm} {i j:Nat} (h:Del n l l' i j) (hj:j < l.length) (e:l.getD j []=n):Del n l l' i (j+1):=by
  refine ⟨by have:=h.lt;omega,hj,h.len,?_,drop_next h.post⟩
  rw [take_snocN hj,keepN,List.filter_append,<-keepN,e,h.pre];simp
theorem Del.keep {n:Nm} {l l':List Nm} {i j:Nat} (h:Del n l l' i j) (hj:j < l.length) (e:¬ l.getD j []=n):Del n l (l'.set i (l.getD j [])) (i+1) (j+1):=by
  have hlt:=h.lt;have hl:=h.len
  refine ⟨by omega,hj,by simp [hl],?_,?_⟩
  · rw [take_snocN (by simp;omega),List.take_set_of_le (Nat.le_refl _),h.pre,take_snocN hj,keepN,keepN,List.filter_append]
    congr 1
    rw [List.getD_eq_getElem?_getD,List.getElem?_set_self (by omega)]
    simp only [List.getD_eq_getElem?_getD] at e ⊢
    simp [e]
  · rw [List.drop_set_of_lt (by omega)];exact drop_next h.post
theorem Del.done {n:Nm} {l l':List Nm} {i:Nat} (h:Del n l l' i l.length):l'.take i=keepN n l:=by rw [h.pre,List.take_length]
theorem cloneS_ct (w:World) (fr:List Res) (A:Option Addr) (n c:Nat) (l:List Nm) (ok:SlOk fr 1 A n c (strs l)) (hn:l.length<=4398046511104) (H:Sat w (fr)):
    Rt Tryz.prog 87 #[.slice A n c] w fun v w'=>(∃A' c',v=.slice A' l.length c'/\Sat w' (row 9 1 (.slice A' l.length c') l.length (strs l)::fr)):=by
  refine en1 Tryz.func87 rfl Tryz.ntmps87 rfl fun a S=>?_
  obtain rfl:=nS ok
  refine sr 1 S H t0 fun a w S H=>?_
  refine r_seq ?_
  refine sb ?_
  refine rn 1 S H t0 fun a w S H=>?_
  refine r_y S H (y_sliceNil S rfl rfl rfl Tryz.underlying46) rfl rfl rfl fun a S=>?_
  refine sn ?_
  refine r_cond S rfl (fun h4=>?_) (fun h4=>?_)
  · skip
    refine sr 1 S H t0 fun a w S H=>?_
    refine wp_ret ?_
    refine x_thenRet ?_
    refine r_ret1 S H Tryz.results87 (ro_tmp S rfl) ?_
    have hA:A=none:=by simpa using h4
    have h0:l=[]:=List.eq_nil_of_length_eq_zero (by have:=ok.nil hA;have:=ok.le;omega)
    subst h0
    exact ⟨none,0,rfl,H.nilRow _ _⟩
  refine wp_skip ?_
  refine x_then ?_
  refine sb ?_
  refine r_lit (vs:=#[]) (cs:=strs []) S H rfl rfl el46 (by kernel_rfl) (by decide) (by rfl) rfl rfl rfl fun a w b1 S H=>?_
  refine rn 1 S H t0 fun a w S H=>?_
  refine r_appendS (L':=fun A2 c3=>row 9 1 (.slice A2 l.length c3) l.length (strs l)::fr) (xs':=strs l) 0 S H rfl rfl rfl rfl el46 (ok.more _) (one_strs _) (by simp only [maxLen];first | omega | (simp<;>omega)) (by first | omega | (simp<;>omega)) (List.nil_append _) (by first | omega | (simp<;>omega)) (fun _ _=>rfl) rfl rfl rfl fun a w A2 c3 hA2 S H=>?_
  refine rs 1 S H t0 fun a w S H=>?_
  refine wp_ret ?_
  refine r_ret1 S H Tryz.results87 (ro_tmp S rfl) ?_
  exact ⟨_,_,rfl,H⟩

theorem isname_ct (w:World) (fr:List Res) (nb:Nat) (nm m:Nm) (H:Sat w (blk nb (.cells #[str (nm)] 9)::fr)):
    Rt Tryz.prog 108 #[str (m),.pointer (some ⟨nb,0,none⟩)] w fun v w'=>v=.bool (decide (m=nm))/\Sat w' (blk nb (.cells #[str nm] 9)::fr):=by
  refine en2 Tryz.func108 rfl Tryz.ntmps108 rfl fun a S=>?_
  refine sr 1 S H t0 fun a w S H=>?_
  refine sr 4 S H t0 fun a w S H=>?_
  refine wp_ret ?_
  refine r_ret1 S H Tryz.results108 (ro_tmp S rfl) ?_
  exact ⟨rfl,H⟩

theorem index_ct (w:World) (fr:List Res) (A:Option Addr) (c nb:Nat) (nm:Nm) (l:List Nm) (ok:SlOk fr 1 A l.length c (strs l)) (hn:l.length<=4398046511104) (H:Sat w (blk nb (.cells #[str (nm)] 9)::fr)):
    Rt Tryz.prog 135 #[.slice A l.length c,.func (.func 108) #[] #[.pointer (some ⟨nb,0,none⟩)]] w fun v w'=>∃r:Int,v=.int .i64 r/\((r= -1/\∀ j,j < l.length->¬ l.getD j []=nm)\/∃i:Nat,i < l.length/\r=(i:Int)/\l.getD i []=nm/\∀ j,j < i->¬ l.getD j []=nm)/\Sat w' (blk nb (.cells #[str nm] 9)::fr):=by
  refine en2 Tryz.func135 rfl Tryz.ntmps135 rfl fun a S=>?_
  refine sr 1 S H t0 fun a w S H=>?_
  refine r_seq ?_
  refine sr 3 S H t0 fun a w S H=>?_
  refine r_block ?_
  refine r_loop (ι:=Nat) (fun i a w=>Slots a 19 [(0,.slice A l.length c),(1,.func (.func 108) #[] #[.pointer (some ⟨nb,0,none⟩)]),(7,.int .i64 ((l.length:Nat):Int)),(8,.int .i64 ((i:Nat):Int)),(19,undef)]/\Sat w (blk nb (.cells #[str (nm)] 9)::fr)/\(i<=l.length/\∀ j,j < i->¬ l.getD j []=nm)) (fun i=>l.length - i) 0 ⟨S.sub ⟨rfl,rfl,rfl,rfl,rfl,trivial⟩,H,⟨Nat.zero_le _,fun j h=>absurd h (Nat.not_lt_zero _)⟩⟩ (fun i a w hI=>?_)
  obtain ⟨S,H,hI⟩:=hI
  obtain ⟨hil,hno⟩:=hI
  refine sr 1 S H t0 fun a w S H=>?_
  refine r_seq ?_
  refine r_test S rfl (fun h9=>?_) (fun h9=>?_)
  · skip
    refine wp_skip ?_
    refine x_then ?_
    refine r_seq ?_
    refine r_block ?_
    refine sr 2 S H t0 fun a w S H=>?_
    obtain ⟨gb,go,rfl⟩:=ok.addr H.drop (by omega)
    refine sb ?_
    refine rn 3 S H t0 fun a w S H=>?_
    refine r_y S H (y_index S rfl rfl rfl Tryz.underlying46 Tryz.sizeOf9 (by omega) (by omega)) rfl rfl rfl fun a S=>?_
    refine r_y S H (y_loadAt S rfl rfl Tryz.isAgg9 (fun w H=>(ok.more _).cell w H (strs_at (i:=i) (by first | omega | (simp<;>omega))))) rfl rfl rfl fun a S=>?_
    refine r_callV (args:=#[str (l.getD i [])]) S rfl rfl rfl Tryz.call108 (isname_ct (H:=H) _ _ nb nm (l.getD i [])) rfl rfl rfl fun v a w hR S=>?_
    obtain ⟨rfl,H⟩:=hR
    refine sn ?_
    refine r_test S rfl (fun h16=>?_) (fun h16=>?_)
    · skip
      refine sr 2 S H t0 fun a w S H=>?_
      refine wp_ret ?_
      refine x_blockRet ?_
      refine x_thenRet ?_
      refine x_thenRet ?_
      refine x_blockRet ?_
      refine x_thenRet ?_
      refine r_ret1 S H Tryz.results135 (ro_tmp S rfl) ?_
      exact ⟨_,rfl,.inr ⟨i,by omega,rfl,h16,hno⟩,H⟩
    refine wp_skip ?_
    refine x_blockEnd ?_
    refine x_then ?_
    refine er 2 S H (by omega) fun a w S H=>?_
    refine x_then ?_
    exact ⟨(i+1),⟨S.sub ⟨rfl,rfl,rfl,rfl,rfl,trivial⟩,H,⟨by omega,fun j hj=>(Nat.lt_succ_iff_lt_or_eq.1 hj).elim (hno j) (fun e=>by rw [e];exact h16)⟩⟩,by show l.length - (i+1) < l.length - i;omega⟩
  refine wp_exit ?_
  refine x_thenExit ?_
  refine x_thenExit ?_
  refine x_blockHere ?_
  refine x_then ?_
  refine sr 1 S H t0 fun a w S H=>?_
  refine wp_ret ?_
  refine r_ret1 S H Tryz.results135 (ro_tmp S rfl) ?_
  have hi:i=l.length:=by omega
  exact ⟨_,rfl,.inl ⟨rfl,by rw [<-hi];exact hno⟩,H⟩

theorem delete_ct (w:World) (fr:List Res) (A:Option Addr) (c nb:Nat) (nm:Nm) (l:List Nm) (hn:l.length<=4398046511104) (H:Sat w (blk nb (.cells #[str (nm)] 9)::row 9 1 (.slice A l.length c) l.length (strs l)::fr)):
    Rt Tryz.prog 107 #[.slice A l.length c,.func (.func 108) #[] #[.pointer (some ⟨nb,0,none⟩)]] w fun v w'=>v=.slice A (keepN nm l).length c/\Sat w' (blk nb (.cells #[str nm] 9)::row 9 1 (.slice A (keepN nm l).length c) (keepN nm l).length (strs (keepN nm l))::fr):=by
  refine en2 Tryz.func107 rfl Tryz.ntmps107 rfl fun a S=>?_
  refine sr 1 S H t0 fun a w S H=>?_
  refine sb ?_
  refine rn 2 S H t0 fun a w S H=>?_
  refine r_call (args:=#[.slice A l.length c,.func (.func 108) #[] #[.pointer (some ⟨nb,0,none⟩)]]) S rfl rfl Tryz.call135 (index_ct (H:=H) _ _ _ _ nb nm l (SlOk.ofRow (i:=0) H.drop rfl) (by omega)) rfl rfl rfl fun v a w hR S=>?_
  obtain ⟨r,rfl,hr,H⟩:=hR
  refine rs 1 S H t0 fun a w S H=>?_
  refine r_seq ?_
  rcases hr with hr | ⟨k,hkl,hrk,hke,hkn⟩
  · skip
    refine sb ?_
    refine rn 1 S H t0 fun a w S H=>?_
    refine r_y S H (y_eq S rfl rfl rfl) rfl rfl rfl fun a S=>?_
    have S:=S.retell (v':=.bool true) 12 rfl (by rw [decide_eq_true (by omega)])
    refine sn ?_
    refine r_condT S rfl ?_
    refine sr 2 S H t0 fun a w S H=>?_
    refine wp_ret ?_
    refine x_thenRet ?_
    refine r_ret1 S H Tryz.results107 (ro_tmp S rfl) ?_
    have e:keepN nm l=l:=keepN_all hr.2
    rw [e]
    exact ⟨rfl,H⟩
  have S:=S.retell (v':=.int .i64 ((k:Nat):Int)) 5 rfl (by rw [hrk])
  refine sb ?_
  refine rn 1 S H t0 fun a w S H=>?_
  refine r_y S H (y_eq S rfl rfl rfl) rfl rfl rfl fun a S=>?_
  have S:=S.retell (v':=.bool false) 12 rfl (by rw [decide_eq_false (by omega)])
  refine sn ?_
  refine r_condF S rfl ?_
  refine wp_skip ?_
  refine x_then ?_
  refine r_seq ?_
  refine sb ?_
  refine rn 1 S H t0 fun a w S H=>?_
  refine r_y S H (y_add S rfl rfl rfl (wi64 (by omega) (by omega))) rfl rfl rfl fun a S=>?_
  have S:=S.retell (v':=.int .i64 (((k+1):Nat):Int)) 15 rfl (int_eq (by omega))
  refine rs 1 S H t0 fun a w S H=>?_
  refine r_block ?_
  obtain ⟨g1,rfl⟩:=H.rowAt (i:=1) rfl (by omega)
  refine r_loop (ι:=List Nm×Nat×Nat) (fun ⟨ml,i,j⟩ a w=>Slots a 42 [(0,.slice (some ⟨g1,0,none⟩) l.length c),(1,.func (.func 108) #[] #[.pointer (some ⟨nb,0,none⟩)]),(4,.slice none 0 0),(5,.int .i64 ((i:Nat):Int)),(6,.int .i64 ((j:Nat):Int)),(42,undef)]/\Sat w (row 9 1 (.slice (some ⟨g1,0,none⟩) l.length c) l.length (strs ml)::blk nb (.cells #[str (nm)] 9)::fr)/\(Del nm l ml i j)) (fun ⟨ml,i,j⟩=>l.length - j) (l,k,k+1) ⟨S.sub ⟨rfl,rfl,rfl,rfl,rfl,rfl,trivial⟩,pk [1,0] 2 H,Del.start hkl hke hkn⟩ (fun ⟨ml,i,j⟩ a w hI=>?_)
  obtain ⟨S,H,hI⟩:=hI
  have hlt:=hI.lt
  have hle:=hI.le
  have hl':=hI.len
  refine r_seq ?_
  refine sr 4 S H t0 fun a w S H=>?_
  refine r_test S rfl (fun h19=>?_) (fun h19=>?_)
  · skip
    refine wp_skip ?_
    refine x_then ?_
    refine r_seq ?_
    refine r_block ?_
    refine sb ?_
    refine rn 2 S H t0 fun a w S H=>?_
    refine r_y S H (y_index S rfl rfl rfl Tryz.underlying46 Tryz.sizeOf9 (by omega) (by omega)) rfl rfl rfl fun a S=>?_
    refine r_y S H (y_loadAt S rfl rfl Tryz.isAgg9 (fun w H=>(SlOk.ofRow (i:=0) H rfl).cell w H (strs_at (i:=j) (by first | omega | (simp<;>omega))))) rfl rfl rfl fun a S=>?_
    refine rs 1 S H t0 fun a w S H=>?_
    have hjl:j < l.length:=by omega
    refine sb ?_
    refine rn 2 S H t0 fun a w S H=>?_
    refine r_callV (args:=#[str (ml.getD j [])]) S rfl rfl rfl Tryz.call108 (isname_ct (H:=(pk [1,0] 2 H)) _ _ nb nm (ml.getD j [])) rfl rfl rfl fun v a w hR S=>?_
    obtain ⟨rfl,H⟩:=hR
    refine rs 1 S H t0 fun a w S H=>?_
    refine r_cond S rfl (fun h29=>?_) (fun h29=>?_)
    · skip
      refine sb ?_
      refine rn 3 S H t0 fun a w S H=>?_
      refine r_y S H (y_index S rfl rfl rfl Tryz.underlying46 Tryz.sizeOf9 (by omega) (by omega)) rfl rfl rfl fun a S=>?_
      refine r_setRowV (L':=blk nb (.cells #[str (nm)] 9)::row 9 1 (.slice (some ⟨g1,0,none⟩) l.length c) l.length (strs (ml.set i (ml.getD j [])))::fr) 1 S H rfl rfl rfl rfl Tryz.sizeOf9 rfl rfl (by first | omega | (simp<;>omega)) (xs':=strs (ml.set i (ml.getD j []))) (strs_put (by omega) rfl) rfl rfl rfl fun w H=>?_
      refine sn ?_
      refine er 3 S H (by omega) fun a w S H=>?_
      refine x_blockEnd ?_
      refine x_then ?_
      refine er 3 S H (by omega) fun a w S H=>?_
      refine x_then ?_
      have hat:=hI.at hjl
      have hd2:=hI.keep hjl (by rw [<-hat];simpa using h29)
      have H:=pk [1,0] 2 H
      rw [hat] at H
      exact ⟨(ml.set i (l.getD j []),i+1,j+1),⟨S.sub ⟨rfl,rfl,rfl,rfl,rfl,rfl,trivial⟩,H,hd2⟩,by show l.length - (j+1) < l.length - j;omega⟩
    refine wp_skip ?_
    refine x_blockEnd ?_
    refine x_then ?_
    refine er 3 S H (by omega) fun a w S H=>?_
    refine x_then ?_
    have hat:=hI.at hjl
    have hd2:=hI.skip hjl (by rw [<-hat];simpa using h29)
    have H:=pk [1,0] 2 H
    exact ⟨(ml,i,j+1),⟨S.sub ⟨rfl,rfl,rfl,rfl,rfl,rfl,trivial⟩,H,hd2⟩,by show l.length - (j+1) < l.length - j;omega⟩
  refine wp_exit ?_
  refine x_thenExit ?_
  refine x_thenExit ?_
  refine x_blockHere ?_
  refine x_then ?_
  refine sb ?_
  refine rn 2 S H t0 fun a w S H=>?_
  refine r_y S H (y_sliceL (k:=i) S rfl rfl rfl Tryz.underlying46 Tryz.sizeOf9 (by first | omega | (simp<;>omega)) (by first | omega | (simp<;>omega))) rfl rfl rfl fun a S=>?_
  refine r_clearS (L':=row 9 1 (.slice (some ⟨g1,0,none⟩) l.length c) l.length (putL (strs ml) i (List.replicate (l.length - i) (.string ByteArray.empty)))::blk nb (.cells #[str (nm)] 9)::fr) 0 S H rfl rfl (shift_or (SlOk.ofRow (i:=0) H rfl).le) rfl el46 rfl rfl (by first | omega | (simp<;>omega)) rfl rfl rfl fun w H=>?_
  refine sn ?_
  have hcap:=(SlOk.ofRow (i:=0) H rfl).le
  refine sb ?_
  refine rn 2 S H t0 fun a w S H=>?_
  refine r_y S H (y_sliceH (k:=i) S rfl rfl rfl Tryz.underlying46 Tryz.sizeOf9 (by first | omega | (simp<;>omega)) (by first | omega | (simp<;>omega))) rfl rfl rfl fun a S=>?_
  refine rs 1 S H t0 fun a w S H=>?_
  refine wp_ret ?_
  refine r_ret1 S H Tryz.results107 (ro_tmp S rfl) ?_
  have hjj:j=l.length:=by omega
  have hdn:=hjj▸hI
  have e:ml.take i=keepN nm l:=hdn.done
  have en:i=(keepN nm l).length:=by rw [<-e];simp;omega
  have H:=Sat.short (k:=i) (H) (by omega)
  rw [putL_take _ _ _ _ (by omega),strs_take,e] at H
  rw [shift0]
  have e2:Value.slice (some ⟨g1,0,none⟩) i c=.slice (some ⟨g1,0,none⟩) (keepN nm l).length c:=congrArg (fun z=>Value.slice _ z c) en
  rw [e2] at H ⊢
  exact ⟨rfl,by rw [show Sat _ _=Sat _ _ from rfl];exact (by have H2:=H;rw [show i=(keepN nm l).length from en] at H2;exact H2.perm (List.Perm.swap _ _ _))⟩

end Go.Proofs.YtoffbmhmocfmnaaGreatDoor
namespace Go.Proofs.YtoffbmhmocfmnaaGreatDoor
open Go.RowKit Go.Cg
set_option linter.unusedVariables false
set_option linter.unusedSimpArgs false
set_option maxRecDepth 8000
set_option synthInstance.maxHeartbeats 1000000
set_option synthInstance.maxSize 1000000
open Go.Cg.Dk (By Nm)
open Go.Cg.Rn (R Bd)
open Go.Cg.Xs (Tm tname)
/-- a sorter: the disk, the name of files on the way, the fan, how; how many names there were, which files there are -/
def srtR (zb db:Nat) (temp:Nm) (fan:Nat) (how:Int) (tm:Tm):Res:=ex fun p:Option Addr×Nat=>star [blk zb (.cells #[.pointer (some ⟨db,0,none⟩),str temp,.int .i64 ((fan:Nat):Int),.int .i64 how,.int .i64 ((tm.1:Nat):Int),.slice p.1 tm.2.length p.2] 144),row 9 1 (.slice p.1 tm.2.length p.2) tm.2.length (strs tm.2)]
theorem Sat.openS {w:World} {L:List Res} {zb db fan:Nat} {temp:Nm} {how:Int} {tm:Tm} (H:Sat w (srtR zb db temp fan how tm::L)):∃A c,Sat w (blk zb (.cells #[.pointer (some ⟨db,0,none⟩),str temp,.int .i64 ((fan:Nat):Int),.int .i64 how,.int .i64 ((tm.1:Nat):Int),.slice A tm.2.length c] 144)::row 9 1 (.slice A tm.2.length c) tm.2.length (strs tm.2)::L):=by
  obtain ⟨⟨A,c⟩,H⟩:=sat_ex.1 H;exact ⟨A,c,sat_star.1 H⟩
theorem Sat.shutS {w:World} {L:List Res} {zb db fan c:Nat} {A:Option Addr} {temp:Nm} {how:Int} (tm:Tm) (H:Sat w (blk zb (.cells #[.pointer (some ⟨db,0,none⟩),str temp,.int .i64 ((fan:Nat):Int),.int .i64 how,.int .i64 ((tm.1:Nat):Int),.slice A tm.2.length c] 144)::row 9 1 (.slice A tm.2.length c) tm.2.length (strs tm.2)::L)):Sat w (srtR zb db temp fan how tm::L):=sat_ex.2 ⟨(A,c),sat_star.2 H⟩
theorem gones_bad {n:Nm} {l made:List Nm} {d:Dk.Disk} (h:(d.remove n).2≠0/\(d.remove n).2≠4):Xs.gones (n::l) made d=((d.remove n).1,made,(d.remove n).2):=by rw [Xs.gones,if_pos h]
theorem gones_go {n:Nm} {l made:List Nm} {d:Dk.Disk} (h:¬ ((d.remove n).2≠0/\(d.remove n).2≠4)):Xs.gones (n::l) made d=Xs.gones l (keepN n made) (d.remove n).1:=by rw [Xs.gones,if_neg h]
theorem dropN {l:List Nm} {i:Nat} (h:i < l.length):l.drop i=l.getD i []::l.drop (i+1):=by
  rw [List.drop_eq_getElem_cons h,List.getD_eq_getElem?_getD,List.getElem?_eq_getElem h];rfl
theorem pgo_step {f r:Nat} (h1:1 < r) (h2:2<=f):Xs.pgo f r=Xs.pgo f ((r - 1) / f+1)+1:=by conv=>lhs;rw [Xs.pgo,dif_pos ⟨h1,h2⟩]
theorem pgo_end {f r:Nat} (h:¬ 1 < r):Xs.pgo f r=0:=by rw [Xs.pgo,dif_neg (fun k=>h k.1)]
theorem div_lt {r f:Nat} (h1:1 < r) (h2:2<=f):(r - 1) / f+1 < r:=by
  have:(r - 1) / f<=(r - 1) / 2:=Nat.div_le_div_left h2 (by omega)
  omega
theorem passes_bad {n b f:Int} (h:n < 1\/b < 1\/f < 2):Xs.passes n b f=0:=if_pos h
theorem passes_ok {n b f:Nat} (h:¬ ((n:Int) < 1\/(b:Int) < 1\/(f:Int) < 2)):Xs.passes n b f=Xs.pgo f ((n - 1) / b+1):=by
  unfold Xs.passes
  rw [if_neg h]
  have e:((n:Int) - 1) / (b:Int)+1=(((n - 1) / b+1:Nat):Int):=by
    have h1:(n:Int) - 1=((n - 1:Nat):Int):=by omega
    rw [h1,<-Int.natCast_ediv];omega
  rw [e];rfl
theorem passes_ct (w:World) (fr:List Res) (n b f:Int) (hn:n<=9223372036854775807) (hb:b<=9223372036854775807) (hf:f<=9223372036854775807) (H:Sat w (fr)):
    Rt Tryz.prog 106 #[.int .i64 n,.int .i64 b,.int .i64 f] w fun v w'=>v=.int .i64 ((Xs.passes n b f:Nat):Int)/\Sat w' fr:=by
  refine en3 Tryz.func106 rfl Tryz.ntmps106 rfl fun a S=>?_
  refine sr 1 S H t0 fun a w S H=>?_
  refine r_seq ?_
  refine sb ?_
  refine rn 3 S H t0 fun a w S H=>?_
  refine scO 1 S H (fun _=>t0) fun a w S H=>?_
  refine rn 1 S H t0 fun a w S H=>?_
  refine scO 1 S H (fun _=>t0) fun a w S H=>?_
  refine sn ?_
  refine r_cond S rfl (fun h18=>?_) (fun h18=>?_)
  · skip
    refine sr 1 S H t0 fun a w S H=>?_
    refine wp_ret ?_
    refine x_thenRet ?_
    refine r_ret1 S H Tryz.results106 (ro_tmp S rfl) ?_
    rw [passes_bad (by simp only [Bool.or_eq_true,decide_eq_true_eq] at h18;omega)]
    exact ⟨rfl,H⟩
  refine wp_skip ?_
  refine x_then ?_
  simp only [Bool.or_eq_false_iff,decide_eq_false_iff_not] at h18
  obtain ⟨N,rfl⟩:=Int.eq_ofNat_of_zero_le (show 0<=n by omega)
  obtain ⟨P,rfl⟩:=Int.eq_ofNat_of_zero_le (show 0<=b by omega)
  obtain ⟨Q,rfl⟩:=Int.eq_ofNat_of_zero_le (show 0<=f by omega)
  obtain ⟨D0,hD0⟩:∃x,x=(N - 1) / P:=⟨_,rfl⟩
  have hdv:D0<=N - 1:=by rw [hD0];exact Nat.div_le_self _ _
  refine sr 1 S H t0 fun a w S H=>?_
  refine r_seq ?_
  refine sb ?_
  refine rn 1 S H t0 fun a w S H=>?_
  refine r_y S H (y_sub S rfl rfl rfl (wi64 (by omega) (by omega))) rfl rfl rfl fun a S=>?_
  have S:=S.retell (v':=.int .i64 (((N - 1):Nat):Int)) 20 rfl (int_eq (by omega))
  refine rn 1 S H t0 fun a w S H=>?_
  refine r_y S H (y_quoN S rfl rfl rfl (by omega) (by omega) (wdivi64 (by omega) (by omega) (by omega))) rfl rfl rfl fun a S=>?_
  have S:=S.retell (v':=.int .i64 ((D0:Nat):Int)) 22 rfl (int_eq (by rw [hD0];exact (Int.natCast_ediv _ _).symm))
  refine r_y S H (y_add S rfl rfl rfl (wi64 (by omega) (by omega))) rfl rfl rfl fun a S=>?_
  have S:=S.retell (v':=.int .i64 (((D0+1):Nat):Int)) 23 rfl (int_eq (by omega))
  refine rs 1 S H t0 fun a w S H=>?_
  refine r_block ?_
  refine r_loop (ι:=Nat×Nat) (fun ⟨p,r⟩ a w=>Slots a 34 [(2,.int .i64 ((Q:Nat):Int)),(6,.int .i64 0),(7,.int .i64 ((p:Nat):Int)),(8,.int .i64 ((r:Nat):Int)),(34,undef)]/\Sat w (fr)/\(p+Xs.pgo Q r=Xs.pgo Q (D0+1)/\p+r<=D0+1/\1<=r)) (fun ⟨p,r⟩=>r) (0,D0+1) ⟨S.sub ⟨rfl,rfl,rfl,rfl,rfl,trivial⟩,H,⟨Nat.zero_add _,by omega,by omega⟩⟩ (fun ⟨p,r⟩ a w hI=>?_)
  obtain ⟨S,H,hI⟩:=hI
  obtain ⟨hp,hr,hr1⟩:=hI
  have hQ2:2<=Q:=by omega
  refine r_seq ?_
  refine sr 2 S H t0 fun a w S H=>?_
  refine r_test S rfl (fun h25=>?_) (fun h25=>?_)
  · skip
    refine wp_skip ?_
    refine x_then ?_
    refine r_seq ?_
    refine r_block ?_
    have hr2:1 < r:=by omega
    obtain ⟨D1,hD1⟩:∃x,x=(r - 1) / Q:=⟨_,rfl⟩
    have hdl:D1+1 < r:=by rw [hD1];exact div_lt hr2 hQ2
    refine er 3 S H (by omega) fun a w S H=>?_
    refine x_blockEnd ?_
    refine x_then ?_
    refine r_region ?_
    refine rn 1 S H t0 fun a w S H=>?_
    refine r_y S H (y_sub S rfl rfl rfl (wi64 (by omega) (by omega))) rfl rfl rfl fun a S=>?_
    have S:=S.retell (v':=.int .i64 (((r - 1):Nat):Int)) 27 rfl (int_eq (by omega))
    refine rn 1 S H t0 fun a w S H=>?_
    refine r_y S H (y_quoN S rfl rfl rfl (by omega) (by omega) (wdivi64 (by omega) (by omega) (by omega))) rfl rfl rfl fun a S=>?_
    have S:=S.retell (v':=.int .i64 ((D1:Nat):Int)) 29 rfl (int_eq (by rw [hD1];exact (Int.natCast_ediv _ _).symm))
    refine r_y S H (y_add S rfl rfl rfl (wi64 (by omega) (by omega))) rfl rfl rfl fun a S=>?_
    have S:=S.retell (v':=.int .i64 (((D1+1):Nat):Int)) 30 rfl (int_eq (by omega))
    refine rn 1 S H t0 fun a w S H=>?_
    refine r_nil ?_
    refine x_then ?_
    have hps:=pgo_step hr2 hQ2
    rw [<-hD1] at hps
    exact ⟨(p+1,D1+1),⟨S.sub ⟨rfl,rfl,rfl,rfl,rfl,trivial⟩,H,⟨by omega,by omega,by omega⟩⟩,by show D1+1 < r;omega⟩
  refine wp_exit ?_
  refine x_thenExit ?_
  refine x_thenExit ?_
  refine x_blockHere ?_
  refine x_then ?_
  refine sr 2 S H t0 fun a w S H=>?_
  refine wp_ret ?_
  refine r_ret1 S H Tryz.results106 (ro_tmp S rfl) ?_
  have he:=pgo_end (f:=Q) (r:=r) (by omega)
  rw [passes_ok (by omega),<-hD0,<-hp,he]
  exact ⟨rfl,H⟩

theorem sname_ct (w:World) (fr:List Res) (hl:Laid fr) (zb db:Nat) (temp:Nm) (fan:Nat) (how:Int) (tm:Tm) (hkk:tm.1<=4398046511104) (ht:temp.length<=1000) (H:Sat w (srtR zb db temp fan how tm::fr)):
    Rt Tryz.prog 102 #[.pointer (some ⟨zb,0,none⟩)] w fun v w'=>v=str (tname temp (tm.1+1))/\Sat w' (srtR zb db temp fan how (tm.1+1,tm.2)::fr):=by
  refine en1 Tryz.func102 rfl Tryz.ntmps102 rfl fun a S=>?_
  have hil:=itoa_le (x:=(((tm.1+1):Nat):Int)) (by omega) (by omega)
  obtain ⟨Am1,cm2,H⟩:=Sat.openS (H)
  replace H:Sat _ (blk zb (.cells #[.pointer (some ⟨db,0,none⟩),str (temp),.int .i64 ((fan:Nat):Int),.int .i64 how,.int .i64 ((tm.1:Nat):Int),.slice Am1 tm.2.length cm2] 144)::row 9 1 (.slice Am1 tm.2.length cm2) tm.2.length (strs tm.2)::fr):=H
  refine sr 1 S H t0 fun a w S H=>?_
  refine sb ?_
  refine rn 4 S H t0 fun a w S H=>?_
  refine r_y S H (y_add S rfl rfl rfl (wi64 (by omega) (by omega))) rfl rfl rfl fun a S=>?_
  have S:=S.retell (v':=.int .i64 (((tm.1+1):Nat):Int)) 7 rfl (int_eq (by omega))
  refine rs 3 S H t0 fun a w S H=>?_
  refine r_seq ?_
  refine ha [0,1] 2 H fun w H HS=>?_
  refine tk 0 S HS fun a S=>?_
  refine tk 1 S HS fun a S=>?_
  refine tk 2 S HS fun a S=>?_
  refine tk 3 S HS fun a S=>?_
  refine tkC 4 S HS (by simp;omega) fun a S=>?_
  refine tk 5 S HS fun a S=>?_
  refine tk 6 S HS fun a S=>?_
  refine tk 7 S HS fun a S=>?_
  refine tk 8 S HS fun a S=>?_
  refine h1 9 ?_
  refine r_call (args:=#[.int .i64 (((tm.1+1):Nat):Int)]) S rfl rfl Tryz.call43 (itoa_ct (H:=H) _ _ (hl.via fun _ H=>H.drop.drop) (((tm.1+1):Nat):Int) (by omega) (by omega)) rfl rfl rfl fun v a w hR S=>?_
  obtain ⟨rfl,H⟩:=hR
  refine sn ?_
  refine hk (H) fun HS=>?_
  refine tkC 10 S HS (by simp only [List.length_append,List.length_cons,List.length_nil];omega) fun a S=>?_
  refine tk 11 S HS fun a S=>?_
  refine hz ?_
  refine x_then ?_
  refine wp_ret ?_
  refine r_ret1 S H Tryz.results102 (ro_tmp S rfl) ?_
  exact ⟨rfl,Sat.shutS (tm.1+1,tm.2) (H)⟩

theorem sgone_ct (w:World) (fr:List Res) (zb db:Nat) (temp:Nm) (fan:Nat) (how:Int) (tm:Tm) (A:Option Addr) (c:Nat) (l:List Nm) (ok:SlOk fr 1 A l.length c (strs l)) (d:Dk.Disk) (hc:d.files.length<=4398046511104) (hm:tm.2.length<=4398046511104) (H:Sat w (srtR zb db temp fan how tm::diskR db d::fr)):
    Rt Tryz.prog 86 #[.pointer (some ⟨zb,0,none⟩),.slice A l.length c] w fun v w'=>v=.int .i64 (((Xs.gones l tm.2 d).2.2:Nat):Int)/\Sat w' (srtR zb db temp fan how (tm.1,(Xs.gones l tm.2 d).2.1)::diskR db (Xs.gones l tm.2 d).1::fr):=by
  refine en2 Tryz.func86 rfl Tryz.ntmps86 rfl fun a S=>?_
  have hl1:=ok.le
  have hl2:=ok.cap
  simp only [maxLen] at hl2
  obtain ⟨Am1,cm2,H⟩:=Sat.openS (H)
  replace H:Sat _ (blk zb (.cells #[.pointer (some ⟨db,0,none⟩),str (temp),.int .i64 ((fan:Nat):Int),.int .i64 how,.int .i64 ((tm.1:Nat):Int),.slice Am1 tm.2.length cm2] 144)::row 9 1 (.slice Am1 tm.2.length cm2) tm.2.length (strs tm.2)::diskR db d::fr):=H
  refine sr 1 S H t0 fun a w S H=>?_
  refine r_seq ?_
  refine sr 3 S H t0 fun a w S H=>?_
  refine r_block ?_
  refine r_loop (ι:=Nat×List Nm×Dk.Disk×Option Addr×Nat) (fun ⟨i,made,e,Am,cm⟩ a w=>Slots a 37 [(0,.pointer (some ⟨zb,0,none⟩)),(8,.slice A l.length c),(9,.int .i64 ((l.length:Nat):Int)),(10,.int .i64 ((i:Nat):Int)),(37,undef)]/\Sat w (blk zb (.cells #[.pointer (some ⟨db,0,none⟩),str (temp),.int .i64 ((fan:Nat):Int),.int .i64 how,.int .i64 ((tm.1:Nat):Int),.slice Am made.length cm] 144)::row 9 1 (.slice Am made.length cm) made.length (strs made)::diskR db e::fr)/\(i<=l.length/\Xs.gones (l.drop i) made e=(Xs.gones l tm.2 d)/\e.files.length<=d.files.length/\made.length<=tm.2.length)) (fun ⟨i,made,e,Am,cm⟩=>l.length - i) (0,tm.2,d,Am1,cm2) ⟨S.sub ⟨rfl,rfl,rfl,rfl,rfl,trivial⟩,H,⟨Nat.zero_le _,rfl,Nat.le_refl _,Nat.le_refl _⟩⟩ (fun ⟨i,made,e,Am,cm⟩ a w hI=>?_)
  obtain ⟨S,H,hI⟩:=hI
  obtain ⟨hil,hg,hce0,hml⟩:=hI
  refine sr 1 S H t0 fun a w S H=>?_
  refine r_seq ?_
  refine r_test S rfl (fun h11=>?_) (fun h11=>?_)
  · skip
    refine wp_skip ?_
    refine x_then ?_
    refine r_seq ?_
    refine r_block ?_
    obtain ⟨gb,go,rfl⟩:=ok.addr H.drop.drop.drop (by omega)
    refine sb ?_
    refine r_y S H (y_index S rfl rfl rfl Tryz.underlying46 Tryz.sizeOf9 (by omega) (by omega)) rfl rfl rfl fun a S=>?_
    refine r_y S H (y_loadAt S rfl rfl Tryz.isAgg9 (fun w H=>(((ok.more _).more _).more _).cell w H (strs_at (i:=i) (by first | omega | (simp<;>omega))))) rfl rfl rfl fun a S=>?_
    refine r_alloc S H rfl Tryz.zeroValue9 rfl rfl rfl rfl fun a w b3 S H=>?_
    replace H:Sat _ (blk b3 (.cells #[.string ByteArray.empty] 9)::blk zb (.cells #[.pointer (some ⟨db,0,none⟩),str (temp),.int .i64 ((fan:Nat):Int),.int .i64 how,.int .i64 ((tm.1:Nat):Int),.slice Am made.length cm] 144)::row 9 1 (.slice Am made.length cm) made.length (strs made)::diskR db e::fr):=H
    refine rs 1 S H t0 fun a w S H=>?_
    refine r_seq ?_
    refine r_seq ?_
    refine ha [0,1,2] 4 H fun w H HS=>?_
    refine tk 0 S HS fun a S=>?_
    refine tk 1 S HS fun a S=>?_
    refine tk 2 S HS fun a S=>?_
    refine tk 3 S HS fun a S=>?_
    refine tk 4 S HS fun a S=>?_
    refine h1 5 ?_
    refine rs 1 S H (by omega) fun a w S H=>?_
    refine hk (pk [0,1,2] 4 H) fun HS=>?_
    refine tk 6 S HS fun a S=>?_
    refine hz ?_
    refine x_then ?_
    refine sb ?_
    refine rn 3 S H t0 fun a w S H=>?_
    refine scA 1 S H (fun _=>t0) fun a w S H=>?_
    refine sn ?_
    refine r_cond S rfl (fun h25=>?_) (fun h25=>?_)
    · skip
      simp only [Bool.and_eq_true,decide_eq_true_eq] at h25
      refine sr 2 S H t0 fun a w S H=>?_
      refine wp_ret ?_
      refine x_thenRet ?_
      refine x_blockRet ?_
      refine x_thenRet ?_
      refine x_thenRet ?_
      refine x_blockRet ?_
      refine x_thenRet ?_
      refine r_ret1 S H Tryz.results86 (ro_tmp S rfl) ?_
      have hg2:=gones_bad (n:=l.getD i []) (l:=l.drop (i+1)) (made:=made) (d:=e) (by omega)
      rw [<-dropN (by omega),hg] at hg2
      rw [hg2]
      exact ⟨rfl,Sat.shutS (tm.1,made) (pk [1,2,3] 4 H)⟩
    simp only [Bool.and_eq_false_iff,decide_eq_false_iff_not] at h25
    refine wp_skip ?_
    refine x_then ?_
    refine r_region ?_
    refine rn 5 S H t0 fun a w S H=>?_
    refine r_y S H (y_makeFunc (vs:=#[.pointer (some ⟨b3,0,none⟩)]) S rfl rfl) rfl rfl rfl fun a S=>?_
    refine r_call (args:=#[.slice Am made.length cm,.func (.func 108) #[] #[.pointer (some ⟨b3,0,none⟩)]]) S rfl rfl Tryz.call107 (delete_ct (H:=(pk [0,2,1,3] 4 H)) _ _ Am cm b3 (l.getD i []) made (by first | omega | (simp<;>omega))) rfl rfl rfl fun v a w hR S=>?_
    obtain ⟨rfl,H⟩:=hR
    refine rn 3 S H t0 fun a w S H=>?_
    refine r_nil ?_
    refine x_blockEnd ?_
    refine x_then ?_
    refine er 2 S H (by omega) fun a w S H=>?_
    refine x_then ?_
    have hg2:=gones_go (n:=l.getD i []) (l:=l.drop (i+1)) (made:=made) (d:=e) (by omega)
    rw [<-dropN (by omega),hg] at hg2
    have hle:(keepN (l.getD i []) made).length<=made.length:=List.length_filter_le _ _
    have hce:=Dk.len_remove e (l.getD i [])
    have H:=pk [2,1,3] 4 H
    exact ⟨(i+1,keepN (l.getD i []) made,(Dk.Disk.remove (l.getD i []) e).1,Am,cm),⟨S.sub ⟨rfl,rfl,rfl,rfl,rfl,trivial⟩,H,⟨by omega,hg2.symm,by omega,by omega⟩⟩,by show l.length - (i+1) < l.length - i;omega⟩
  refine wp_exit ?_
  refine x_thenExit ?_
  refine x_thenExit ?_
  refine x_blockHere ?_
  refine x_then ?_
  refine sr 1 S H t0 fun a w S H=>?_
  refine wp_ret ?_
  refine r_ret1 S H Tryz.results86 (ro_tmp S rfl) ?_
  have hi:i=l.length:=by omega
  rw [hi,List.drop_length] at hg
  rw [<-hg]
  exact ⟨rfl,Sat.shutS (tm.1,made) (H)⟩

theorem run_ct (w:World) (fr:List Res) (hl:Laid fr) (zb db:Nat) (temp:Nm) (fan:Nat) (how:Int) (tm:Tm) (A:Option Addr) (c:Nat) (l:List R) (ok:SlOk fr 2 A l.length c (recs l)) (d:Dk.Disk) (hc:d.files.length+1<=4398046511104) (hm:tm.2.length+1<=4398046511104/\tm.1<=1099511627776/\temp.length<=1000) (hn:l.length<=1099511627776) (hb:Bd l) (hh:Rn.hright how=true) (H:Sat w (srtR zb db temp fan how tm::diskR db d::fr)):
    Rt Tryz.prog 129 #[.pointer (some ⟨zb,0,none⟩),.slice A l.length c] w fun v w'=>v=.tuple #[str (tname temp (tm.1+1)),.int .i64 (((Xs.run temp how l tm d).2.2:Nat):Int)]/\Sat w' (srtR zb db temp fan how (Xs.run temp how l tm d).2.1::diskR db (Xs.run temp how l tm d).1::fr):=by
  refine en2 Tryz.func129 rfl Tryz.ntmps129 rfl fun a S=>?_
  obtain ⟨Am1,cm2,H⟩:=Sat.openS (H)
  replace H:Sat _ (blk zb (.cells #[.pointer (some ⟨db,0,none⟩),str (temp),.int .i64 ((fan:Nat):Int),.int .i64 how,.int .i64 ((tm.1:Nat):Int),.slice Am1 tm.2.length cm2] 144)::row 9 1 (.slice Am1 tm.2.length cm2) tm.2.length (strs tm.2)::diskR db d::fr):=H
  have hr14:Rn.sorted how l=(Rn.fold how (Rn.sort l),0):=if_pos hh
  refine sr 2 S H t0 fun a w S H=>?_
  refine sb ?_
  refine rn 5 S H t0 fun a w S H=>?_
  refine r_call (args:=#[.slice A l.length c,.int .i64 how]) S rfl rfl Tryz.call149 (sorted14_ct (H:=H) _ _ A c l (((ok.more _).more _).more _) (by first | omega | (simp<;>omega)) hb how) rfl rfl rfl fun v a w hR S=>?_
  obtain ⟨A3,c4,rfl,H⟩:=hR
  rw [hr14] at S H
  dsimp only at S H
  have hfl:=Rn.fold_len how (Rn.sort l)
  rw [Rn.len_sort] at hfl
  refine rs 5 S H t0 fun a w S H=>?_
  refine r_seq ?_
  refine sr 2 S H t0 fun a w S H=>?_
  have S:=S.retell (v':=.bool false) 18 rfl rfl
  refine r_condF S rfl ?_
  refine wp_skip ?_
  refine x_then ?_
  have H:=Sat.shutS tm (pk [1,2,0,3] 4 H)
  refine sb ?_
  refine rn 1 S H t0 fun a w S H=>?_
  refine r_call (args:=#[.pointer (some ⟨zb,0,none⟩)]) S rfl rfl Tryz.call102 (sname_ct (H:=H) _ _ (hl.via fun _ H=>H.drop.drop) zb db temp fan how tm (by omega) (by omega)) rfl rfl rfl fun v a w hR S=>?_
  obtain ⟨rfl,H⟩:=hR
  refine rs 1 S H t0 fun a w S H=>?_
  obtain ⟨Am5,cm6,H⟩:=Sat.openS (H)
  replace H:Sat _ (blk zb (.cells #[.pointer (some ⟨db,0,none⟩),str (temp),.int .i64 ((fan:Nat):Int),.int .i64 how,.int .i64 (((tm.1+1,tm.2).1:Nat):Int),.slice Am5 ((tm.1+1,tm.2).2.length) cm6] 144)::row 9 1 (.slice Am5 ((tm.1+1,tm.2).2.length) cm6) ((tm.1+1,tm.2).2.length) (strs ((tm.1+1,tm.2).2))::row 91 2 (.slice A3 ((Rn.fold how (Rn.sort l)).length) c4) ((Rn.fold how (Rn.sort l)).length) (recs ((Rn.fold how (Rn.sort l))))::diskR db d::fr):=H
  refine sb ?_
  refine rn 6 S H t0 fun a w S H=>?_
  refine r_lit (vs:=#[(0,str (tname temp (tm.1+1)))]) (cs:=strs [tname temp (tm.1+1)]) S H rfl rfl el46 (by kernel_rfl) (by decide) (by rfl) rfl rfl rfl fun a w b7 S H=>?_
  refine r_appendS (L':=fun A8 c9=>row 9 1 (.slice (some ⟨b7,0,none⟩) 1 1) 1 (strs [tname temp (tm.1+1)])::blk zb (.cells #[.pointer (some ⟨db,0,none⟩),str (temp),.int .i64 ((fan:Nat):Int),.int .i64 how,.int .i64 (((tm.1+1,tm.2).1:Nat):Int),.slice Am5 ((tm.1+1,tm.2).2.length) cm6] 144)::row 9 1 (.slice A8 ((tm.1+1,tm.2).2.length+1) c9) ((tm.1+1,tm.2).2.length+1) (strs (((tm.1+1,tm.2).2)++([tname temp (tm.1+1)])))::row 91 2 (.slice A3 ((Rn.fold how (Rn.sort l)).length) c4) ((Rn.fold how (Rn.sort l)).length) (recs ((Rn.fold how (Rn.sort l))))::diskR db d::fr) (xs':=strs (((tm.1+1,tm.2).2)++([tname temp (tm.1+1)]))) 2 S H rfl rfl rfl rfl el46 (SlOk.ofRow (i:=0) H rfl) (one_strs _) (by simp only [maxLen];first | omega | (simp<;>omega)) (by first | omega | (simp<;>omega)) (strs_app ((tm.1+1,tm.2).2) ([tname temp (tm.1+1)])) (by first | omega | (simp<;>omega)) (fun _ _=>rfl) rfl rfl rfl fun a w A8 c9 hA8 S H=>?_
  refine rs 3 S H t0 fun a w S H=>?_
  refine sb ?_
  refine rn 7 S H t0 fun a w S H=>?_
  refine r_call (args:=#[.pointer (some ⟨db,0,none⟩),str (tname temp (tm.1+1)),.slice A3 ((Rn.fold how (Rn.sort l)).length) c4]) S rfl rfl Tryz.call104 (write_ct (H:=(pk [4,0,1,2,3] 5 H)) _ _ db (tname temp (tm.1+1)) d (hc) _ _ (Rn.fold how (Rn.sort l)) (SlOk.ofRow (i:=3) ((pk [4,0,1,2,3] 5 H)).drop rfl) (by omega) (Rn.fold_bd how _ hb.sort)) rfl rfl rfl fun v a w hR S=>?_
  obtain ⟨rfl,H⟩:=hR
  refine rs 2 S H t0 fun a w S H=>?_
  refine wp_ret ?_
  refine r_ret2 S H Tryz.results129 (ro_tmp S rfl) (ro_tmp S rfl) ?_
  have H:=pk [2,3,0] 5 H
  exact ⟨rfl,Sat.shutS (tm.1+1,tm.2++[(tname temp (tm.1+1))]) (by rw [List.length_append];exact H)⟩

end Go.Proofs.YtoffbmhmocfmnaaGreatDoor
namespace Go.Proofs.YtoffbmhmocfmnaaGreatDoor
open Go.RowKit Go.Cg
set_option linter.unusedVariables false
set_option linter.unusedSimpArgs false
set_option maxRecDepth 8000
set_option synthInstance.maxHeartbeats 1000000
set_option synthInstance.maxSize 1000000
open Go.Cg.Dk (By Nm)
open Go.Cg.Rn (R Bd Rs RsOk RsFit)
open Go.Cg.Xs (Tm tname)
/-- a reader: the disk, the file, its size, where it stands, its error -/
def rdrR (rb db:Nat) (n:Nm) (sz:Nat) (s:Rs) (er:Nat):Res:=ex fun p:Res×Option Addr×Nat=>star [fact (SlOk [p.1] 1 p.2.1 s.2.1.length p.2.2 (u8s s.2.1)),blk rb (.cells #[.pointer (some ⟨db,0,none⟩),str n,.int .i64 ((s.1:Nat):Int),.int .i64 ((sz:Nat):Int),.slice p.2.1 s.2.1.length p.2.2,.bool s.2.2,.int .i64 ((er:Nat):Int)] 120),p.1]
theorem Sat.openR {w:World} {L:List Res} {rb db sz er:Nat} {n:Nm} {s:Rs} (H:Sat w (rdrR rb db n sz s er::L)):∃TR A c,SlOk [TR] 1 A s.2.1.length c (u8s s.2.1)/\Sat w (blk rb (.cells #[.pointer (some ⟨db,0,none⟩),str n,.int .i64 ((s.1:Nat):Int),.int .i64 ((sz:Nat):Int),.slice A s.2.1.length c,.bool s.2.2,.int .i64 ((er:Nat):Int)] 120)::TR::L):=by
  obtain ⟨⟨TR,A,c⟩,H⟩:=sat_ex.1 H
  have H:=sat_star.1 H
  obtain ⟨h,H⟩:=sat_fact.1 H
  exact ⟨TR,A,c,h,H⟩
theorem Sat.shutR {w:World} {L:List Res} {rb db sz er c:Nat} {n:Nm} {s:Rs} {TR:Res} {A:Option Addr} (h:SlOk [TR] 1 A s.2.1.length c (u8s s.2.1)) (H:Sat w (blk rb (.cells #[.pointer (some ⟨db,0,none⟩),str n,.int .i64 ((s.1:Nat):Int),.int .i64 ((sz:Nat):Int),.slice A s.2.1.length c,.bool s.2.2,.int .i64 ((er:Nat):Int)] 120)::TR::L)):Sat w (rdrR rb db n sz s er::L):=
  sat_ex.2 ⟨(TR,A,c),sat_star.2 (sat_fact.2 ⟨h,H⟩)⟩
theorem newrd_ct (w:World) (fr:List Res) (db:Nat) (n:Nm) (d:Dk.Disk) (hcnt:d.files.length<=4398046511104) (h0:(d.size n).2.2=0) (H:Sat w (diskR db d::fr)):
    Rt Tryz.prog 36 #[.pointer (some ⟨db,0,none⟩),str n] w fun v w'=>∃rb,v=.tuple #[.pointer (some ⟨rb,0,none⟩),.int .i64 0]/\Sat w' (rdrR rb db n (d.size n).2.1 (0,[],false) 0::diskR db (d.size n).1::fr):=
  Calls.mono (newr_ct w fr db n d hcnt h0 H) fun e w' ⟨v,he,rb,hv,H2⟩=>⟨v,he,rb,hv,Sat.shutR (TR:=row 5 1 (.slice none 0 0) 0 (u8s [])) (A:=none) (c:=0) (SlOk.nil8 _) ((H2.nilRow 5 1).perm (List.Perm.swap _ _ _))⟩
theorem nextd_ct (w:World) (fr:List Res) (rb db:Nat) (n:Nm) (sz:Nat) (s:Rs) (d:Dk.Disk) (hRs:RsOk sz s) (hcnt:d.files.length<=4398046511104) (hp:s.1<=17592186044416) (hsz:sz<=17592186044416) (H:Sat w (rdrR rb db n sz s 0::diskR db d::fr)):
    Rt Tryz.prog 65 #[.pointer (some ⟨rb,0,none⟩)] w fun v w'=>v=.tuple #[.agg #[.int .u64 ((((Rn.rnext n sz s d).2.2.1.getD (0,0)).1:Nat):Int),.int .u64 ((((Rn.rnext n sz s d).2.2.1.getD (0,0)).2:Nat):Int)],.bool (Rn.rnext n sz s d).2.2.1.isSome,.int .i64 (((Rn.rnext n sz s d).2.2.2:Nat):Int)]/\Sat w' (rdrR rb db n sz (Rn.rnext n sz s d).2.1 (Rn.rnext n sz s d).2.2.2::diskR db (Rn.rnext n sz s d).1::fr):=by
  obtain ⟨p,t,sh⟩:=s
  obtain ⟨TR,A,c,h,H⟩:=Sat.openR H
  refine Calls.mono (rnext_ct w fr rb db n p sz A c t sh d TR h hRs hcnt hp hsz (H.perm (List.Perm.cons _ (List.Perm.swap _ _ _)))) fun e w' ⟨v,he,TR',A',c',hv,h2,H2⟩=>⟨v,he,hv,Sat.shutR h2 (H2.perm (List.Perm.cons _ (List.Perm.swap _ _ _)))⟩
section
variable {nin:Nm} {sz:Nat} {temp:Nm} {how:Int} {budget k:Nat} {s:Rs} {l:List R} {names:List Nm} {n:Nat} {tm:Tm} {d:Dk.Disk} {r:R}
theorem cut_bad (e:(Rn.rnext nin sz s d).2.2.2≠0):Xs.cut nin sz temp how budget (k+1) s l names n tm d=((Rn.rnext nin sz s d).1,tm,[],0,(Rn.rnext nin sz s d).2.2.2):=by rw [Xs.cut,if_pos e]
theorem cut_more (e:(Rn.rnext nin sz s d).2.2.2=0) (hr:(Rn.rnext nin sz s d).2.2.1=some r) (h:¬ l.length+1=budget):Xs.cut nin sz temp how budget (k+1) s l names n tm d=Xs.cut nin sz temp how budget k (Rn.rnext nin sz s d).2.1 (l++[r]) names (n+1) tm (Rn.rnext nin sz s d).1:=by
  rw [Xs.cut,if_neg (fun c=>c e),hr];simp only;rw [if_neg h]
theorem cut_rbad (e:(Rn.rnext nin sz s d).2.2.2=0) (hr:(Rn.rnext nin sz s d).2.2.1=some r) (h:l.length+1=budget) (b:(Xs.run temp how (l++[r]) tm (Rn.rnext nin sz s d).1).2.2≠0):Xs.cut nin sz temp how budget (k+1) s l names n tm d=((Xs.run temp how (l++[r]) tm (Rn.rnext nin sz s d).1).1,(Xs.run temp how (l++[r]) tm (Rn.rnext nin sz s d).1).2.1,[],0,(Xs.run temp how (l++[r]) tm (Rn.rnext nin sz s d).1).2.2):=by
  rw [Xs.cut,if_neg (fun c=>c e),hr];simp only;rw [if_pos h,if_pos b]
theorem cut_run (e:(Rn.rnext nin sz s d).2.2.2=0) (hr:(Rn.rnext nin sz s d).2.2.1=some r) (h:l.length+1=budget) (b:(Xs.run temp how (l++[r]) tm (Rn.rnext nin sz s d).1).2.2=0):Xs.cut nin sz temp how budget (k+1) s l names n tm d=Xs.cut nin sz temp how budget k (Rn.rnext nin sz s d).2.1 [] (names++[tname temp (tm.1+1)]) (n+1) (Xs.run temp how (l++[r]) tm (Rn.rnext nin sz s d).1).2.1 (Xs.run temp how (l++[r]) tm (Rn.rnext nin sz s d).1).1:=by
  rw [Xs.cut,if_neg (fun c=>c e),hr];simp only;rw [if_pos h,if_neg (fun c=>c b)]
theorem cut_end (e:(Rn.rnext nin sz s d).2.2.2=0) (hr:(Rn.rnext nin sz s d).2.2.1=none) (h:l=[]):Xs.cut nin sz temp how budget (k+1) s l names n tm d=((Rn.rnext nin sz s d).1,tm,names,n,0):=by
  rw [Xs.cut,if_neg (fun c=>c e),hr];simp only;rw [if_pos h]
theorem cut_lbad (e:(Rn.rnext nin sz s d).2.2.2=0) (hr:(Rn.rnext nin sz s d).2.2.1=none) (h:l≠[]) (b:(Xs.run temp how l tm (Rn.rnext nin sz s d).1).2.2≠0):Xs.cut nin sz temp how budget (k+1) s l names n tm d=((Xs.run temp how l tm (Rn.rnext nin sz s d).1).1,(Xs.run temp how l tm (Rn.rnext nin sz s d).1).2.1,[],0,(Xs.run temp how l tm (Rn.rnext nin sz s d).1).2.2):=by
  rw [Xs.cut,if_neg (fun c=>c e),hr];simp only;rw [if_neg h,if_pos b]
theorem cut_last (e:(Rn.rnext nin sz s d).2.2.2=0) (hr:(Rn.rnext nin sz s d).2.2.1=none) (h:l≠[]) (b:(Xs.run temp how l tm (Rn.rnext nin sz s d).1).2.2=0):Xs.cut nin sz temp how budget (k+1) s l names n tm d=((Xs.run temp how l tm (Rn.rnext nin sz s d).1).1,(Xs.run temp how l tm (Rn.rnext nin sz s d).1).2.1,names++[tname temp (tm.1+1)],n,0):=by
  rw [Xs.cut,if_neg (fun c=>c e),hr];simp only;rw [if_neg h,if_neg (fun c=>c b)]
theorem run_cnt:(Xs.run temp how l tm d).1.files.length<=d.files.length+1:=Rn.write_cnt _ _ _
end
theorem cutout_ct (w:World) (fr:List Res) (hl:Laid fr) (pb lb mb zb db:Nat) (temp:Nm) (fan:Nat) (how:Int) (tm:Tm) (A:Option Addr) (c:Nat) (l:List R) (An:Option Addr) (cn:Nat) (names:List Nm) (d:Dk.Disk) (hc:d.files.length+1<=4398046511104) (hm:tm.2.length+1<=4398046511104/\tm.1<=1099511627776/\temp.length<=1000) (hn:l.length<=1099511627776) (hnn:names.length<=4398046511104) (hb:Bd l) (hh:Rn.hright how=true) (H:Sat w (blk pb (.cells #[.pointer (some ⟨zb,0,none⟩)] 142)::blk lb (.cells #[.slice A l.length c] 86)::blk mb (.cells #[.slice An names.length cn] 46)::row 91 2 (.slice A l.length c) l.length (recs l)::row 9 1 (.slice An names.length cn) names.length (strs names)::srtR zb db temp fan how tm::diskR db d::fr)):
    Rt Tryz.prog 128 #[.pointer (some ⟨pb,0,none⟩),.pointer (some ⟨lb,0,none⟩),.pointer (some ⟨mb,0,none⟩)] w fun v w'=>∃A' c',v=.int .i64 (((Xs.run temp how l tm d).2.2:Nat):Int)/\Sat w' (blk pb (.cells #[.pointer (some ⟨zb,0,none⟩)] 142)::blk lb (.cells #[.slice none 0 0] 86)::blk mb (.cells #[.slice A' (names++[tname temp (tm.1+1)]).length c'] 46)::row 9 1 (.slice A' (names++[tname temp (tm.1+1)]).length c') (names++[tname temp (tm.1+1)]).length (strs (names++[tname temp (tm.1+1)]))::srtR zb db temp fan how (Xs.run temp how l tm d).2.1::diskR db (Xs.run temp how l tm d).1::fr):=by
  refine en3 Tryz.func128 rfl Tryz.ntmps128 rfl fun a S=>?_
  refine sr 1 S H t0 fun a w S H=>?_
  refine sb ?_
  refine rn 2 S H t0 fun a w S H=>?_
  refine r_call (args:=#[.pointer (some ⟨zb,0,none⟩),.slice A l.length c]) S rfl rfl Tryz.call129 (run_ct (H:=(pk [5,6,0,1,2,3,4] 7 H)) _ _ (hl.via fun _ H=>H.drop.drop.drop.drop.drop) zb db temp fan how tm _ _ l (SlOk.ofRow (i:=3) (pk [5,6,0,1,2,3,4] 7 H).drop.drop rfl) d (hc) (hm) (hn) (hb) (hh)) rfl rfl rfl fun v a w hR S=>?_
  obtain ⟨rfl,H⟩:=hR
  refine rs 5 S H t0 fun a w S H=>?_
  refine sb ?_
  refine rn 2 S H t0 fun a w S H=>?_
  refine r_lit (vs:=#[(0,str (tname temp (tm.1+1)))]) (cs:=strs [tname temp (tm.1+1)]) S H rfl rfl el46 (by kernel_rfl) (by decide) (by rfl) rfl rfl rfl fun a w b1 S H=>?_
  refine r_appendS (L':=fun A2 c3=>row 9 1 (.slice (some ⟨b1,0,none⟩) 1 1) 1 (strs [tname temp (tm.1+1)])::srtR zb db temp fan how (Xs.run temp how l tm d).2.1::diskR db (Xs.run temp how l tm d).1::blk pb (.cells #[.pointer (some ⟨zb,0,none⟩)] 142)::blk lb (.cells #[.slice A l.length c] 86)::blk mb (.cells #[.slice An names.length cn] 46)::row 91 2 (.slice A l.length c) l.length (recs l)::row 9 1 (.slice A2 (names.length+1) c3) (names.length+1) (strs (names++([tname temp (tm.1+1)])))::fr) (xs':=strs (names++([tname temp (tm.1+1)]))) 7 S H rfl rfl rfl rfl el46 (SlOk.ofRow (i:=0) H rfl) (one_strs _) (by simp only [maxLen];first | omega | (simp<;>omega)) (by first | omega | (simp<;>omega)) (strs_app names ([tname temp (tm.1+1)])) (by first | omega | (simp<;>omega)) (fun _ _=>rfl) rfl rfl rfl fun a w A2 c3 hA2 S H=>?_
  refine rs 2 S H t0 fun a w S H=>?_
  refine sr 2 S H t0 fun a w S H=>?_
  refine wp_ret ?_
  refine r_ret1 S H Tryz.results128 (ro_tmp S rfl) ?_
  have en:names.length+1=(names++[tname temp (tm.1+1)]).length:=by simp
  have H:=pk [3,4,5,7,1,2] 8 H
  rw [en] at H
  exact ⟨_,_,rfl,H⟩

end Go.Proofs.YtoffbmhmocfmnaaGreatDoor
namespace Go.Proofs.YtoffbmhmocfmnaaGreatDoor
open Go.RowKit Go.Cg
set_option linter.unusedVariables false
set_option linter.unusedSimpArgs false
set_option maxRecDepth 8000
set_option synthInstance.maxHeartbeats 1000000
set_option synthInstance.maxSize 1000000
open Go.Cg.Dk (By Nm)
open Go.Cg.Rn (R Bd Rs RsOk RsFit)
open Go.Cg.Xs (Tm tname)
theorem cut_ct (w:World) (fr:List Res) (hl:Laid fr) (zb rb db:Nat) (temp nin:Nm) (fan:Nat) (how:Int) (sz budget:Nat) (d:Dk.Disk) (hc:d.files.length<=1099511627776) (htl:temp.length<=1000) (hz:sz<=17592186044416) (hb1:0 < budget) (hh:Rn.hright how=true) (H:Sat w (srtR zb db temp fan how (0,[])::rdrR rb db nin sz (0,[],false) 0::diskR db d::fr)):
    Rt Tryz.prog 100 #[.pointer (some ⟨zb,0,none⟩),.pointer (some ⟨rb,0,none⟩),.int .i64 ((budget:Nat):Int)] w fun v w'=>∃A' c',v=.tuple #[.slice A' (Xs.cut nin sz temp how budget (Rn.rleft sz (0,[],false)+1) (0,[],false) [] [] 0 (0,[]) d).2.2.1.length c',.int .i64 (((Xs.cut nin sz temp how budget (Rn.rleft sz (0,[],false)+1) (0,[],false) [] [] 0 (0,[]) d).2.2.2.1:Nat):Int),.int .i64 (((Xs.cut nin sz temp how budget (Rn.rleft sz (0,[],false)+1) (0,[],false) [] [] 0 (0,[]) d).2.2.2.2:Nat):Int)]/\Sat w' (row 9 1 (.slice A' (Xs.cut nin sz temp how budget (Rn.rleft sz (0,[],false)+1) (0,[],false) [] [] 0 (0,[]) d).2.2.1.length c') (Xs.cut nin sz temp how budget (Rn.rleft sz (0,[],false)+1) (0,[],false) [] [] 0 (0,[]) d).2.2.1.length (strs (Xs.cut nin sz temp how budget (Rn.rleft sz (0,[],false)+1) (0,[],false) [] [] 0 (0,[]) d).2.2.1)::srtR zb db temp fan how (Xs.cut nin sz temp how budget (Rn.rleft sz (0,[],false)+1) (0,[],false) [] [] 0 (0,[]) d).2.1::diskR db (Xs.cut nin sz temp how budget (Rn.rleft sz (0,[],false)+1) (0,[],false) [] [] 0 (0,[]) d).1::fr):=by
  refine en3 Tryz.func100 rfl Tryz.ntmps100 rfl fun a S=>?_
  refine sb ?_
  refine r_box (c:=#[.pointer (some ⟨zb,0,none⟩)]) S H rfl rfl rfl rfl rfl rfl fun a w b1 S H=>?_
  refine r_alloc S H rfl Tryz.zeroValue46 rfl rfl rfl rfl fun a w b2 S H=>?_
  replace H:Sat _ (blk b2 (.cells #[.slice none 0 0] 46)::blk b1 (.cells #[.pointer (some ⟨zb,0,none⟩)] 142)::srtR zb db temp fan how (0,[])::rdrR rb db nin sz (0,[],false) 0::diskR db d::fr):=H
  refine rs 2 S H t0 fun a w S H=>?_
  refine sb ?_
  refine r_alloc S H rfl Tryz.zeroValue86 rfl rfl rfl rfl fun a w b3 S H=>?_
  replace H:Sat _ (blk b3 (.cells #[.slice none 0 0] 86)::blk b2 (.cells #[.slice none 0 0] 46)::blk b1 (.cells #[.pointer (some ⟨zb,0,none⟩)] 142)::srtR zb db temp fan how (0,[])::rdrR rb db nin sz (0,[],false) 0::diskR db d::fr):=H
  refine sn ?_
  refine sb ?_
  refine r_y S H (y_makeFunc (vs:=#[.pointer (some ⟨b1,0,none⟩),.pointer (some ⟨b3,0,none⟩),.pointer (some ⟨b2,0,none⟩)]) S rfl rfl) rfl rfl rfl fun a S=>?_
  refine rs 1 S H t0 fun a w S H=>?_
  refine r_block ?_
  have H:=H.nilRow 91 2
  have H:=H.nilRow 9 1
  refine r_loop (ι:=Nat×Rs×List R×List Nm×Nat×Tm×Dk.Disk×Option Addr×Nat×Option Addr×Nat) (fun ⟨k,s,l,names,n,tm,dd,Al,cl,An,cn⟩ a w=>Slots a 54 [(1,.pointer (some ⟨rb,0,none⟩)),(2,.int .i64 ((budget:Nat):Int)),(6,.pointer (some ⟨b2,0,none⟩)),(7,.int .i64 ((n:Nat):Int)),(9,.pointer (some ⟨b3,0,none⟩)),(10,.func (.func 128) #[] #[.pointer (some ⟨b1,0,none⟩),.pointer (some ⟨b3,0,none⟩),.pointer (some ⟨b2,0,none⟩)]),(54,undef)]/\Sat w (blk b1 (.cells #[.pointer (some ⟨zb,0,none⟩)] 142)::blk b3 (.cells #[.slice Al l.length cl] 86)::blk b2 (.cells #[.slice An names.length cn] 46)::row 91 2 (.slice Al l.length cl) l.length (recs l)::row 9 1 (.slice An names.length cn) names.length (strs names)::srtR zb db temp fan how tm::rdrR rb db nin sz s 0::diskR db dd::fr)/\(Xs.cut nin sz temp how budget k s l names n tm dd=(Xs.cut nin sz temp how budget (Rn.rleft sz (0,[],false)+1) (0,[],false) [] [] 0 (0,[]) d)/\Rn.rleft sz s < k/\RsOk sz s/\RsFit sz n s/\Bd l/\l.length < budget/\l.length+names.length<=n/\tm.1=names.length/\tm.2.length=names.length/\dd.files.length<=d.files.length+names.length)) (fun ⟨k,s,l,names,n,tm,dd,Al,cl,An,cn⟩=>Rn.rleft sz s) (Rn.rleft sz (0,[],false)+1,(0,[],false),[],[],0,(0,[]),d,none,0,none,0) ⟨S.sub ⟨rfl,rfl,rfl,rfl,rfl,rfl,rfl,trivial⟩,pk [4,2,3,1,0,5,6,7] 8 H,⟨rfl,Nat.lt_succ_self _,RsOk.start _,RsFit.start _,Bd.nil,hb1,Nat.le_refl _,rfl,rfl,Nat.le_refl _⟩⟩ (fun ⟨k,s,l,names,n,tm,dd,Al,cl,An,cn⟩ a w hI=>?_)
  obtain ⟨S,H,hI⟩:=hI
  obtain ⟨hT,hkf,hRs,hFt,hBl,hlb,hln,ht1,ht2,hdf⟩:=hI
  have hfs:=hFt.size
  have hfp:=hFt.pos
  obtain ⟨k,rfl⟩:∃j,k=j+1:=⟨k - 1,by omega⟩
  have hrc:=Rn.rnext_cnt nin sz s dd
  refine r_block ?_
  refine sb ?_
  refine rn 1 S H t0 fun a w S H=>?_
  refine r_call (args:=#[.pointer (some ⟨rb,0,none⟩)]) S rfl rfl Tryz.call65 (nextd_ct (H:=(pk [6,7,0,1,2,3,4,5] 8 H)) _ _ rb db nin sz s dd hRs (by omega) (by omega) (hz)) rfl rfl rfl fun v a w hR S=>?_
  obtain ⟨rfl,H⟩:=hR
  refine rn 4 S H t0 fun a w S H=>?_
  refine r_alloc S H rfl Tryz.zeroValue91 rfl rfl rfl rfl fun a w b4 S H=>?_
  replace H:Sat _ (blk b4 (.cells #[.int .u64 0,.int .u64 0] 91)::rdrR rb db nin sz ((Rn.rnext nin sz s dd).2.1) ((Rn.rnext nin sz s dd).2.2.2)::diskR db (Rn.rnext nin sz s dd).1::blk b1 (.cells #[.pointer (some ⟨zb,0,none⟩)] 142)::blk b3 (.cells #[.slice Al l.length cl] 86)::blk b2 (.cells #[.slice An names.length cn] 46)::row 91 2 (.slice Al l.length cl) l.length (recs l)::row 9 1 (.slice An names.length cn) names.length (strs names)::srtR zb db temp fan how tm::fr):=H
  refine rs 3 S H t0 fun a w S H=>?_
  refine r_seq ?_
  refine sr 2 S H t0 fun a w S H=>?_
  refine r_test S rfl (fun h23=>?_) (fun h23=>?_)
  · skip
    refine sr 4 S H t0 fun a w S H=>?_
    refine wp_ret ?_
    refine x_thenRet ?_
    refine x_blockRet ?_
    refine x_thenRet ?_
    refine x_blockRet ?_
    refine r_ret3 S H Tryz.results100 (ro_cell (i:=5) S rfl Tryz.isAgg46 rfl rfl) (ro_tmp S rfl) (ro_tmp S rfl) ?_
    have hct:=hT.symm.trans (cut_bad (nin:=nin) (sz:=sz) (temp:=temp) (how:=how) (budget:=budget) (k:=k) (s:=s) (l:=l) (names:=names) (n:=n) (tm:=tm) (d:=dd) (by omega))
    rw [hct]
    have H:=H.nilRow 9 1
    exact ⟨none,0,rfl,pk [0,9,3] 10 H⟩
  refine wp_skip ?_
  refine x_then ?_
  refine r_seq ?_
  have he0:(Rn.rnext nin sz s dd).2.2.2=0:=by omega
  rcases hx:(Rn.rnext nin sz s dd).2.2.1 with _ | r
  · skip
    rw [hx] at S H
    dsimp only [Option.getD,Option.isSome] at S H
    refine sr 1 S H t0 fun a w S H=>?_
    refine r_condF S rfl ?_
    refine wp_skip ?_
    refine x_then ?_
    refine r_seq ?_
    by_cases hl0:l=[]
    · skip
      have hl0':l.length=0:=by rw [hl0];rfl
      refine sb ?_
      refine rn 3 S H t0 fun a w S H=>?_
      refine r_y S H (y_eq S rfl rfl rfl) rfl rfl rfl fun a S=>?_
      have S:=S.retell (v':=.bool false) 35 rfl (by rw [decide_eq_false (by omega)])
      refine rn 6 S H t0 fun a w S H=>?_
      refine r_y S H (y_gt S rfl rfl rfl) rfl rfl rfl fun a S=>?_
      have S:=S.retell (v':=.bool false) 42 rfl (by rw [decide_eq_false (by omega)])
      refine rs 2 S H t0 fun a w S H=>?_
      refine r_condF S rfl ?_
      refine wp_skip ?_
      refine x_then ?_
      refine sr 2 S H t0 fun a w S H=>?_
      refine r_condT S rfl ?_
      refine sr 5 S H t0 fun a w S H=>?_
      refine wp_ret ?_
      refine x_blockRet ?_
      refine x_thenRet ?_
      refine x_blockRet ?_
      refine r_ret3 S H Tryz.results100 (ro_cell (i:=5) S rfl Tryz.isAgg46 rfl rfl) (ro_tmp S rfl) (ro_tmp S rfl) ?_
      have hct:=hT.symm.trans (cut_end (nin:=nin) (sz:=sz) (temp:=temp) (how:=how) (budget:=budget) (k:=k) (s:=s) (l:=l) (names:=names) (n:=n) (tm:=tm) (d:=dd) he0 hx hl0)
      rw [hct]
      exact ⟨_,_,rfl,pk [7,8,2] 9 H⟩
    have hl0':0 < l.length:=List.length_pos_iff.2 hl0
    refine sb ?_
    refine rn 3 S H t0 fun a w S H=>?_
    refine r_y S H (y_eq S rfl rfl rfl) rfl rfl rfl fun a S=>?_
    have S:=S.retell (v':=.bool false) 35 rfl (by rw [decide_eq_false (by omega)])
    refine rn 6 S H t0 fun a w S H=>?_
    refine r_y S H (y_gt S rfl rfl rfl) rfl rfl rfl fun a S=>?_
    have S:=S.retell (v':=.bool true) 42 rfl (by rw [decide_eq_true (by omega)])
    refine rs 2 S H t0 fun a w S H=>?_
    refine r_condT S rfl ?_
    refine sb ?_
    refine rn 1 S H t0 fun a w S H=>?_
    have hBx:Bd (l):=hBl
    have hnx1:=hfs
    have en1:l.length=(l).length:=by simp
    have H:=pk [3,4,5,6,7,8,2,0,1] 9 H
    rw [en1] at H
    refine r_callV (args:=#[]) S rfl rfl rfl Tryz.call128 (cutout_ct (H:=H) _ _ (hl.via fun _ H=>H.drop.drop) b1 b3 b2 zb db temp fan how tm _ _ l _ _ names ((Rn.rnext nin sz s dd).1) (by omega) (by omega) (by first | omega | (simp;omega)) (by omega) hBx hh) rfl rfl rfl fun v a w hR S=>?_
    obtain ⟨A5,c6,rfl,H⟩:=hR
    refine rs 1 S H t0 fun a w S H=>?_
    refine sr 2 S H t0 fun a w S H=>?_
    refine r_test S rfl (fun h48=>?_) (fun h48=>?_)
    · skip
      refine sr 4 S H t0 fun a w S H=>?_
      refine wp_ret ?_
      refine x_thenRet ?_
      refine x_blockRet ?_
      refine x_thenRet ?_
      refine x_blockRet ?_
      refine r_ret3 S H Tryz.results100 (ro_cell (i:=2) S rfl Tryz.isAgg46 rfl rfl) (ro_tmp S rfl) (ro_tmp S rfl) ?_
      have hct:=hT.symm.trans (cut_lbad (nin:=nin) (sz:=sz) (temp:=temp) (how:=how) (budget:=budget) (k:=k) (s:=s) (l:=l) (names:=names) (n:=n) (tm:=tm) (d:=dd) he0 hx hl0 (by omega))
      rw [hct]
      have H:=H.nilRow 9 1
      exact ⟨none,0,rfl,pk [0,5,6] 9 H⟩
    refine wp_skip ?_
    refine x_then ?_
    have hr0:(Xs.run temp how l tm (Rn.rnext nin sz s dd).1).2.2=0:=by omega
    refine sr 2 S H t0 fun a w S H=>?_
    refine r_condT S rfl ?_
    refine sr 5 S H t0 fun a w S H=>?_
    refine wp_ret ?_
    refine x_blockRet ?_
    refine x_thenRet ?_
    refine x_blockRet ?_
    refine r_ret3 S H Tryz.results100 (ro_cell (i:=2) S rfl Tryz.isAgg46 rfl rfl) (ro_tmp S rfl) (ro_tmp S rfl) ?_
    have hct:=hT.symm.trans (cut_last (nin:=nin) (sz:=sz) (temp:=temp) (how:=how) (budget:=budget) (k:=k) (s:=s) (l:=l) (names:=names) (n:=n) (tm:=tm) (d:=dd) he0 hx hl0 (by omega))
    rw [hct]
    exact ⟨_,_,rfl,pk [3,4,5] 8 H⟩
  rw [hx] at S H
  dsimp only [Option.getD,Option.isSome] at S H
  refine sr 1 S H t0 fun a w S H=>?_
  refine r_condT S rfl ?_
  refine sb ?_
  refine rn 2 S H t0 fun a w S H=>?_
  refine r_lit (vs:=#[(0,.agg #[.int .u64 ((r.1:Nat):Int),.int .u64 ((r.2:Nat):Int)])]) (cs:=recs [r]) S H rfl rfl el86 (by kernel_rfl) (by decide) (by rfl) rfl rfl rfl fun a w b7 S H=>?_
  refine r_appendS (L':=fun A8 c9=>row 91 2 (.slice (some ⟨b7,0,none⟩) 1 1) 1 (recs [r])::blk b4 (.cells #[.int .u64 ((r.1:Nat):Int),.int .u64 ((r.2:Nat):Int)] 91)::rdrR rb db nin sz ((Rn.rnext nin sz s dd).2.1) ((Rn.rnext nin sz s dd).2.2.2)::diskR db (Rn.rnext nin sz s dd).1::blk b1 (.cells #[.pointer (some ⟨zb,0,none⟩)] 142)::blk b3 (.cells #[.slice Al l.length cl] 86)::blk b2 (.cells #[.slice An names.length cn] 46)::row 91 2 (.slice A8 (l.length+1) c9) (l.length+1) (recs (l++([r])))::row 9 1 (.slice An names.length cn) names.length (strs names)::srtR zb db temp fan how tm::fr) (xs':=recs (l++([r]))) 7 S H rfl rfl rfl rfl el86 (SlOk.ofRow (i:=0) H rfl) (one_recs _) (by simp only [maxLen];first | omega | (simp<;>omega)) (by first | omega | (simp<;>omega)) (recs_app l ([r])) (by first | omega | (simp<;>omega)) (fun _ _=>rfl) rfl rfl rfl fun a w A8 c9 hA8 S H=>?_
  refine rs 1 S H t0 fun a w S H=>?_
  refine r_region ?_
  refine rn 1 S H t0 fun a w S H=>?_
  refine r_y S H (y_add S rfl rfl rfl (wi64 (by omega) (by omega))) rfl rfl rfl fun a S=>?_
  have S:=S.retell (v':=.int .i64 (((n+1):Nat):Int)) 31 rfl (int_eq (by omega))
  refine rn 1 S H t0 fun a w S H=>?_
  refine r_nil ?_
  refine x_then ?_
  refine r_seq ?_
  by_cases hbu:l.length+1=budget
  · skip
    refine sb ?_
    refine rn 3 S H t0 fun a w S H=>?_
    refine r_y S H (y_eq S rfl rfl rfl) rfl rfl rfl fun a S=>?_
    have S:=S.retell (v':=.bool true) 35 rfl (by rw [decide_eq_true (by omega)])
    refine rs 9 S H t0 fun a w S H=>?_
    refine r_condT S rfl ?_
    refine sb ?_
    refine rn 1 S H t0 fun a w S H=>?_
    have hBx:Bd (l++([r])):=hBl.app fun z hz=>by rw [List.mem_singleton.1 hz];exact (hFt.next hRs hx).2
    have hnx1:=(hFt.next hRs hx).1.size
    have en1:l.length+1=(l++([r])).length:=by simp
    have H:=pk [4,5,6,7,8,9,3,0,1,2] 10 H
    rw [en1] at H
    refine r_callV (args:=#[]) S rfl rfl rfl Tryz.call128 (cutout_ct (H:=H) _ _ (hl.via fun _ H=>H.drop.drop.drop) b1 b3 b2 zb db temp fan how tm _ _ (l++([r])) _ _ names ((Rn.rnext nin sz s dd).1) (by omega) (by omega) (by first | omega | (simp;omega)) (by omega) hBx hh) rfl rfl rfl fun v a w hR S=>?_
    obtain ⟨A10,c11,rfl,H⟩:=hR
    refine rs 1 S H t0 fun a w S H=>?_
    refine sr 2 S H t0 fun a w S H=>?_
    refine r_test S rfl (fun h48=>?_) (fun h48=>?_)
    · skip
      refine sr 4 S H t0 fun a w S H=>?_
      refine wp_ret ?_
      refine x_thenRet ?_
      refine x_blockRet ?_
      refine x_thenRet ?_
      refine x_blockRet ?_
      refine r_ret3 S H Tryz.results100 (ro_cell (i:=2) S rfl Tryz.isAgg46 rfl rfl) (ro_tmp S rfl) (ro_tmp S rfl) ?_
      have hct:=hT.symm.trans (cut_rbad (nin:=nin) (sz:=sz) (temp:=temp) (how:=how) (budget:=budget) (k:=k) (s:=s) (l:=l) (names:=names) (n:=n) (tm:=tm) (d:=dd) (r:=r) he0 hx hbu (by omega))
      rw [hct]
      have H:=H.nilRow 9 1
      exact ⟨none,0,rfl,pk [0,5,6] 10 H⟩
    refine wp_skip ?_
    refine x_then ?_
    have hr0:(Xs.run temp how (l++[r]) tm (Rn.rnext nin sz s dd).1).2.2=0:=by omega
    refine sr 2 S H t0 fun a w S H=>?_
    refine r_condF S rfl ?_
    refine wp_skip ?_
    refine x_blockEnd ?_
    refine x_then ?_
    have hnn:=hRs.next (n:=nin) (d:=dd)
    have hff:=hFt.next hRs hx
    have hlt:=hnn.2 (by rw [hx];rfl)
    have hB2:Bd (l++[r]):=hBl.app fun z hz=>by rw [List.mem_singleton.1 hz];exact hff.2
    have H:=H.nilRow 91 2
    have hct:=cut_run (nin:=nin) (sz:=sz) (temp:=temp) (how:=how) (budget:=budget) (k:=k) (s:=s) (l:=l) (names:=names) (n:=n) (tm:=tm) (d:=dd) (r:=r) he0 hx hbu hr0
    rw [hT] at hct
    have hrcn:=run_cnt (temp:=temp) (how:=how) (l:=l++[r]) (tm:=tm) (d:=(Rn.rnext nin sz s dd).1)
    have H:=pk [1,2,3,0,4,5,9,6] 10 H
    rw [he0] at H
    exact ⟨(k,(Rn.rnext nin sz s dd).2.1,[],names++[tname temp (tm.1+1)],n+1,(Xs.run temp how (l++[r]) tm (Rn.rnext nin sz s dd).1).2.1,(Xs.run temp how (l++[r]) tm (Rn.rnext nin sz s dd).1).1,none,0,A10,c11),⟨S.sub ⟨rfl,rfl,rfl,rfl,rfl,rfl,rfl,trivial⟩,H,⟨hct.symm,by omega,hnn.1,hff.1,Bd.nil,hb1,by simp;omega,by show tm.1+1=_;simp;omega,by show (tm.2++_).length=_;simp;omega,by simp;omega⟩⟩,hlt⟩
  refine sb ?_
  refine rn 3 S H t0 fun a w S H=>?_
  refine r_y S H (y_eq S rfl rfl rfl) rfl rfl rfl fun a S=>?_
  have S:=S.retell (v':=.bool false) 35 rfl (by rw [decide_eq_false (by omega)])
  refine rs 9 S H t0 fun a w S H=>?_
  refine r_condF S rfl ?_
  refine wp_skip ?_
  refine x_then ?_
  refine sr 2 S H t0 fun a w S H=>?_
  refine r_condF S rfl ?_
  refine wp_skip ?_
  refine x_blockEnd ?_
  refine x_then ?_
  have hnn:=hRs.next (n:=nin) (d:=dd)
  have hff:=hFt.next hRs hx
  have hlt:=hnn.2 (by rw [hx];rfl)
  have hB2:Bd (l++[r]):=hBl.app fun z hz=>by rw [List.mem_singleton.1 hz];exact hff.2
  have hct:=cut_more (nin:=nin) (sz:=sz) (temp:=temp) (how:=how) (budget:=budget) (k:=k) (s:=s) (l:=l) (names:=names) (n:=n) (tm:=tm) (d:=dd) (r:=r) he0 hx hbu
  rw [hT] at hct
  have en:l.length+1=(l++[r]).length:=by simp
  have H:=pk [4,5,6,7,8,9,2,3] 10 H
  rw [he0,en] at H
  exact ⟨(k,(Rn.rnext nin sz s dd).2.1,l++[r],names,n+1,tm,(Rn.rnext nin sz s dd).1,A8,c9,An,cn),⟨S.sub ⟨rfl,rfl,rfl,rfl,rfl,rfl,rfl,trivial⟩,H,⟨hct.symm,by omega,hnn.1,hff.1,hB2,by simp;omega,by simp;omega,ht1,ht2,by omega⟩⟩,hlt⟩

end Go.Proofs.YtoffbmhmocfmnaaGreatDoor
namespace Go.Proofs.YtoffbmhmocfmnaaGreatDoor
open Go.RowKit Go.Cg
set_option linter.unusedVariables false
set_option linter.unusedSimpArgs false
set_option maxRecDepth 8000
set_option synthInstance.maxHeartbeats 1000000
set_option synthInstance.maxSize 1000000
open Go.Cg.Dk (By Nm)
open Go.Cg.Rn (R Bd Rs RsOk RsFit Hd hd0)
open Go.Cg.Xs (Tm Rd rd0 RdsOk HBd)
def rdRows (db:Nat) (rbs:List Nat) (rds:List Rd):List Res:=(rbs.zip rds).map fun p=>rdrR p.1 db p.2.1 p.2.2.1 p.2.2.2 0
/-- readers, by their addresses -/
def rdrsR (db:Nat) (rbs:List Nat) (rds:List Rd):Res:=star (fact (rbs.length=rds.length)::rdRows db rbs rds)
theorem Sat.noRds {w:World} {L:List Res} (db:Nat) (H:Sat w L):Sat w (rdrsR db [] []::L):=sat_star.2 (sat_fact.2 ⟨rfl,H⟩)
theorem Sat.rdsLen {w:World} {L:List Res} {db:Nat} {rbs:List Nat} {rds:List Rd} (H:Sat w (rdrsR db rbs rds::L)):rbs.length=rds.length:=(sat_fact.1 (sat_star.1 H)).1
theorem Sat.rdsIn {w:World} {L:List Res} {rb db sz:Nat} {n:Nm} {s:Rs} {rbs:List Nat} {rds:List Rd} (H:Sat w (rdrR rb db n sz s 0::rdrsR db rbs rds::L)):Sat w (rdrsR db (rbs++[rb]) (rds++[(n,sz,s)])::L):=by
  have H1:=sat_star.1 (H.perm (List.Perm.swap _ _ _))
  obtain ⟨hl,H1⟩:=sat_fact.1 H1
  refine sat_star.2 (sat_fact.2 ⟨by simp [hl],?_⟩)
  have e:rdRows db (rbs++[rb]) (rds++[(n,sz,s)])=rdRows db rbs rds++[rdrR rb db n sz s 0]:=by unfold rdRows;rw [List.zip_append hl];simp
  refine H1.perm ?_
  show (rdRows db rbs rds++(rdrR rb db n sz s 0::L)).Perm (rdRows db (rbs++[rb]) (rds++[(n,sz,s)])++L)
  rw [e,List.append_assoc];exact List.Perm.refl _
theorem rdRows_at {db:Nat} {rbs:List Nat} {rds:List Rd} {i:Nat} (hl:rbs.length=rds.length) (hi:i < rds.length) (x:Rd):rdRows db rbs (rds.set i x)=(rdRows db rbs rds).take i++rdrR (rbs.getD i 0) db x.1 x.2.1 x.2.2 0::(rdRows db rbs rds).drop (i+1):=by
  have e1:rbs.zip (rds.set i x)=(rbs.zip rds).set i (rbs.getD i 0,x):=by
    apply List.ext_getElem
    · simp
    · intro j h1 h2
      simp only [List.getElem_zip,List.getElem_set]
      split
      · rename_i e;subst e
        rw [List.getD_eq_getElem?_getD,List.getElem?_eq_getElem (by omega)];rfl
      · rfl
  unfold rdRows
  rw [e1,List.map_set,List.set_eq_take_append_cons_drop,if_pos (by simp;omega)]
theorem Sat.rdsOut {w:World} {L:List Res} {db:Nat} {rbs:List Nat} {rds:List Rd} {i:Nat} (H:Sat w (rdrsR db rbs rds::L)) (hi:i < rds.length):∃M:Res,Sat w (rdrR (rbs.getD i 0) db (rds.getD i rd0).1 (rds.getD i rd0).2.1 (rds.getD i rd0).2.2 0::M::L)/\
    ∀ (w':World) (L':List Res) (n:Nm) (sz:Nat) (s':Rs),Sat w' (rdrR (rbs.getD i 0) db n sz s' 0::M::L')->Sat w' (rdrsR db rbs (rds.set i (n,sz,s'))::L'):=by
  obtain ⟨hl,H1⟩:=sat_fact.1 (sat_star.1 H)
  have e0:rds=rds.set i (rds.getD i rd0):=by
    rw [List.getD_eq_getElem?_getD,List.getElem?_eq_getElem hi];simp
  refine ⟨star ((rdRows db rbs rds).take i++(rdRows db rbs rds).drop (i+1)),?_,fun w' L' n sz s' H'=>?_⟩
  · have e1:=rdRows_at (db:=db) hl hi (rds.getD i rd0)
    rw [<-e0] at e1
    have H2:Sat w (rdRows db rbs rds++L):=H1
    rw [e1,List.append_assoc,List.cons_append] at H2
    have H3:=H2.perm List.perm_middle
    refine Sat.perm (sat_star.2 ?_) (List.Perm.swap _ _ _)
    rw [<-List.append_assoc] at H3
    exact H3.perm (List.perm_middle (l₁:=_++_)).symm
  · refine sat_star.2 (sat_fact.2 ⟨by simpa using hl,?_⟩)
    have H2:=sat_star.1 (H'.perm (List.Perm.swap _ _ _))
    show Sat w' (rdRows db rbs (rds.set i (n,sz,s'))++L')
    rw [rdRows_at hl hi,List.append_assoc,List.cons_append]
    rw [List.append_assoc] at H2
    refine H2.perm ?_
    refine List.Perm.append_left _ ?_
    exact List.perm_middle
theorem spush_ct (w:World) (fr:List Res) (hb db rb:Nat) (rbs:List Nat) (rds:List Rd) (i:Nat) (A:Option Addr) (c:Nat) (hs:List Hd) (d:Dk.Disk) (hi:1<=i/\i<=rds.length) (hrb:rbs.getD (i - 1) 0=rb) (hro:RdsOk rds) (hc:d.files.length<=4398046511104) (hn:hs.length<=1099511627776) (H:Sat w (blk hb (.cells #[.slice A hs.length c] 199)::row 202 3 (.slice A hs.length c) hs.length (sds rbs hs)::rdrsR db rbs rds::diskR db d::fr)):
    Rt Tryz.prog 131 #[.pointer (some ⟨rb,0,none⟩),.pointer (some ⟨hb,0,none⟩)] w fun v w'=>v=.int .i64 (((Xs.mpush rds i hs d).2.2:Nat):Int)/\(((Xs.mpush rds i hs d).2.2=0/\∃A' c',Sat w' (blk hb (.cells #[.slice A' (Xs.mpush rds i hs d).2.1.2.length c'] 199)::row 202 3 (.slice A' (Xs.mpush rds i hs d).2.1.2.length c') (Xs.mpush rds i hs d).2.1.2.length (sds rbs (Xs.mpush rds i hs d).2.1.2)::rdrsR db rbs (Xs.mpush rds i hs d).2.1.1::diskR db (Xs.mpush rds i hs d).1::fr))\/((Xs.mpush rds i hs d).2.2≠0/\Sat w' (diskR db (Xs.mpush rds i hs d).1::fr))):=by
  refine en2 Tryz.func131 rfl Tryz.ntmps131 rfl fun a S=>?_
  have hrl:=Sat.rdsLen (pk [2,0,1,3] 4 H)
  obtain ⟨M,H,hback⟩:=Sat.rdsOut (i:=i - 1) (pk [2,0,1,3] 4 H) (by omega)
  rw [hrb] at H hback
  replace H:Sat _ (rdrR rb db ((rds.getD (i - 1) rd0).1) ((rds.getD (i - 1) rd0).2.1) ((rds.getD (i - 1) rd0).2.2) 0::M::blk hb (.cells #[.slice A hs.length c] 199)::row 202 3 (.slice A hs.length c) hs.length (sds rbs hs)::diskR db d::fr):=H
  obtain ⟨hRs,hps,hzs⟩:=hro (i - 1) (by omega)
  have hpz:pz rbs i=.pointer (some ⟨rb,0,none⟩):=by
    have:=pz_at (rbs:=rbs) (i:=i - 1) (by omega)
    rwa [show i - 1+1=i from by omega,hrb] at this
  refine sr 1 S H t0 fun a w S H=>?_
  refine sb ?_
  refine rn 1 S H t0 fun a w S H=>?_
  refine r_call (args:=#[.pointer (some ⟨rb,0,none⟩)]) S rfl rfl Tryz.call65 (nextd_ct (H:=(pk [0,4,1,2,3] 5 H)) _ _ rb db ((rds.getD (i - 1) rd0).1) ((rds.getD (i - 1) rd0).2.1) ((rds.getD (i - 1) rd0).2.2) d hRs (hc) (by omega) (hzs)) rfl rfl rfl fun v a w hR S=>?_
  obtain ⟨rfl,H⟩:=hR
  refine rn 4 S H t0 fun a w S H=>?_
  refine r_alloc S H rfl Tryz.zeroValue91 rfl rfl rfl rfl fun a w b1 S H=>?_
  replace H:Sat _ (blk b1 (.cells #[.int .u64 0,.int .u64 0] 91)::rdrR rb db ((rds.getD (i - 1) rd0).1) ((rds.getD (i - 1) rd0).2.1) ((Rn.rnext ((rds.getD (i - 1) rd0).1) ((rds.getD (i - 1) rd0).2.1) ((rds.getD (i - 1) rd0).2.2) d).2.1) ((Rn.rnext ((rds.getD (i - 1) rd0).1) ((rds.getD (i - 1) rd0).2.1) ((rds.getD (i - 1) rd0).2.2) d).2.2.2)::diskR db (Rn.rnext ((rds.getD (i - 1) rd0).1) ((rds.getD (i - 1) rd0).2.1) ((rds.getD (i - 1) rd0).2.2) d).1::M::blk hb (.cells #[.slice A hs.length c] 199)::row 202 3 (.slice A hs.length c) hs.length (sds rbs hs)::fr):=H
  refine rs 3 S H t0 fun a w S H=>?_
  refine r_seq ?_
  rcases hx:(Rn.rnext ((rds.getD (i - 1) rd0).1) ((rds.getD (i - 1) rd0).2.1) ((rds.getD (i - 1) rd0).2.2) d).2.2.1 with _ | r
  · skip
    rw [hx] at S H
    dsimp only [Option.getD,Option.isSome] at S H
    refine sr 1 S H t0 fun a w S H=>?_
    refine r_condF S rfl ?_
    refine wp_skip ?_
    refine x_then ?_
    refine sr 2 S H t0 fun a w S H=>?_
    refine wp_ret ?_
    refine r_ret1 S H Tryz.results131 (ro_tmp S rfl) ?_
    refine ⟨rfl,?_⟩
    by_cases he:(Rn.rnext ((rds.getD (i - 1) rd0).1) ((rds.getD (i - 1) rd0).2.1) ((rds.getD (i - 1) rd0).2.2) d).2.2.2=0
    · skip
      have H:=pk [1,3,4,5,2] 6 H
      rw [he] at H
      have H:=hback _ _ _ _ _ H
      have em:=Xs.mpush_none (hs:=hs) hx
      refine .inl ⟨he,A,c,?_⟩
      rw [em]
      exact pk [1,2,0,3] 4 H
    · exact .inr ⟨he,pk [2] 6 H⟩
  have hx0:=(Xs.rnext_bd hx).2
  rw [hx] at S H
  dsimp only [Option.getD,Option.isSome] at S H
  refine sr 1 S H t0 fun a w S H=>?_
  refine r_condT S rfl ?_
  refine r_region ?_
  refine rn 2 S H t0 fun a w S H=>?_
  refine r_y S H (y_build (vs:=#[(0,.agg #[.int .u64 ((r.1:Nat):Int),.int .u64 ((r.2:Nat):Int)]),(1,.pointer (some ⟨rb,0,none⟩))]) (v:=.agg #[.int .u64 ((r.1:Nat):Int),.int .u64 ((r.2:Nat):Int),.pointer (some ⟨rb,0,none⟩)]) S rfl rfl (fun w=>by kernel_rfl)) rfl rfl rfl fun a S=>?_
  have S:=S.retell (v':=.agg #[.int .u64 ((r.1:Nat):Int),.int .u64 ((r.2:Nat):Int),pz rbs i]) 16 rfl (by rw [hpz])
  refine r_call (args:=#[.pointer (some ⟨hb,0,none⟩),.agg #[.int .u64 ((r.1:Nat):Int),.int .u64 ((r.2:Nat):Int),pz rbs i]]) S rfl rfl Tryz.call132 (push_ct (H:=(pk [4,5,0,1,2,3] 6 H)) _ _ rbs hb _ _ hs (r,i) (by omega)) rfl rfl rfl fun v a w hR S=>?_
  obtain ⟨A4,c5,rfl,H⟩:=hR
  refine r_nil ?_
  refine x_then ?_
  refine sr 2 S H t0 fun a w S H=>?_
  refine wp_ret ?_
  refine r_ret1 S H Tryz.results131 (ro_tmp S rfl) ?_
  refine ⟨rfl,?_⟩
  have H:=pk [3,5,0,1,4] 6 H
  rw [hx0] at H
  have H:=hback _ _ _ _ _ H
  have em:=Xs.mpush_some (hs:=hs) hx
  refine .inl ⟨hx0,A4,c5,?_⟩
  rw [em]
  exact pk [1,2,0,3] 4 H

theorem spush_good (w:World) (fr:List Res) (hb db rb:Nat) (rbs:List Nat) (rds:List Rd) (i:Nat) (A:Option Addr) (c:Nat) (hs:List Hd) (d:Dk.Disk) (hi:1<=i/\i<=rds.length) (hrb:rbs.getD (i - 1) 0=rb) (hro:RdsOk rds) (hc:d.files.length<=4398046511104) (hn:hs.length<=1099511627776) (h0:(Xs.mpush rds i hs d).2.2=0) (H:Sat w (blk hb (.cells #[.slice A hs.length c] 199)::row 202 3 (.slice A hs.length c) hs.length (sds rbs hs)::rdrsR db rbs rds::diskR db d::fr)):
    Rt Tryz.prog 131 #[.pointer (some ⟨rb,0,none⟩),.pointer (some ⟨hb,0,none⟩)] w fun v w'=>∃A' c',v=.int .i64 0/\Sat w' (blk hb (.cells #[.slice A' (Xs.mpush rds i hs d).2.1.2.length c'] 199)::row 202 3 (.slice A' (Xs.mpush rds i hs d).2.1.2.length c') (Xs.mpush rds i hs d).2.1.2.length (sds rbs (Xs.mpush rds i hs d).2.1.2)::rdrsR db rbs (Xs.mpush rds i hs d).2.1.1::diskR db (Xs.mpush rds i hs d).1::fr):=
  Calls.mono (spush_ct w fr hb db rb rbs rds i A c hs d hi hrb hro hc hn H) fun e w' ⟨v,he,hv,hR⟩=>⟨v,he,by
    rcases hR with ⟨_,A',c',h2⟩ | ⟨h1,_⟩
    · exact ⟨A',c',by rw [hv,h0];rfl,h2⟩
    · exact absurd h0 h1⟩
theorem spush_bad (w:World) (fr:List Res) (hb db rb:Nat) (rbs:List Nat) (rds:List Rd) (i:Nat) (A:Option Addr) (c:Nat) (hs:List Hd) (d:Dk.Disk) (hi:1<=i/\i<=rds.length) (hrb:rbs.getD (i - 1) 0=rb) (hro:RdsOk rds) (hc:d.files.length<=4398046511104) (hn:hs.length<=1099511627776) (h0:(Xs.mpush rds i hs d).2.2≠0) (H:Sat w (blk hb (.cells #[.slice A hs.length c] 199)::row 202 3 (.slice A hs.length c) hs.length (sds rbs hs)::rdrsR db rbs rds::diskR db d::fr)):
    Rt Tryz.prog 131 #[.pointer (some ⟨rb,0,none⟩),.pointer (some ⟨hb,0,none⟩)] w fun v w'=>v=.int .i64 (((Xs.mpush rds i hs d).2.2:Nat):Int)/\Sat w' (diskR db (Xs.mpush rds i hs d).1::fr):=
  Calls.mono (spush_ct w fr hb db rb rbs rds i A c hs d hi hrb hro hc hn H) fun e w' ⟨v,he,hv,hR⟩=>⟨v,he,by
    rcases hR with ⟨h1,_⟩ | ⟨_,h2⟩
    · exact absurd h1 h0
    · exact ⟨hv,h2⟩⟩
end Go.Proofs.YtoffbmhmocfmnaaGreatDoor
namespace Go.Proofs.YtoffbmhmocfmnaaGreatDoor
open Go.RowKit Go.Cg
set_option linter.unusedVariables false
set_option linter.unusedSimpArgs false
set_option maxRecDepth 8000
set_option synthInstance.maxHeartbeats 1000000
set_option synthInstance.maxSize 1000000
open Go.Cg.Dk (By Nm)
open Go.Cg.Rn (R Bd Rs RsOk RsFit Hd hd0)
open Go.Cg.Xs (Tm Rd rd0 RdsOk HBd)
/-- the last record, by its address, if there is one -/
def lastR (lv:Value):Option R->Res
  | none=>fact (lv=.pointer none)
  | some z=>ex fun p:Nat×Value=>star [fact (lv=.pointer (some ⟨p.1,0,none⟩)),blk p.1 (.cells #[.int .u64 ((z.1:Nat):Int),.int .u64 ((z.2:Nat):Int),p.2] 202)]
theorem Sat.lastNo {w:World} {L:List Res} (H:Sat w L):Sat w (lastR (.pointer none) none::L):=sat_fact.2 ⟨rfl,H⟩
theorem Sat.lastNone {w:World} {L:List Res} {lv:Value} (H:Sat w (lastR lv none::L)):lv=.pointer none/\Sat w L:=sat_fact.1 H
theorem Sat.lastSome {w:World} {L:List Res} {lv:Value} {z:R} (H:Sat w (lastR lv (some z)::L)):∃lb q,lv=.pointer (some ⟨lb,0,none⟩)/\Sat w (blk lb (.cells #[.int .u64 ((z.1:Nat):Int),.int .u64 ((z.2:Nat):Int),q] 202)::L):=by
  obtain ⟨⟨lb,q⟩,H⟩:=sat_ex.1 H
  obtain ⟨h,H⟩:=sat_fact.1 (sat_star.1 H)
  exact ⟨lb,q,h,H⟩
theorem Sat.lastIn {w:World} {L:List Res} {lb:Nat} {q:Value} (z:R) (H:Sat w (blk lb (.cells #[.int .u64 ((z.1:Nat):Int),.int .u64 ((z.2:Nat):Int),q] 202)::L)):Sat w (lastR (.pointer (some ⟨lb,0,none⟩)) (some z)::L):=
  sat_ex.2 ⟨(lb,q),sat_star.2 (sat_fact.2 ⟨rfl,H⟩)⟩
theorem getD_last {l:List Nat} {n b:Nat} (h:l.length=n):(l++[b]).getD (n+1 - 1) 0=b:=by
  subst h;simp
theorem comb_lt' {how:Int} {a b:Nat} (ha:a < 18446744073709551616) (hb:b < 18446744073709551616):Rn.comb how a b < 18446744073709551616:=by
  unfold Rn.comb;split<;>omega
theorem last_cases (last:Option R) (how:Int) (k:Nat):last=none\/(∃z,last=some z/\how=0)\/(∃z,last=some z/\how≠0/\z.1=k)\/(∃z,last=some z/\how≠0/\¬ z.1=k):=by
  cases last with
  | none=>exact .inl rfl
  | some z=>by_cases h:how=0<;>by_cases h1:z.1=k<;>simp [h,h1]
theorem smerge_ct (w:World) (fr:List Res) (zb db:Nat) (temp:Nm) (fan:Nat) (how:Int) (tm:Tm) (A:Option Addr) (c:Nat) (ns:List Nm) (ok:SlOk fr 1 A ns.length c (strs ns)) (out:Nm) (d:Dk.Disk) (hc:d.files.length<=4398046510000/\ns.length<=1099511627776) (H:Sat w (srtR zb db temp fan how tm::diskR db d::fr)):
    Rt Tryz.prog 103 #[.pointer (some ⟨zb,0,none⟩),.slice A ns.length c,str (out)] w fun v w'=>v=.int .i64 (((Xs.merge how out ns d).2:Nat):Int)/\Sat w' (srtR zb db temp fan how tm::diskR db (Xs.merge how out ns d).1::fr):=by
  refine en3 Tryz.func103 rfl Tryz.ntmps103 rfl fun a S=>?_
  have hdok:=Sat.diskOk (pk [1,0] 2 H)
  have hl1:=ok.le
  have hl2:=ok.cap
  simp only [maxLen] at hl2
  obtain ⟨Am1,cm2,H⟩:=Sat.openS (H)
  replace H:Sat _ (blk zb (.cells #[.pointer (some ⟨db,0,none⟩),str (temp),.int .i64 ((fan:Nat):Int),.int .i64 how,.int .i64 ((tm.1:Nat):Int),.slice Am1 tm.2.length cm2] 144)::row 9 1 (.slice Am1 tm.2.length cm2) tm.2.length (strs tm.2)::diskR db d::fr):=H
  refine sr 1 S H t0 fun a w S H=>?_
  refine sb ?_
  refine r_alloc S H rfl Tryz.zeroValue199 rfl rfl rfl rfl fun a w b3 S H=>?_
  replace H:Sat _ (blk b3 (.cells #[.slice none 0 0] 199)::blk zb (.cells #[.pointer (some ⟨db,0,none⟩),str (temp),.int .i64 ((fan:Nat):Int),.int .i64 how,.int .i64 ((tm.1:Nat):Int),.slice Am1 tm.2.length cm2] 144)::row 9 1 (.slice Am1 tm.2.length cm2) tm.2.length (strs tm.2)::diskR db d::fr):=H
  refine sn ?_
  refine sb ?_
  refine r_y S H (y_makeFunc (vs:=#[.pointer (some ⟨b3,0,none⟩)]) S rfl rfl) rfl rfl rfl fun a S=>?_
  refine rs 1 S H t0 fun a w S H=>?_
  refine r_seq ?_
  refine sr 3 S H t0 fun a w S H=>?_
  refine r_block ?_
  have H:=H.nilRow 202 3
  have H:=Sat.noRds db H
  refine r_loop (ι:=Nat×List Nat×List Rd×List Hd×Dk.Disk×Option Addr×Nat) (fun ⟨i,rbs,rds,hs,dd,Ah,ch⟩ a w=>Slots a 132 [(0,.pointer (some ⟨zb,0,none⟩)),(2,str (out)),(7,.pointer (some ⟨b3,0,none⟩)),(8,.func (.func 131) #[] #[.pointer (some ⟨b3,0,none⟩)]),(22,.slice A ns.length c),(23,.int .i64 ((ns.length:Nat):Int)),(24,.int .i64 ((i:Nat):Int)),(132,undef)]/\Sat w (blk b3 (.cells #[.slice Ah hs.length ch] 199)::row 202 3 (.slice Ah hs.length ch) hs.length (sds rbs hs)::rdrsR db rbs rds::diskR db dd::blk zb (.cells #[.pointer (some ⟨db,0,none⟩),str (temp),.int .i64 ((fan:Nat):Int),.int .i64 how,.int .i64 ((tm.1:Nat):Int),.slice Am1 tm.2.length cm2] 144)::row 9 1 (.slice Am1 tm.2.length cm2) tm.2.length (strs tm.2)::fr)/\(i<=ns.length/\Xs.mopen (ns.drop i) rds hs dd=(Xs.mopen ns [] [] d)/\rds.length=i/\rbs.length=i/\RdsOk rds/\HBd i hs/\hs.length<=i/\dd.files.length=d.files.length)) (fun ⟨i,rbs,rds,hs,dd,Ah,ch⟩=>ns.length - i) (0,[],[],[],d,none,0) ⟨S.sub ⟨rfl,rfl,rfl,rfl,rfl,rfl,rfl,rfl,trivial⟩,pk [2,1,0,5,3,4] 6 H,⟨Nat.zero_le _,rfl,rfl,rfl,RdsOk.nil,HBd.nil _,Nat.le_refl _,rfl⟩⟩ (fun ⟨i,rbs,rds,hs,dd,Ah,ch⟩ a w hI=>?_)
  obtain ⟨S,H,hI⟩:=hI
  obtain ⟨hil,hT,hrl,hbl,hro,hHB,hhl,hdf⟩:=hI
  refine sr 1 S H t0 fun a w S H=>?_
  refine r_seq ?_
  refine r_test S rfl (fun h25=>?_) (fun h25=>?_)
  · skip
    refine wp_skip ?_
    refine x_then ?_
    refine r_seq ?_
    refine r_block ?_
    obtain ⟨gb,go,rfl⟩:=ok.addr H.drop.drop.drop.drop.drop.drop (by omega)
    refine sb ?_
    refine r_y S H (y_index S rfl rfl rfl Tryz.underlying46 Tryz.sizeOf9 (by omega) (by omega)) rfl rfl rfl fun a S=>?_
    refine r_y S H (y_loadAt S rfl rfl Tryz.isAgg9 (fun w H=>((((((ok.more _).more _).more _).more _).more _).more _).cell w H (strs_at (i:=i) (by first | omega | (simp<;>omega))))) rfl rfl rfl fun a S=>?_
    refine rs 1 S H t0 fun a w S H=>?_
    have hdk2:=Sat.diskOk (pk [3,0,1,2,4,5] 6 H)
    have hsz:=Dk.size_le hdk2 (ns.getD i [])
    rcases Nat.eq_zero_or_pos (Dk.Disk.size (ns.getD i []) dd).2.2 with hz0 | hz0
    · skip
      refine sb ?_
      refine rn 5 S H t0 fun a w S H=>?_
      refine r_call (args:=#[.pointer (some ⟨db,0,none⟩),str (ns.getD i [])]) S rfl rfl Tryz.call36 (newrd_ct (H:=(pk [3,0,1,2,4,5] 6 H)) _ _ db (ns.getD i []) dd (by omega) (by omega)) rfl rfl rfl fun v a w hR S=>?_
      obtain ⟨b4,rfl,H⟩:=hR
      refine rs 5 S H t0 fun a w S H=>?_
      refine r_seq ?_
      refine sb ?_
      refine rn 1 S H t0 fun a w S H=>?_
      refine r_y S H (y_eq S rfl rfl rfl) rfl rfl rfl fun a S=>?_
      have S:=S.retell (v':=.bool true) 38 rfl (by rw [decide_eq_true (by omega)])
      refine sn ?_
      refine r_condT S rfl ?_
      have H:=Sat.rdsIn ((pk [0,4,1,2,3,5,6] 7 H))
      have hmore:=sds_more (rbs:=rbs) (b:=b4) (l:=hs) (fun x hx=>by have:=(hHB.bd x hx).1.2;omega)
      rw [<-hmore] at H
      replace H:Sat _ (rdrsR db (rbs++[b4]) (rds++[((ns.getD i []),(Dk.Disk.size (ns.getD i []) dd).2.1,(0,[],false))])::diskR db (Dk.Disk.size (ns.getD i []) dd).1::blk b3 (.cells #[.slice Ah hs.length ch] 199)::row 202 3 (.slice Ah hs.length ch) hs.length (sds (rbs++[b4]) hs)::blk zb (.cells #[.pointer (some ⟨db,0,none⟩),str (temp),.int .i64 ((fan:Nat):Int),.int .i64 how,.int .i64 ((tm.1:Nat):Int),.slice Am1 tm.2.length cm2] 144)::row 9 1 (.slice Am1 tm.2.length cm2) tm.2.length (strs tm.2)::fr):=H
      have hro1:=hro.snoc (n:=(ns.getD i [])) (sz:=(Dk.Disk.size (ns.getD i []) dd).2.1) (by omega)
      have hcs0:=Dk.len_size dd (ns.getD i [])
      rcases Nat.eq_zero_or_pos (Xs.mpush (rds++[((ns.getD i []),(Dk.Disk.size (ns.getD i []) dd).2.1,(0,[],false))]) (rds.length+1) hs (Dk.Disk.size (ns.getD i []) dd).1).2.2 with hpg | hpg
      · skip
        refine r_region ?_
        refine rn 2 S H t0 fun a w S H=>?_
        refine r_callV (args:=#[.pointer (some ⟨b4,0,none⟩)]) S rfl rfl rfl Tryz.call131 (spush_good (H:=(pk [2,3,0,1,4,5] 6 H)) _ _ b3 db b4 (rbs++[b4]) (rds++[((ns.getD i []),(Dk.Disk.size (ns.getD i []) dd).2.1,(0,[],false))]) (rds.length+1) _ _ hs ((Dk.Disk.size (ns.getD i []) dd).1) ((by simp)) (getD_last (by omega)) hro1 ((by omega)) (by omega) hpg) rfl rfl rfl fun v a w hR S=>?_
        obtain ⟨A5,c6,rfl,H⟩:=hR
        refine rn 1 S H t0 fun a w S H=>?_
        refine r_nil ?_
        refine x_then ?_
        refine sr 2 S H t0 fun a w S H=>?_
        have S:=S.retell (v':=.bool false) 43 rfl rfl
        refine r_condF S rfl ?_
        refine wp_skip ?_
        refine x_blockEnd ?_
        refine x_then ?_
        refine er 2 S H (by omega) fun a w S H=>?_
        refine x_then ?_
        have hT2:=hT
        rw [dropN (by omega),Xs.mopen_one hz0 hpg] at hT2
        have hpc:=Xs.mpush_cnt (rds++[((ns.getD i []),(Dk.Disk.size (ns.getD i []) dd).2.1,(0,[],false))]) (rds.length+1) hs (Dk.Disk.size (ns.getD i []) dd).1
        have hcs:=Dk.len_size dd (ns.getD i [])
        obtain ⟨hb1,hb2⟩:=(hHB.more (Nat.le_succ i)).push (rds:=(rds++[((ns.getD i []),(Dk.Disk.size (ns.getD i []) dd).2.1,(0,[],false))])) (i:=rds.length+1) (d:=(Dk.Disk.size (ns.getD i []) dd).1) (by omega)
        have hro2:=hro1.push (rds.length+1) hs (Dk.Disk.size (ns.getD i []) dd).1
        have H:=H
        exact ⟨(i+1,rbs++[b4],(Xs.mpush (rds++[((ns.getD i []),(Dk.Disk.size (ns.getD i []) dd).2.1,(0,[],false))]) (rds.length+1) hs (Dk.Disk.size (ns.getD i []) dd).1).2.1.1,(Xs.mpush (rds++[((ns.getD i []),(Dk.Disk.size (ns.getD i []) dd).2.1,(0,[],false))]) (rds.length+1) hs (Dk.Disk.size (ns.getD i []) dd).1).2.1.2,(Xs.mpush (rds++[((ns.getD i []),(Dk.Disk.size (ns.getD i []) dd).2.1,(0,[],false))]) (rds.length+1) hs (Dk.Disk.size (ns.getD i []) dd).1).1,A5,c6),⟨S.sub ⟨rfl,rfl,rfl,rfl,rfl,rfl,rfl,rfl,trivial⟩,H,⟨by omega,hT2,by rw [Xs.mpush_rlen];simp;omega,by simp;omega,hro2,hb1,by omega,by omega⟩⟩,by show ns.length - (i+1) < ns.length - i;omega⟩
      have hpg:(Xs.mpush (rds++[((ns.getD i []),(Dk.Disk.size (ns.getD i []) dd).2.1,(0,[],false))]) (rds.length+1) hs (Dk.Disk.size (ns.getD i []) dd).1).2.2≠0:=by omega
      refine r_region ?_
      refine rn 2 S H t0 fun a w S H=>?_
      refine r_callV (args:=#[.pointer (some ⟨b4,0,none⟩)]) S rfl rfl rfl Tryz.call131 (spush_bad (H:=(pk [2,3,0,1,4,5] 6 H)) _ _ b3 db b4 (rbs++[b4]) (rds++[((ns.getD i []),(Dk.Disk.size (ns.getD i []) dd).2.1,(0,[],false))]) (rds.length+1) _ _ hs ((Dk.Disk.size (ns.getD i []) dd).1) ((by simp)) (getD_last (by omega)) hro1 ((by omega)) (by omega) hpg) rfl rfl rfl fun v a w hR S=>?_
      obtain ⟨rfl,H⟩:=hR
      refine rn 1 S H t0 fun a w S H=>?_
      refine r_nil ?_
      refine x_then ?_
      refine sr 2 S H t0 fun a w S H=>?_
      refine r_test S rfl (fun h43=>?_) (fun h43=>?_)
      · skip
        refine sr 2 S H t0 fun a w S H=>?_
        refine wp_ret ?_
        refine x_blockRet ?_
        refine x_thenRet ?_
        refine x_thenRet ?_
        refine x_blockRet ?_
        refine x_thenRet ?_
        refine r_ret1 S H Tryz.results103 (ro_tmp S rfl) ?_
        have hT2:=hT
        rw [dropN (by omega),Xs.mopen_b2 hz0 hpg] at hT2
        have hmb:=Xs.merge_b1 (how:=how) (out:=out) (ns:=ns) (d:=d) (by rw [<-hT2];exact hpg)
        rw [hmb,<-hT2]
        exact ⟨rfl,Sat.shutS tm (pk [1,2,0] 3 H)⟩
      exfalso;omega
    refine sb ?_
    refine rn 5 S H t0 fun a w S H=>?_
    refine r_call (args:=#[.pointer (some ⟨db,0,none⟩),str (ns.getD i [])]) S rfl rfl Tryz.call36 (newrbad_ct (H:=(pk [3,0,1,2,4,5] 6 H)) _ _ db (ns.getD i []) dd (by omega) (by omega)) rfl rfl rfl fun v a w hR S=>?_
    obtain ⟨rfl,H⟩:=hR
    refine rs 5 S H t0 fun a w S H=>?_
    refine r_seq ?_
    refine sb ?_
    refine rn 1 S H t0 fun a w S H=>?_
    refine r_y S H (y_eq S rfl rfl rfl) rfl rfl rfl fun a S=>?_
    have S:=S.retell (v':=.bool false) 38 rfl (by rw [decide_eq_false (by omega)])
    refine sn ?_
    refine r_condF S rfl ?_
    refine wp_skip ?_
    refine x_then ?_
    refine sr 2 S H t0 fun a w S H=>?_
    refine r_test S rfl (fun h43=>?_) (fun h43=>?_)
    · skip
      refine sr 2 S H t0 fun a w S H=>?_
      refine wp_ret ?_
      refine x_blockRet ?_
      refine x_thenRet ?_
      refine x_thenRet ?_
      refine x_blockRet ?_
      refine x_thenRet ?_
      refine r_ret1 S H Tryz.results103 (ro_tmp S rfl) ?_
      have hT2:=hT
      rw [dropN (by omega),Xs.mopen_b1 (by omega)] at hT2
      have hmb:=Xs.merge_b1 (how:=how) (out:=out) (ns:=ns) (d:=d) (by rw [<-hT2];show (Dk.Disk.size (ns.getD i []) dd).2.2≠0;omega)
      rw [hmb,<-hT2]
      exact ⟨rfl,Sat.shutS tm (pk [4,5,0] 6 H)⟩
    exfalso;omega
  refine wp_exit ?_
  refine x_thenExit ?_
  refine x_thenExit ?_
  refine x_blockHere ?_
  refine x_then ?_
  have hi:i=ns.length:=by omega
  rw [hi,List.drop_length] at hT
  have hM:(Xs.mopen ns [] [] d)=(dd,(rds,hs),0):=hT.symm
  rcases Nat.eq_zero_or_pos (Dk.Disk.create out dd).2 with hcr | hcr
  · skip
    refine sb ?_
    refine rn 5 S H t0 fun a w S H=>?_
    refine r_call (args:=#[.pointer (some ⟨db,0,none⟩),str (out)]) S rfl rfl Tryz.call80 (neww_ct (H:=(pk [3,0,1,2,4,5] 6 H)) _ _ db out dd (by omega) (by omega)) rfl rfl rfl fun v a w hR S=>?_
    obtain ⟨b7,rfl,H⟩:=hR
    refine rs 5 S H t0 fun a w S H=>?_
    refine r_seq ?_
    refine sr 2 S H t0 fun a w S H=>?_
    have S:=S.retell (v':=.bool false) 56 rfl rfl
    refine r_condF S rfl ?_
    refine wp_skip ?_
    refine x_then ?_
    refine sr 1 S H t0 fun a w S H=>?_
    refine r_seq ?_
    refine sb ?_
    refine r_call (args:=#[.pointer (some ⟨b3,0,none⟩)]) S rfl rfl Tryz.call133 (pop_ct (H:=(pk [3,4,0,1,2,5,6,7] 8 H)) _ _ rbs b3 _ _ hs (by omega)) rfl rfl rfl fun v a w hR S=>?_
    obtain ⟨A8,c9,rfl,H⟩:=hR
    refine rn 3 S H t0 fun a w S H=>?_
    refine r_alloc S H rfl Tryz.zeroValue202 rfl rfl rfl rfl fun a w b10 S H=>?_
    replace H:Sat _ (blk b10 (.cells #[.int .u64 0,.int .u64 0,.pointer none] 202)::blk b3 (.cells #[.slice A8 ((Sn.hpop hs).length) c9] 199)::row 202 3 (.slice A8 ((Sn.hpop hs).length) c9) ((Sn.hpop hs).length) (sds rbs (Sn.hpop hs))::blk b7 (.cells #[.pointer (some ⟨db,0,none⟩),str (out),.slice none 0 0,.bool false] 158)::row 5 1 (.slice none 0 0) 0 (u8s ([]))::diskR db (Dk.Disk.create out dd).1::rdrsR db rbs rds::blk zb (.cells #[.pointer (some ⟨db,0,none⟩),str (temp),.int .i64 ((fan:Nat):Int),.int .i64 how,.int .i64 ((tm.1:Nat):Int),.slice Am1 tm.2.length cm2] 144)::row 9 1 (.slice Am1 tm.2.length cm2) tm.2.length (strs tm.2)::fr):=H
    refine rs 2 S H t0 fun a w S H=>?_
    refine r_block ?_
    have H:=Sat.lastNo H
    have hmg:=Xs.merge_g (how:=how) (out:=out) (ns:=ns) (d:=d) (by rw [hM]) (by rw [hM];exact hcr)
    rw [hM] at hmg
    have hcc:=Dk.len_create dd out
    refine r_loop (ι:=Nat×List Rd×List Hd×Option R×Value×By×Dk.Disk×Nat×Option Addr×Nat×Option Addr×Nat) (fun ⟨k,rds,hs,last,lv,t,dd,xb,Ah,ch,At,ct⟩ a w=>Slots a 132 [(0,.pointer (some ⟨zb,0,none⟩)),(7,.pointer (some ⟨b3,0,none⟩)),(8,.func (.func 131) #[] #[.pointer (some ⟨b3,0,none⟩)]),(13,.pointer (some ⟨b7,0,none⟩)),(15,lv),(16,.pointer (some ⟨xb,0,none⟩)),(17,.bool (decide (0 < hs.length))),(132,undef)]/\Sat w (blk b3 (.cells #[.slice Ah ((Sn.hpop hs).length) ch] 199)::row 202 3 (.slice Ah ((Sn.hpop hs).length) ch) ((Sn.hpop hs).length) (sds rbs (Sn.hpop hs))::rdrsR db rbs rds::diskR db dd::blk b7 (.cells #[.pointer (some ⟨db,0,none⟩),str (out),.slice At t.length ct,.bool false] 158)::row 5 1 (.slice At t.length ct) t.length (u8s t)::blk xb (.cells #[.int .u64 (((hs.getD 0 hd0).1.1:Nat):Int),.int .u64 (((hs.getD 0 hd0).1.2:Nat):Int),pz rbs (hs.getD 0 hd0).2] 202)::lastR lv last::blk zb (.cells #[.pointer (some ⟨db,0,none⟩),str (temp),.int .i64 ((fan:Nat):Int),.int .i64 how,.int .i64 ((tm.1:Nat):Int),.slice Am1 tm.2.length cm2] 144)::row 9 1 (.slice Am1 tm.2.length cm2) tm.2.length (strs tm.2)::fr)/\(Xs.mloop how out k rds hs last t dd=(Xs.merge how out ns d)/\Xs.mleft rds hs < k/\RdsOk rds/\HBd rds.length hs/\rds.length=ns.length/\hs.length<=ns.length/\t.length < 800/\dd.files.length<=d.files.length+1/\∀ z,last=some z->z.1 < 18446744073709551616/\z.2 < 18446744073709551616)) (fun ⟨k,rds,hs,last,lv,t,dd,xb,Ah,ch,At,ct⟩=>Xs.mleft rds hs) (Xs.mleft rds hs+1,rds,hs,none,.pointer none,[],(Dk.Disk.create out dd).1,b10,A8,c9,none,0) ⟨S.sub ⟨rfl,rfl,rfl,rfl,rfl,rfl,rfl,rfl,trivial⟩,pk [2,3,7,6,4,5,1,0,8,9] 10 H,⟨hmg.symm,Nat.lt_succ_self _,hro,by rw [hrl];exact hHB,by omega,by omega,by simp,by omega,fun z h=>by cases h⟩⟩ (fun ⟨k,rds,hs,last,lv,t,dd,xb,Ah,ch,At,ct⟩ a w hI=>?_)
    obtain ⟨S,H,hI⟩:=hI
    obtain ⟨hT,hkf,hro,hHB,hrl,hhl,htl,hdf,hzb⟩:=hI
    obtain ⟨k,rfl⟩:∃j,k=j+1:=⟨k - 1,by omega⟩
    refine r_seq ?_
    refine sr 1 S H t0 fun a w S H=>?_
    refine r_test S rfl (fun h62=>?_) (fun h62=>?_)
    · skip
      refine wp_skip ?_
      refine x_then ?_
      refine r_seq ?_
      refine r_block ?_
      refine r_seq ?_
      have hne:hs≠[]:=List.length_pos_iff.1 h62
      have hpopf:=hHB.pop hne
      have hpl0:=Sn.hpop_len hs
      have hx3:(hs.getD 0 hd0).1.1 < 18446744073709551616/\(hs.getD 0 hd0).1.2 < 18446744073709551616:=hpopf.2.2
      obtain ⟨rb,hrb⟩:∃y,rbs.getD ((hs.getD 0 hd0).2 - 1) 0=y:=⟨_,rfl⟩
      have hx1:1<=(hs.getD 0 hd0).2/\(hs.getD 0 hd0).2<=rds.length:=hpopf.2.1
      have hpz:pz rbs (hs.getD 0 hd0).2=.pointer (some ⟨rb,0,none⟩):=by have:=pz_at (rbs:=rbs) (i:=(hs.getD 0 hd0).2 - 1) (by omega);rwa [show (hs.getD 0 hd0).2 - 1+1=(hs.getD 0 hd0).2 from by omega,hrb] at this
      rcases Nat.eq_zero_or_pos (Xs.mpush rds (hs.getD 0 hd0).2 (Sn.hpop hs) dd).2.2 with hpg | hpg
      · skip
        obtain ⟨hb1,hb2⟩:=hpopf.1.push (rds:=rds) (d:=dd) hpopf.2.1
        replace hb2:(Xs.mpush rds (hs.getD 0 hd0).2 (Sn.hpop hs) dd).2.1.2.length<=(Sn.hpop hs).length+1:=hb2
        have hpc:(Xs.mpush rds (hs.getD 0 hd0).2 (Sn.hpop hs) dd).1.files.length=dd.files.length:=Xs.mpush_cnt rds (hs.getD 0 hd0).2 (Sn.hpop hs) dd
        refine sb ?_
        refine rn 2 S H t0 fun a w S H=>?_
        refine r_y S H (y_load 6 S rfl rfl Tryz.isAgg79 rfl rfl) rfl rfl rfl fun a S=>?_
        have S:=S.retell (v':=.pointer (some ⟨rb,0,none⟩)) 69 rfl (show pz rbs (hs.getD 0 hd0).2=_ from hpz)
        refine r_callV (args:=#[.pointer (some ⟨rb,0,none⟩)]) S rfl rfl rfl Tryz.call131 (spush_good (H:=H) _ _ b3 db rb rbs rds ((hs.getD 0 hd0).2) _ _ (Sn.hpop hs) dd ((by omega)) hrb hro ((by omega)) (by omega) hpg) rfl rfl rfl fun v a w hR S=>?_
        obtain ⟨A11,c12,rfl,H⟩:=hR
        refine rs 1 S H t0 fun a w S H=>?_
        refine sr 2 S H t0 fun a w S H=>?_
        have S:=S.retell (v':=.bool false) 72 rfl rfl
        refine r_condF S rfl ?_
        refine wp_skip ?_
        refine x_then ?_
        refine r_seq ?_
        rcases last_cases last how (hs.getD 0 hd0).1.1 with rfl | ⟨z,rfl,hw⟩ | ⟨z,rfl,hw,hk1⟩ | ⟨z,rfl,hw,hk1⟩
        · skip
          obtain ⟨hlv,H9⟩:=Sat.lastNone ((pk [7,0,1,2,3,4,5,6,8,9] 10 H))
          clear H
          subst hlv
          have H:=H9
          refine qr 19 S H t0 fun a w S H=>?_
          refine r_condF S rfl ?_
          refine wp_skip ?_
          refine x_then ?_
          refine r_seq ?_
          refine sr 2 S H t0 fun a w S H=>?_
          refine r_condF S rfl ?_
          refine wp_skip ?_
          refine x_then ?_
          refine er 2 S H t0 fun a w S H=>?_
          refine x_blockEnd ?_
          refine x_then ?_
          refine r_seq ?_
          refine sr 1 S H t0 fun a w S H=>?_
          refine r_region ?_
          refine r_alloc S H rfl Tryz.zeroValue202 rfl rfl rfl rfl fun a w b13 S H=>?_
          replace H:Sat _ (blk b13 (.cells #[.int .u64 0,.int .u64 0,.pointer none] 202)::blk b3 (.cells #[.slice A11 ((Xs.mpush rds ((hs.getD 0 hd0).2) (Sn.hpop hs) dd).2.1.2.length) c12] 199)::row 202 3 (.slice A11 ((Xs.mpush rds ((hs.getD 0 hd0).2) (Sn.hpop hs) dd).2.1.2.length) c12) ((Xs.mpush rds ((hs.getD 0 hd0).2) (Sn.hpop hs) dd).2.1.2.length) (sds rbs ((Xs.mpush rds ((hs.getD 0 hd0).2) (Sn.hpop hs) dd).2.1.2))::rdrsR db rbs (Xs.mpush rds ((hs.getD 0 hd0).2) (Sn.hpop hs) dd).2.1.1::diskR db (Xs.mpush rds ((hs.getD 0 hd0).2) (Sn.hpop hs) dd).1::blk b7 (.cells #[.pointer (some ⟨db,0,none⟩),str (out),.slice At t.length ct,.bool false] 158)::row 5 1 (.slice At t.length ct) t.length (u8s t)::blk xb (.cells #[.int .u64 (((hs.getD 0 hd0).1.1:Nat):Int),.int .u64 (((hs.getD 0 hd0).1.2:Nat):Int),pz rbs (hs.getD 0 hd0).2] 202)::blk zb (.cells #[.pointer (some ⟨db,0,none⟩),str (temp),.int .i64 ((fan:Nat):Int),.int .i64 how,.int .i64 ((tm.1:Nat):Int),.slice Am1 tm.2.length cm2] 144)::row 9 1 (.slice Am1 tm.2.length cm2) tm.2.length (strs tm.2)::fr):=H
          refine rn 1 S H t0 fun a w S H=>?_
          refine r_nil ?_
          refine x_then ?_
          refine r_region ?_
          refine r_call (args:=#[.pointer (some ⟨b3,0,none⟩)]) S rfl rfl Tryz.call133 (pop_ct (H:=(pk [1,2,0,3,4,5,6,7,8,9] 10 H)) _ _ rbs b3 _ _ ((Xs.mpush rds ((hs.getD 0 hd0).2) (Sn.hpop hs) dd).2.1.2) (by omega)) rfl rfl rfl fun v a w hR S=>?_
          obtain ⟨A14,c15,rfl,H⟩:=hR
          refine rn 5 S H t0 fun a w S H=>?_
          refine r_nil ?_
          refine x_then ?_
          have hct:=hT.symm.trans (Xs.mloop_first hne hpg)
          have hlt:Xs.mleft (Xs.mpush rds (hs.getD 0 hd0).2 (Sn.hpop hs) dd).2.1.1 (Xs.mpush rds (hs.getD 0 hd0).2 (Sn.hpop hs) dd).2.1.2 < Xs.mleft rds hs:=Xs.mleft_lt (d:=dd) hro hHB hne
          have hro2:=hro.push (hs.getD 0 hd0).2 (Sn.hpop hs) dd
          have H:=Sat.lastIn (hs.getD 0 hd0).1 (pk [7,0,1,3,4,5,6,2,8,9] 10 H)
          have H:=pk [1,2,3,4,5,6,7,0,8,9] 10 H
          exact ⟨(k,(Xs.mpush rds (hs.getD 0 hd0).2 (Sn.hpop hs) dd).2.1.1,(Xs.mpush rds (hs.getD 0 hd0).2 (Sn.hpop hs) dd).2.1.2,some (hs.getD 0 hd0).1,_,t,(Xs.mpush rds (hs.getD 0 hd0).2 (Sn.hpop hs) dd).1,b13,A14,c15,At,ct),⟨S.sub ⟨rfl,rfl,rfl,rfl,rfl,rfl,rfl,rfl,trivial⟩,H,⟨hct.symm,by omega,hro2,by rw [Xs.mpush_rlen];exact hb1,by rw [Xs.mpush_rlen];exact hrl,by omega,htl,by omega,fun y hy=>by (cases hy;exact hpopf.2.2)⟩⟩,hlt⟩
        · skip
          obtain ⟨lb16,q17,hlv,H9⟩:=Sat.lastSome ((pk [7,0,1,2,3,4,5,6,8,9] 10 H))
          clear H
          subst hlv
          have H:=H9
          have hzz:=hzb z rfl
          apply qb H rfl (by kernel_rfl)
          · skip
            refine qn 7 S t0 fun a S=>?_
            refine q_y S (y_ne S rfl rfl rfl) rfl rfl rfl fun a S=>?_
            have S:=S.retell (v':=.bool false) 81 rfl (by rw [decide_eq_false (by omega)])
            refine qn 11 S t0 fun a S=>?_
            exact q_nil S
          · intro a w S H
            refine r_condF S rfl ?_
            refine wp_skip ?_
            refine x_then ?_
            refine r_seq ?_
            refine sr 2 S H t0 fun a w S H=>?_
            refine r_condT S rfl ?_
            refine sb ?_
            refine rn 4 S H t0 fun a w S H=>?_
            refine r_call (args:=#[.pointer (some ⟨b7,0,none⟩),.agg #[.int .u64 ((z.1:Nat):Int),.int .u64 ((z.2:Nat):Int)]]) S rfl rfl Tryz.call82 (wput_ct (H:=(pk [5,6,4,0,1,2,3,7,8,9] 10 H)) _ _ b7 db out z _ _ t ((Xs.mpush rds ((hs.getD 0 hd0).2) (Sn.hpop hs) dd).1) (by omega) (htl) hzz) rfl rfl rfl fun v a w hR S=>?_
            obtain ⟨A18,c19,rfl,H⟩:=hR
            refine rs 1 S H t0 fun a w S H=>?_
            refine sr 2 S H t0 fun a w S H=>?_
            refine r_test S rfl (fun h116=>?_) (fun h116=>?_)
            · skip
              refine sr 2 S H t0 fun a w S H=>?_
              refine wp_ret ?_
              refine x_thenRet ?_
              refine x_blockRet ?_
              refine x_thenRet ?_
              refine x_thenRet ?_
              refine x_blockRet ?_
              refine x_thenRet ?_
              refine r_ret1 S H Tryz.results103 (ro_tmp S rfl) ?_
              have hct:=hT.symm.trans (Xs.mloop_wbad hne hpg (fun h=>h.1 hw) (show (Rn.wput out z t (Xs.mpush rds (hs.getD 0 hd0).2 (Sn.hpop hs) dd).1).2.2≠0 by omega))
              rw [hct]
              exact ⟨rfl,Sat.shutS tm (pk [8,9,2] 10 H)⟩
            refine wp_skip ?_
            refine x_then ?_
            have hw0:(Rn.wput out z t (Xs.mpush rds (hs.getD 0 hd0).2 (Sn.hpop hs) dd).1).2.2=0:=by omega
            refine er 2 S H t0 fun a w S H=>?_
            refine x_blockEnd ?_
            refine x_then ?_
            refine r_seq ?_
            refine sr 1 S H t0 fun a w S H=>?_
            refine r_region ?_
            refine r_alloc S H rfl Tryz.zeroValue202 rfl rfl rfl rfl fun a w b20 S H=>?_
            replace H:Sat _ (blk b20 (.cells #[.int .u64 0,.int .u64 0,.pointer none] 202)::blk b7 (.cells #[.pointer (some ⟨db,0,none⟩),str (out),.slice A18 ((Rn.wput out z t ((Xs.mpush rds ((hs.getD 0 hd0).2) (Sn.hpop hs) dd).1)).2.1.length) c19,.bool (decide ((Rn.wput out z t ((Xs.mpush rds ((hs.getD 0 hd0).2) (Sn.hpop hs) dd).1)).2.2≠0))] 158)::row 5 1 (.slice A18 ((Rn.wput out z t ((Xs.mpush rds ((hs.getD 0 hd0).2) (Sn.hpop hs) dd).1)).2.1.length) c19) ((Rn.wput out z t ((Xs.mpush rds ((hs.getD 0 hd0).2) (Sn.hpop hs) dd).1)).2.1.length) (u8s ((Rn.wput out z t ((Xs.mpush rds ((hs.getD 0 hd0).2) (Sn.hpop hs) dd).1)).2.1))::diskR db (Rn.wput out z t ((Xs.mpush rds ((hs.getD 0 hd0).2) (Sn.hpop hs) dd).1)).1::blk lb16 (.cells #[.int .u64 ((z.1:Nat):Int),.int .u64 ((z.2:Nat):Int),q17] 202)::blk b3 (.cells #[.slice A11 ((Xs.mpush rds ((hs.getD 0 hd0).2) (Sn.hpop hs) dd).2.1.2.length) c12] 199)::row 202 3 (.slice A11 ((Xs.mpush rds ((hs.getD 0 hd0).2) (Sn.hpop hs) dd).2.1.2.length) c12) ((Xs.mpush rds ((hs.getD 0 hd0).2) (Sn.hpop hs) dd).2.1.2.length) (sds rbs ((Xs.mpush rds ((hs.getD 0 hd0).2) (Sn.hpop hs) dd).2.1.2))::rdrsR db rbs (Xs.mpush rds ((hs.getD 0 hd0).2) (Sn.hpop hs) dd).2.1.1::blk xb (.cells #[.int .u64 (((hs.getD 0 hd0).1.1:Nat):Int),.int .u64 (((hs.getD 0 hd0).1.2:Nat):Int),pz rbs (hs.getD 0 hd0).2] 202)::blk zb (.cells #[.pointer (some ⟨db,0,none⟩),str (temp),.int .i64 ((fan:Nat):Int),.int .i64 how,.int .i64 ((tm.1:Nat):Int),.slice Am1 tm.2.length cm2] 144)::row 9 1 (.slice Am1 tm.2.length cm2) tm.2.length (strs tm.2)::fr):=H
            refine rn 1 S H t0 fun a w S H=>?_
            refine r_nil ?_
            refine x_then ?_
            refine r_region ?_
            refine r_call (args:=#[.pointer (some ⟨b3,0,none⟩)]) S rfl rfl Tryz.call133 (pop_ct (H:=(pk [5,6,0,1,2,3,4,7,8,9,10] 11 H)) _ _ rbs b3 _ _ ((Xs.mpush rds ((hs.getD 0 hd0).2) (Sn.hpop hs) dd).2.1.2) (by omega)) rfl rfl rfl fun v a w hR S=>?_
            obtain ⟨A21,c22,rfl,H⟩:=hR
            refine rn 5 S H t0 fun a w S H=>?_
            refine r_nil ?_
            refine x_then ?_
            have hct:=hT.symm.trans (Xs.mloop_put hne hpg (fun h=>h.1 hw) hw0)
            have hlt:Xs.mleft (Xs.mpush rds (hs.getD 0 hd0).2 (Sn.hpop hs) dd).2.1.1 (Xs.mpush rds (hs.getD 0 hd0).2 (Sn.hpop hs) dd).2.1.2 < Xs.mleft rds hs:=Xs.mleft_lt (d:=dd) hro hHB hne
            have hro2:=hro.push (hs.getD 0 hd0).2 (Sn.hpop hs) dd
            have hwc:=Rn.wput_cnt out z t (Xs.mpush rds (hs.getD 0 hd0).2 (Sn.hpop hs) dd).1
            have hws:=Rn.wput_small out z t (Xs.mpush rds (hs.getD 0 hd0).2 (Sn.hpop hs) dd).1
            have H:=Sat.lastIn (hs.getD 0 hd0).1 (pk [8,0,1,7,5,3,4,2,9,10] 11 H)
            have H:=pk [1,2,3,4,5,6,7,0,8,9] 10 H
            have hwb:decide ((Rn.wput out z t (Xs.mpush rds (hs.getD 0 hd0).2 (Sn.hpop hs) dd).1).2.2≠0)=false:=by rw [hw0];rfl
            rw [hwb] at H
            exact ⟨(k,(Xs.mpush rds (hs.getD 0 hd0).2 (Sn.hpop hs) dd).2.1.1,(Xs.mpush rds (hs.getD 0 hd0).2 (Sn.hpop hs) dd).2.1.2,some (hs.getD 0 hd0).1,_,(Rn.wput out z t (Xs.mpush rds (hs.getD 0 hd0).2 (Sn.hpop hs) dd).1).2.1,(Rn.wput out z t (Xs.mpush rds (hs.getD 0 hd0).2 (Sn.hpop hs) dd).1).1,b20,A21,c22,A18,c19),⟨S.sub ⟨rfl,rfl,rfl,rfl,rfl,rfl,rfl,rfl,trivial⟩,H,⟨hct.symm,by omega,hro2,by rw [Xs.mpush_rlen];exact hb1,by rw [Xs.mpush_rlen];exact hrl,by omega,hws,by omega,fun y hy=>by (cases hy;exact hpopf.2.2)⟩⟩,hlt⟩
        · skip
          obtain ⟨lb23,q24,hlv,H9⟩:=Sat.lastSome ((pk [7,0,1,2,3,4,5,6,8,9] 10 H))
          clear H
          subst hlv
          have H:=H9
          have hzz:=hzb z rfl
          apply qb H rfl (by kernel_rfl)
          · skip
            refine qn 7 S t0 fun a S=>?_
            refine q_y S (y_ne S rfl rfl rfl) rfl rfl rfl fun a S=>?_
            have S:=S.retell (v':=.bool true) 81 rfl (by rw [decide_eq_true (by omega)])
            refine qn 9 S t0 fun a S=>?_
            refine q_y S (y_eq S rfl rfl rfl) rfl rfl rfl fun a S=>?_
            have S:=S.retell (v':=.bool true) 91 rfl (by rw [decide_eq_true (by omega)])
            refine qn 1 S t0 fun a S=>?_
            exact q_nil S
          · intro a w S H
            refine r_condT S rfl ?_
            refine r_seq ?_
            refine ha [1,2,3,4,5,6,7,8,9] 10 H fun w H HS=>?_
            refine tk 0 S HS fun a S=>?_
            refine tk 1 S HS fun a S=>?_
            refine tk 2 S HS fun a S=>?_
            refine tk 3 S HS fun a S=>?_
            refine tk 4 S HS fun a S=>?_
            refine tk 5 S HS fun a S=>?_
            refine tk 6 S HS fun a S=>?_
            refine tk 7 S HS fun a S=>?_
            refine tk 9 S HS fun a S=>?_
            refine tk 10 S HS fun a S=>?_
            refine tk 11 S HS fun a S=>?_
            refine h1 8 ?_
            refine rs 1 S H t0 fun a w S H=>?_
            refine hk (pk [1,2,3,4,5,6,7,8,9] 10 H) fun HS=>?_
            refine h1 12 ?_
            refine r_call (args:=#[.int .i64 how,.int .u64 ((z.2:Nat):Int),.int .u64 (((hs.getD 0 hd0).1.2:Nat):Int)]) S rfl rfl Tryz.call134 (combine_ct (H:=H) _ _ how z.2 ((hs.getD 0 hd0).1.2) (by omega) (by omega)) rfl rfl rfl fun v a w hR S=>?_
            obtain ⟨rfl,H⟩:=hR
            refine sn ?_
            refine hk (pk [1,2,3,4,5,6,7,8,9] 10 H) fun HS=>?_
            refine tk 13 S HS fun a S=>?_
            refine tk 14 S HS fun a S=>?_
            refine h1 15 ?_
            refine rs 1 S H t0 fun a w S H=>?_
            refine hk (pk [1,2,3,4,5,6,7,8,9] 10 H) fun HS=>?_
            refine hz ?_
            refine x_then ?_
            refine wp_exit ?_
            refine x_thenExit ?_
            refine x_blockHere ?_
            refine x_then ?_
            refine r_seq ?_
            refine sr 1 S H t0 fun a w S H=>?_
            refine r_region ?_
            refine r_alloc S H rfl Tryz.zeroValue202 rfl rfl rfl rfl fun a w b25 S H=>?_
            replace H:Sat _ (blk b25 (.cells #[.int .u64 0,.int .u64 0,.pointer none] 202)::blk lb23 (.cells #[.int .u64 ((z.1:Nat):Int),.int .u64 ((Rn.comb how z.2 ((hs.getD 0 hd0).1.2):Nat):Int),q24] 202)::blk b3 (.cells #[.slice A11 ((Xs.mpush rds ((hs.getD 0 hd0).2) (Sn.hpop hs) dd).2.1.2.length) c12] 199)::row 202 3 (.slice A11 ((Xs.mpush rds ((hs.getD 0 hd0).2) (Sn.hpop hs) dd).2.1.2.length) c12) ((Xs.mpush rds ((hs.getD 0 hd0).2) (Sn.hpop hs) dd).2.1.2.length) (sds rbs ((Xs.mpush rds ((hs.getD 0 hd0).2) (Sn.hpop hs) dd).2.1.2))::rdrsR db rbs (Xs.mpush rds ((hs.getD 0 hd0).2) (Sn.hpop hs) dd).2.1.1::diskR db (Xs.mpush rds ((hs.getD 0 hd0).2) (Sn.hpop hs) dd).1::blk b7 (.cells #[.pointer (some ⟨db,0,none⟩),str (out),.slice At t.length ct,.bool false] 158)::row 5 1 (.slice At t.length ct) t.length (u8s t)::blk xb (.cells #[.int .u64 (((hs.getD 0 hd0).1.1:Nat):Int),.int .u64 (((hs.getD 0 hd0).1.2:Nat):Int),pz rbs (hs.getD 0 hd0).2] 202)::blk zb (.cells #[.pointer (some ⟨db,0,none⟩),str (temp),.int .i64 ((fan:Nat):Int),.int .i64 how,.int .i64 ((tm.1:Nat):Int),.slice Am1 tm.2.length cm2] 144)::row 9 1 (.slice Am1 tm.2.length cm2) tm.2.length (strs tm.2)::fr):=H
            refine rn 1 S H t0 fun a w S H=>?_
            refine r_nil ?_
            refine x_then ?_
            refine r_region ?_
            refine r_call (args:=#[.pointer (some ⟨b3,0,none⟩)]) S rfl rfl Tryz.call133 (pop_ct (H:=(pk [2,3,0,1,4,5,6,7,8,9,10] 11 H)) _ _ rbs b3 _ _ ((Xs.mpush rds ((hs.getD 0 hd0).2) (Sn.hpop hs) dd).2.1.2) (by omega)) rfl rfl rfl fun v a w hR S=>?_
            obtain ⟨A26,c27,rfl,H⟩:=hR
            refine rn 5 S H t0 fun a w S H=>?_
            refine r_nil ?_
            refine x_then ?_
            have hct:=hT.symm.trans (Xs.mloop_comb hne hpg ⟨hw,hk1⟩)
            have hlt:Xs.mleft (Xs.mpush rds (hs.getD 0 hd0).2 (Sn.hpop hs) dd).2.1.1 (Xs.mpush rds (hs.getD 0 hd0).2 (Sn.hpop hs) dd).2.1.2 < Xs.mleft rds hs:=Xs.mleft_lt (d:=dd) hro hHB hne
            have hro2:=hro.push (hs.getD 0 hd0).2 (Sn.hpop hs) dd
            have H:=Sat.lastIn (z.1,Rn.comb how z.2 (hs.getD 0 hd0).1.2) (pk [3,0,1,4,5,6,7,2,9,10] 11 H)
            have H:=pk [1,2,3,4,5,6,7,0,8,9] 10 H
            exact ⟨(k,(Xs.mpush rds (hs.getD 0 hd0).2 (Sn.hpop hs) dd).2.1.1,(Xs.mpush rds (hs.getD 0 hd0).2 (Sn.hpop hs) dd).2.1.2,some (z.1,Rn.comb how z.2 (hs.getD 0 hd0).1.2),_,t,(Xs.mpush rds (hs.getD 0 hd0).2 (Sn.hpop hs) dd).1,b25,A26,c27,At,ct),⟨S.sub ⟨rfl,rfl,rfl,rfl,rfl,rfl,rfl,rfl,trivial⟩,H,⟨hct.symm,by omega,hro2,by rw [Xs.mpush_rlen];exact hb1,by rw [Xs.mpush_rlen];exact hrl,by omega,htl,by omega,fun y hy=>by (cases hy;exact ⟨(hzb z rfl).1,comb_lt' (hzb z rfl).2 hpopf.2.2.2⟩)⟩⟩,hlt⟩
        obtain ⟨lb28,q29,hlv,H9⟩:=Sat.lastSome ((pk [7,0,1,2,3,4,5,6,8,9] 10 H))
        clear H
        subst hlv
        have H:=H9
        have hzz:=hzb z rfl
        apply qb H rfl (by kernel_rfl)
        · skip
          refine qn 7 S t0 fun a S=>?_
          refine q_y S (y_ne S rfl rfl rfl) rfl rfl rfl fun a S=>?_
          have S:=S.retell (v':=.bool true) 81 rfl (by rw [decide_eq_true (by omega)])
          refine qn 9 S t0 fun a S=>?_
          refine q_y S (y_eq S rfl rfl rfl) rfl rfl rfl fun a S=>?_
          have S:=S.retell (v':=.bool false) 91 rfl (by rw [decide_eq_false (by omega)])
          refine qn 1 S t0 fun a S=>?_
          exact q_nil S
        · intro a w S H
          refine r_condF S rfl ?_
          refine wp_skip ?_
          refine x_then ?_
          refine r_seq ?_
          refine sr 2 S H t0 fun a w S H=>?_
          refine r_condT S rfl ?_
          refine sb ?_
          refine rn 4 S H t0 fun a w S H=>?_
          refine r_call (args:=#[.pointer (some ⟨b7,0,none⟩),.agg #[.int .u64 ((z.1:Nat):Int),.int .u64 ((z.2:Nat):Int)]]) S rfl rfl Tryz.call82 (wput_ct (H:=(pk [5,6,4,0,1,2,3,7,8,9] 10 H)) _ _ b7 db out z _ _ t ((Xs.mpush rds ((hs.getD 0 hd0).2) (Sn.hpop hs) dd).1) (by omega) (htl) hzz) rfl rfl rfl fun v a w hR S=>?_
          obtain ⟨A30,c31,rfl,H⟩:=hR
          refine rs 1 S H t0 fun a w S H=>?_
          refine sr 2 S H t0 fun a w S H=>?_
          refine r_test S rfl (fun h116=>?_) (fun h116=>?_)
          · skip
            refine sr 2 S H t0 fun a w S H=>?_
            refine wp_ret ?_
            refine x_thenRet ?_
            refine x_blockRet ?_
            refine x_thenRet ?_
            refine x_thenRet ?_
            refine x_blockRet ?_
            refine x_thenRet ?_
            refine r_ret1 S H Tryz.results103 (ro_tmp S rfl) ?_
            have hct:=hT.symm.trans (Xs.mloop_wbad hne hpg (fun h=>hk1 h.2) (show (Rn.wput out z t (Xs.mpush rds (hs.getD 0 hd0).2 (Sn.hpop hs) dd).1).2.2≠0 by omega))
            rw [hct]
            exact ⟨rfl,Sat.shutS tm (pk [8,9,2] 10 H)⟩
          refine wp_skip ?_
          refine x_then ?_
          have hw0:(Rn.wput out z t (Xs.mpush rds (hs.getD 0 hd0).2 (Sn.hpop hs) dd).1).2.2=0:=by omega
          refine er 2 S H t0 fun a w S H=>?_
          refine x_blockEnd ?_
          refine x_then ?_
          refine r_seq ?_
          refine sr 1 S H t0 fun a w S H=>?_
          refine r_region ?_
          refine r_alloc S H rfl Tryz.zeroValue202 rfl rfl rfl rfl fun a w b32 S H=>?_
          replace H:Sat _ (blk b32 (.cells #[.int .u64 0,.int .u64 0,.pointer none] 202)::blk b7 (.cells #[.pointer (some ⟨db,0,none⟩),str (out),.slice A30 ((Rn.wput out z t ((Xs.mpush rds ((hs.getD 0 hd0).2) (Sn.hpop hs) dd).1)).2.1.length) c31,.bool (decide ((Rn.wput out z t ((Xs.mpush rds ((hs.getD 0 hd0).2) (Sn.hpop hs) dd).1)).2.2≠0))] 158)::row 5 1 (.slice A30 ((Rn.wput out z t ((Xs.mpush rds ((hs.getD 0 hd0).2) (Sn.hpop hs) dd).1)).2.1.length) c31) ((Rn.wput out z t ((Xs.mpush rds ((hs.getD 0 hd0).2) (Sn.hpop hs) dd).1)).2.1.length) (u8s ((Rn.wput out z t ((Xs.mpush rds ((hs.getD 0 hd0).2) (Sn.hpop hs) dd).1)).2.1))::diskR db (Rn.wput out z t ((Xs.mpush rds ((hs.getD 0 hd0).2) (Sn.hpop hs) dd).1)).1::blk lb28 (.cells #[.int .u64 ((z.1:Nat):Int),.int .u64 ((z.2:Nat):Int),q29] 202)::blk b3 (.cells #[.slice A11 ((Xs.mpush rds ((hs.getD 0 hd0).2) (Sn.hpop hs) dd).2.1.2.length) c12] 199)::row 202 3 (.slice A11 ((Xs.mpush rds ((hs.getD 0 hd0).2) (Sn.hpop hs) dd).2.1.2.length) c12) ((Xs.mpush rds ((hs.getD 0 hd0).2) (Sn.hpop hs) dd).2.1.2.length) (sds rbs ((Xs.mpush rds ((hs.getD 0 hd0).2) (Sn.hpop hs) dd).2.1.2))::rdrsR db rbs (Xs.mpush rds ((hs.getD 0 hd0).2) (Sn.hpop hs) dd).2.1.1::blk xb (.cells #[.int .u64 (((hs.getD 0 hd0).1.1:Nat):Int),.int .u64 (((hs.getD 0 hd0).1.2:Nat):Int),pz rbs (hs.getD 0 hd0).2] 202)::blk zb (.cells #[.pointer (some ⟨db,0,none⟩),str (temp),.int .i64 ((fan:Nat):Int),.int .i64 how,.int .i64 ((tm.1:Nat):Int),.slice Am1 tm.2.length cm2] 144)::row 9 1 (.slice Am1 tm.2.length cm2) tm.2.length (strs tm.2)::fr):=H
          refine rn 1 S H t0 fun a w S H=>?_
          refine r_nil ?_
          refine x_then ?_
          refine r_region ?_
          refine r_call (args:=#[.pointer (some ⟨b3,0,none⟩)]) S rfl rfl Tryz.call133 (pop_ct (H:=(pk [5,6,0,1,2,3,4,7,8,9,10] 11 H)) _ _ rbs b3 _ _ ((Xs.mpush rds ((hs.getD 0 hd0).2) (Sn.hpop hs) dd).2.1.2) (by omega)) rfl rfl rfl fun v a w hR S=>?_
          obtain ⟨A33,c34,rfl,H⟩:=hR
          refine rn 5 S H t0 fun a w S H=>?_
          refine r_nil ?_
          refine x_then ?_
          have hct:=hT.symm.trans (Xs.mloop_put hne hpg (fun h=>hk1 h.2) hw0)
          have hlt:Xs.mleft (Xs.mpush rds (hs.getD 0 hd0).2 (Sn.hpop hs) dd).2.1.1 (Xs.mpush rds (hs.getD 0 hd0).2 (Sn.hpop hs) dd).2.1.2 < Xs.mleft rds hs:=Xs.mleft_lt (d:=dd) hro hHB hne
          have hro2:=hro.push (hs.getD 0 hd0).2 (Sn.hpop hs) dd
          have hwc:=Rn.wput_cnt out z t (Xs.mpush rds (hs.getD 0 hd0).2 (Sn.hpop hs) dd).1
          have hws:=Rn.wput_small out z t (Xs.mpush rds (hs.getD 0 hd0).2 (Sn.hpop hs) dd).1
          have H:=Sat.lastIn (hs.getD 0 hd0).1 (pk [8,0,1,7,5,3,4,2,9,10] 11 H)
          have H:=pk [1,2,3,4,5,6,7,0,8,9] 10 H
          have hwb:decide ((Rn.wput out z t (Xs.mpush rds (hs.getD 0 hd0).2 (Sn.hpop hs) dd).1).2.2≠0)=false:=by rw [hw0];rfl
          rw [hwb] at H
          exact ⟨(k,(Xs.mpush rds (hs.getD 0 hd0).2 (Sn.hpop hs) dd).2.1.1,(Xs.mpush rds (hs.getD 0 hd0).2 (Sn.hpop hs) dd).2.1.2,some (hs.getD 0 hd0).1,_,(Rn.wput out z t (Xs.mpush rds (hs.getD 0 hd0).2 (Sn.hpop hs) dd).1).2.1,(Rn.wput out z t (Xs.mpush rds (hs.getD 0 hd0).2 (Sn.hpop hs) dd).1).1,b32,A33,c34,A30,c31),⟨S.sub ⟨rfl,rfl,rfl,rfl,rfl,rfl,rfl,rfl,trivial⟩,H,⟨hct.symm,by omega,hro2,by rw [Xs.mpush_rlen];exact hb1,by rw [Xs.mpush_rlen];exact hrl,by omega,hws,by omega,fun y hy=>by (cases hy;exact hpopf.2.2)⟩⟩,hlt⟩
      have hpg:(Xs.mpush rds (hs.getD 0 hd0).2 (Sn.hpop hs) dd).2.2≠0:=by omega
      refine sb ?_
      refine rn 2 S H t0 fun a w S H=>?_
      refine r_y S H (y_load 6 S rfl rfl Tryz.isAgg79 rfl rfl) rfl rfl rfl fun a S=>?_
      have S:=S.retell (v':=.pointer (some ⟨rb,0,none⟩)) 69 rfl (show pz rbs (hs.getD 0 hd0).2=_ from hpz)
      refine r_callV (args:=#[.pointer (some ⟨rb,0,none⟩)]) S rfl rfl rfl Tryz.call131 (spush_bad (H:=H) _ _ b3 db rb rbs rds ((hs.getD 0 hd0).2) _ _ (Sn.hpop hs) dd ((by omega)) hrb hro ((by omega)) (by omega) hpg) rfl rfl rfl fun v a w hR S=>?_
      obtain ⟨rfl,H⟩:=hR
      refine rs 1 S H t0 fun a w S H=>?_
      refine sr 2 S H t0 fun a w S H=>?_
      refine r_test S rfl (fun h72=>?_) (fun h72=>?_)
      · skip
        refine sr 2 S H t0 fun a w S H=>?_
        refine wp_ret ?_
        refine x_thenRet ?_
        refine x_blockRet ?_
        refine x_thenRet ?_
        refine x_thenRet ?_
        refine x_blockRet ?_
        refine x_thenRet ?_
        refine r_ret1 S H Tryz.results103 (ro_tmp S rfl) ?_
        have hct:=hT.symm.trans (Xs.mloop_bad hne hpg)
        rw [hct]
        exact ⟨rfl,Sat.shutS tm (pk [5,6,0] 7 H)⟩
      exfalso;omega
    refine wp_exit ?_
    refine x_thenExit ?_
    refine x_thenExit ?_
    refine x_blockHere ?_
    refine x_then ?_
    refine r_seq ?_
    rcases last with _ | z
    · skip
      obtain ⟨hlv,H9⟩:=Sat.lastNone ((pk [7,0,1,2,3,4,5,6,8,9] 10 H))
      clear H
      subst hlv
      have H:=H9
      refine sr 2 S H t0 fun a w S H=>?_
      refine r_condF S rfl ?_
      refine wp_skip ?_
      refine x_then ?_
      have hhs:hs=[]:=List.eq_nil_of_length_eq_zero (by omega)
      refine sb ?_
      refine rn 1 S H t0 fun a w S H=>?_
      refine r_call (args:=#[.pointer (some ⟨b7,0,none⟩)]) S rfl rfl Tryz.call84 (wclose_ct (H:=(pk [4,5,3,0,1,2,6,7,8] 9 H)) _ _ b7 db out _ _ t dd (by omega) (by omega)) rfl rfl rfl fun v a w hR S=>?_
      obtain ⟨rfl,H⟩:=hR
      refine rs 1 S H t0 fun a w S H=>?_
      refine wp_ret ?_
      refine r_ret1 S H Tryz.results103 (ro_tmp S rfl) ?_
      have hct:=hT.symm.trans (Xs.mloop_end hhs)
      rw [hct]
      exact ⟨rfl,Sat.shutS tm (pk [5,6,0] 7 H)⟩
    obtain ⟨lb35,q36,hlv,H9⟩:=Sat.lastSome ((pk [7,0,1,2,3,4,5,6,8,9] 10 H))
    clear H
    subst hlv
    have H:=H9
    have hzz:=hzb z rfl
    refine sr 2 S H t0 fun a w S H=>?_
    refine r_condT S rfl ?_
    refine sb ?_
    refine rn 4 S H t0 fun a w S H=>?_
    refine r_call (args:=#[.pointer (some ⟨b7,0,none⟩),.agg #[.int .u64 ((z.1:Nat):Int),.int .u64 ((z.2:Nat):Int)]]) S rfl rfl Tryz.call82 (wput_ct (H:=(pk [5,6,4,0,1,2,3,7,8,9] 10 H)) _ _ b7 db out z _ _ t dd (by omega) (htl) hzz) rfl rfl rfl fun v a w hR S=>?_
    obtain ⟨A37,c38,rfl,H⟩:=hR
    refine rs 1 S H t0 fun a w S H=>?_
    refine sr 2 S H t0 fun a w S H=>?_
    refine r_test S rfl (fun h128=>?_) (fun h128=>?_)
    · skip
      refine sr 2 S H t0 fun a w S H=>?_
      refine wp_ret ?_
      refine x_thenRet ?_
      refine r_ret1 S H Tryz.results103 (ro_tmp S rfl) ?_
      have hct:=hT.symm.trans ((Xs.mloop_end (List.eq_nil_of_length_eq_zero (by omega))).trans (if_pos (by omega)))
      rw [hct]
      exact ⟨rfl,Sat.shutS tm (pk [8,9,2] 10 H)⟩
    refine wp_skip ?_
    refine x_then ?_
    have hw0:(Rn.wput out z t dd).2.2=0:=by omega
    have hws:=Rn.wput_small out z t dd
    have hwc:=Rn.wput_cnt out z t dd
    have hwb:decide ((Rn.wput out z t dd).2.2≠0)=false:=by rw [hw0];rfl
    rw [hwb] at H
    have hhs:hs=[]:=List.eq_nil_of_length_eq_zero (by omega)
    refine sb ?_
    refine rn 1 S H t0 fun a w S H=>?_
    refine r_call (args:=#[.pointer (some ⟨b7,0,none⟩)]) S rfl rfl Tryz.call84 (wclose_ct (H:=H) _ _ b7 db out _ _ ((Rn.wput out z t dd).2.1) ((Rn.wput out z t dd).1) (by omega) (by omega)) rfl rfl rfl fun v a w hR S=>?_
    obtain ⟨rfl,H⟩:=hR
    refine rs 1 S H t0 fun a w S H=>?_
    refine wp_ret ?_
    refine r_ret1 S H Tryz.results103 (ro_tmp S rfl) ?_
    have hct:=hT.symm.trans ((Xs.mloop_end hhs).trans (if_neg (fun c=>c hw0)))
    rw [hct]
    exact ⟨rfl,Sat.shutS tm (pk [6,7,0] 8 H)⟩
  refine sb ?_
  refine rn 5 S H t0 fun a w S H=>?_
  refine r_call (args:=#[.pointer (some ⟨db,0,none⟩),str (out)]) S rfl rfl Tryz.call80 (newwbad_ct (H:=(pk [3,0,1,2,4,5] 6 H)) _ _ db out dd (by omega) (by omega)) rfl rfl rfl fun v a w hR S=>?_
  obtain ⟨rfl,H⟩:=hR
  refine rs 5 S H t0 fun a w S H=>?_
  refine r_seq ?_
  refine sr 2 S H t0 fun a w S H=>?_
  refine r_test S rfl (fun h56=>?_) (fun h56=>?_)
  · skip
    refine sr 2 S H t0 fun a w S H=>?_
    refine wp_ret ?_
    refine x_thenRet ?_
    refine r_ret1 S H Tryz.results103 (ro_tmp S rfl) ?_
    have hmb:=Xs.merge_b2 (how:=how) (out:=out) (ns:=ns) (d:=d) (by rw [hM]) (by rw [hM];show (Dk.Disk.create out dd).2≠0;omega)
    rw [hmb,hM]
    exact ⟨rfl,Sat.shutS tm (pk [4,5,0] 6 H)⟩
  exfalso;omega

end Go.Proofs.YtoffbmhmocfmnaaGreatDoor
namespace Go.Proofs.YtoffbmhmocfmnaaGreatDoor
open Go.RowKit Go.Cg
set_option linter.unusedVariables false
set_option linter.unusedSimpArgs false
set_option maxRecDepth 8000
set_option synthInstance.maxHeartbeats 1000000
set_option synthInstance.maxSize 1000000
open Go.Cg.Dk (Nm)
open Go.Shelf
attribute [local go_sem] Oper.semAt_some
set_option maxRecDepth 100000 in
set_option maxHeartbeats 2000000 in
theorem chunk_iter (kb nb blk off c n:Nat) (l:List Nm) (hn:1<=n) (hn2:n<=4611686018427387904) (hlen:l.length<=1099511627776) (hcap:l.length<=c) (m:Nat) (hm:∀ q,q < m↔q*n < l.length) (Pw:World->Prop) (hPw:∀ W,Pw W->W.cell? ⟨kb,0,none⟩=some (.slice (some ⟨blk,off,none⟩) l.length c)/\W.cell? ⟨nb,0,none⟩=some (.int .i64 ((n:Nat):Int))):
    IterS Tryz.prog 130 #[.pointer (some ⟨kb,0,none⟩),.pointer (some ⟨nb,0,none⟩)] (fun j:Nat=>#[.slice (some ⟨blk,off+j*n,none⟩) (min n (l.length - j*n)) (min n (l.length - j*n))]) (List.range m) Pw:=by
  intro l_ J T W hJP hJG hTG hY h0
  have hJD:∀ i W,J i W->J i W.drew:=fun i W h=>hJG i W _ h (Hp.drew W) fun _ _=>rfl
  refine callsIn_of_wp Tryz.func130 rfl trivial ?_ rfl
  simp only [Tryz.ntmps130,List.size_toArray,List.length_cons,List.length_nil,Nat.reduceAdd,Nat.reduceSub,Array.replicate_succ,Array.replicate_zero,List.push_toArray,List.append_toArray,List.nil_append,List.cons_append]
  have hc0:=(hPw W (hJP _ _ h0)).1
  have hc00:=(hPw W (hJP _ _ h0)).2
  gi_wp2
  gi_loopw [4] (fun i wr=>∃q:Nat,q<=m/\i=.int .i64 ((q*n:Nat):Int)/\J q wr) (fun i _=>((l.length:Int) - intOf i).toNat)
  case atStart=>exact ⟨0,Nat.zero_le _,by simp,h0⟩
  case round=>
    obtain ⟨q,hq,rfl,hJs⟩:=hrel
    have hP:=hPw wr (hJP _ _ hJs)
    have hcb:=hP.1
    have hcn:=hP.2
    by_cases hql:q*n < l.length
    · have hlt:q < m:=(hm q).2 hql
      obtain ⟨Z,hZ⟩:∃Z,Z=q*n:=⟨_,rfl⟩
      rw [<-hZ] at hql ⊢
      gi_wp2
      gi_region
      gi_wp2
      have hE:(((q:Int)*(n:Int)+min (n:Int) ((l.length - q*n:Nat):Int)).toNat - q*n)=min n (l.length - q*n):=by
        have e1:(q:Int)*(n:Int)=((q*n:Nat):Int):=by push_cast;rfl
        rw [e1,<-hZ];omega
      rw [hE]
      obtain ⟨fn,tmps,assign,body,hy,hR⟩:=hY q q wr.drew (List.getElem?_range hlt) (hJD _ _ hJs)
      simp only [hy]
      gi_wp2
      refine hR.mono ?_
      rintro e W3 (⟨rfl,hJ3⟩ | ⟨rfl,hT3⟩)
      · have hP3:=hPw W3 (hJP _ _ hJ3)
        have hcn3:=hP3.2
        gi_wp2
        go_roundw
        case rel=>exact ⟨q+1,by omega,by rw [show ((q:Int)*(n:Int)+(n:Int))=(((q+1)*n:Nat):Int) from by push_cast;rw [Int.add_mul,Int.one_mul]],hJ3⟩
        case measure=>
          have e1:(q:Int)*(n:Int)=(Z:Int):=by rw [hZ];push_cast;rfl
          show ((l.length:Int) - ((q:Int)*(n:Int)+(n:Int))).toNat < ((l.length:Int) - (Z:Int)).toNat
          rw [e1];omega
      · gi_wp2
        exact bodyPost_ret (results_none rfl _ _ _) rfl ⟨⟨_,rfl⟩,.inr hT3⟩
    · have hqm:q=m:=by
        have:¬ q < m:=fun h=>hql ((hm q).1 h)
        omega
      subst hqm
      gi_wp2
      go_end0
      exact ⟨⟨_,rfl⟩,.inl (by rw [List.length_range];exact hJs)⟩
end Go.Proofs.YtoffbmhmocfmnaaGreatDoor
