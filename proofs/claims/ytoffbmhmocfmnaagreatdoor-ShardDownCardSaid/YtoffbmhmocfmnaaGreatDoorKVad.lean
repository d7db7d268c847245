/- Laws of the model, walks of functions of the program, and what they rest on. No condition. -/
import Derived.Test.YtoffbmhmocfmnaaGreatDoorKVab
import Derived.Test.YtoffbmhmocfmnaaGreatDoorKVac
import Derived.IntWalk
namespace Go.Cg
set_option linter.unusedVariables false
set_option linter.unusedSimpArgs false
open Go.RowKit

theorem wi64 {x:Int} (h1: -9223372036854775808<=x) (h2:x<=9223372036854775807):IntKind.i64.wrap x=x:=by
  simp only [IntKind.wrap,IntKind.bits,IntKind.signed] at *;simp;omega
theorem wu64 {x:Int} (h1:0<=x) (h2:x<=18446744073709551615):IntKind.u64.wrap x=x:=by
  simp only [IntKind.wrap,IntKind.bits,IntKind.signed] at *;simp;omega
theorem wu32 {x:Int} (h1:0<=x) (h2:x<=4294967295):IntKind.u32.wrap x=x:=by
  simp only [IntKind.wrap,IntKind.bits,IntKind.signed] at *;simp;omega
theorem wdivi64 {x y:Int} (h0:0<=x) (h1:x<=9223372036854775807) (h2:0<=y):IntKind.i64.wrap (x / y)=x / y:=
  wi64 (Int.le_trans (by decide) (Int.ediv_nonneg h0 h2)) (Int.le_trans (Int.ediv_le_self _ h0) h1)
theorem wrap_u64 (x:Int):IntKind.u64.wrap x=x%18446744073709551616:=by simp [IntKind.wrap,IntKind.bits,IntKind.signed]
section
variable {P:Program} {Q:Exit->Act->World->Prop} {a:Act} {w:World} {L:List Res} {n:Nat} {E:List (Nat×Value)}
theorem wp_via {c:Code} {J:Act->World->Prop} (h:c.wp P (Exit.then J (fun _ _ _=>False)) a w) (K:∀ a w,J a w->Q .normal a w):c.wp P Q a w:=
  Code.wp_mono (fun e a w h=>by cases e<;>first | exact K a w h | exact h.elim) h
theorem y_min {o:Oper} {x y:Operand} {ts:Array TypeId} {k k':IntKind} {m m':Int} (S:Slots a n E) (ho:o.op=.call { callee:=.builtin .min,args:=#[x,y],argTypes:=ts }) (hx:ev E x=some (.int k m)) (hy:ev E y=some (.int k' m')):Yl P L o a (.int k (min m m')):=fun w _=>by
  simp [execOp,ho,resolve,invoke,builtin,S.eval hx,S.eval hy,Builtin.min_,Builtin.min2]
  omega
theorem y_max {o:Oper} {x y:Operand} {ts:Array TypeId} {k k':IntKind} {m m':Int} (S:Slots a n E) (ho:o.op=.call { callee:=.builtin .max,args:=#[x,y],argTypes:=ts }) (hx:ev E x=some (.int k m)) (hy:ev E y=some (.int k' m')):Yl P L o a (.int k (max m m')):=fun w _=>by
  simp [execOp,ho,resolve,invoke,builtin,S.eval hx,S.eval hy,Builtin.max_,Builtin.max2]
  omega

/-- a slice that may be read -/
structure SlOk (L:List Res) (sz:Nat) (A:Option Addr) (n c:Nat) (xs:List Value):Prop where
  nil:A=none->c=0
  le:n<=c
  cap:c<=maxLen
  len:xs.length=n*sz
  rd:Rd L A xs
theorem SlOk.more {sz:Nat} {A:Option Addr} {n c:Nat} {xs:List Value} (h:SlOk L sz A n c xs) (R:Res):SlOk (R::L) sz A n c xs:=⟨h.nil,h.le,h.cap,h.len,h.rd.more R⟩
theorem SlOk.addr {sz:Nat} {A:Option Addr} {n c:Nat} {xs:List Value} (h:SlOk L (sz+1) A n c xs) (H:Sat w L) (hn:0 < n):∃b o,A=some ⟨b,o,none⟩:=by
  have hl:=h.len
  have:0 < n*(sz+1):=Nat.mul_pos hn (Nat.succ_pos _)
  obtain ⟨b,o,e,_⟩:=h.rd w H 0 _ (List.getElem?_eq_getElem (by omega))
  exact ⟨b,o,e⟩
theorem SlOk.cell {sz b o n c j:Nat} {xs:List Value} {v:Value} (h:SlOk L sz (some ⟨b,o,none⟩) n c xs) (w:World) (H:Sat w L) (hj:xs[j]? =some v):w.cell? ⟨b,o+j,none⟩=some v:=by
  obtain ⟨b',o',e,hc⟩:=h.rd w H j v hj
  cases e;exact hc
theorem SlOk.cells {sz b o n c j:Nat} {xs vs:List Value} (h:SlOk L sz (some ⟨b,o,none⟩) n c xs) (w:World) (H:Sat w L) (hj:∀ k v,vs[k]? =some v->xs[j+k]? =some v):∀ k v,vs[k]? =some v->w.cell? ⟨b,o+j+k,none⟩=some v:=fun k v hk=>by
  have:=h.cell w H (hj k v hk)
  rwa [Nat.add_assoc]
theorem SlOk.ofRow {e sz n c i:Nat} {A:Option Addr} {xs:List Value} (H:Sat w L) (hL:L[i]? =some (row e sz (.slice A n c) n xs)):SlOk L sz A n c xs:=by
  obtain ⟨F,hF,hown,hFk⟩:=(H.fetch hL).head
  have hrd:Rd L A xs:=fun w' H' j v hj=>by
    obtain ⟨F',_,hown',_⟩:=(H'.fetch hL).head
    rcases hown'.2 with ⟨h1,h2⟩ | ⟨g,cap,cur,h1,_⟩
    · have hx:xs=[]:=List.eq_nil_of_length_eq_zero (by rw [hown'.1,h2];simp)
      rw [hx] at hj;simp at hj
    · cases h1
      refine ⟨g,0,rfl,?_⟩
      rw [Nat.zero_add,hown'.cellAt j (by rw [<-hown'.1];exact (List.getElem?_eq_some_iff.1 hj).1)]
      exact hj
  rcases hown.2 with ⟨h1,h2⟩ | ⟨g,cap,cur,h1,_,_,hnc,hcm,_⟩
  · cases h1;exact ⟨fun _=>rfl,Nat.le_refl _,Nat.zero_le _,hown.1,hrd⟩
  · cases h1;exact ⟨(fun h=>by cases h),hnc,hcm,hown.1,hrd⟩

/-- what may be left out -/
theorem Sat.sub {L':List Res} (H:Sat w L) (h:L'.Sublist L):Sat w L':=by
  have key:∀ {L' L:List Res},L'.Sublist L->∀ A,SatIn w A L->SatIn w A L':=by
    intro L' L h
    induction h with
    | slnil=>exact fun _ h=>h
    | cons x _ ih=>exact fun A ⟨F,_,_,h3⟩=>ih A (SatIn.mono (fun _ hk=>hk.1) h3)
    | cons_cons x _ ih=>exact fun A ⟨F,h1,h2,h3⟩=>⟨F,h1,h2,ih _ h3⟩
  exact key h _ H
/-- the n-th; beyond the end: nothing -/
def nthR:List Res->Nat->Res
  | [],_=>emp
  | x::_,0=>x
  | _::r,n+1=>nthR r n
def dropT:Nat->List Res->List Res
  | 0,L=>L
  | n+1,L=>dropT n L.tail
abbrev dropR (L:List Res) (n:Nat):List Res:=dropT n L
theorem dropR_nil:∀ k,dropR [] k=[]
  | 0=>rfl
  | k+1=>dropR_nil k
def picksR (L:List Res):List Nat->List Res->List Res
  | [],r=>r
  | i::is,r=>nthR L i::picksR L is r
def pickOk (is:List Nat) (k:Nat):Bool:=is.all (fun i=>Nat.blt i k)&&decide is.Nodup
theorem picksR_eq (L:List Res):∀ (is:List Nat) (r:List Res),picksR L is r=is.map (nthR L)++r
  | [],_=>rfl
  | i::is,r=>by rw [picksR,picksR_eq L is r];rfl
theorem Sat.addEmp (H:Sat w L):Sat w (emp::L):=⟨fun _=>False,fun _ h=>h.elim,fun _ h=>h,SatIn.mono (fun _ hk=>⟨hk,id⟩) H⟩
theorem sat_range:∀ (k:Nat) (L:List Res),Sat w L->Sat w ((List.range k).map (nthR L)++dropR L k)
  | 0,L,H=>by cases L<;>exact H
  | k+1,[],H=>by
    have h:=sat_range k [] H
    have e1:dropR [] k=([]:List Res):=dropR_nil k
    have e2:dropR [] (k+1)=([]:List Res):=dropR_nil _
    rw [e1] at h
    rw [e2,List.range_succ,List.map_append,List.append_assoc]
    have e3:nthR [] k=emp:=rfl
    simp only [List.map_cons,List.map_nil,e3,List.append_nil] at h ⊢
    exact h.addEmp.perm (List.perm_append_comm (l₁:=[emp]))
  | k+1,x::r,H=>by
    obtain ⟨F,h1,h2,h3⟩:=H
    rw [List.range_succ_eq_map,List.map_cons,List.map_map]
    have key:∀ (k:Nat) (r:List Res) (A:Nat->Prop),SatIn w A r->SatIn w A ((List.range k).map (nthR r)++dropR r k):=by
      intro k
      induction k with
      | zero=>intro r A h;cases r<;>exact h
      | succ k ih=>
        intro r A h
        cases r with
        | nil=>
          have h':=ih [] A h
          have e1:dropR [] k=([]:List Res):=dropR_nil k
          have e2:dropR [] (k+1)=([]:List Res):=dropR_nil _
          rw [e1] at h'
          rw [e2,List.range_succ,List.map_append,List.append_assoc]
          have e3:nthR [] k=emp:=rfl
          simp only [List.map_cons,List.map_nil,e3,List.append_nil] at h' ⊢
          have h'':SatIn w A (emp::(List.range k).map (nthR [])):=⟨fun _=>False,fun _ h=>h.elim,fun _ h=>h,SatIn.mono (fun _ hk=>⟨hk,id⟩) h'⟩
          exact SatIn.perm (List.perm_append_comm (l₁:=[emp])) h''
        | cons y r=>
          obtain ⟨F,h1,h2,h3⟩:=h
          rw [List.range_succ_eq_map,List.map_cons,List.map_map]
          exact ⟨F,h1,h2,ih r _ h3⟩
    exact ⟨F,h1,h2,key k r _ h3⟩
/-- some of the resources, in whatever order; what lies behind the first k stays -/
theorem Sat.pick (H:Sat w L) (is:List Nat) (k:Nat) (h:pickOk is k=true):Sat w (picksR L is (dropR L k)):=by
  simp only [pickOk,Bool.and_eq_true,List.all_eq_true,decide_eq_true_eq] at h
  have hlt:∀ i∈is,i < k:=fun i hi=>by have:=h.1 i hi;rw [Nat.blt_eq] at this;exact this
  have hp:(List.range k).Perm (is++(List.range k).filter fun i=>decide (i∉is)):=by
    refine (List.perm_ext_iff_of_nodup List.nodup_range ?_).2 fun i=>?_
    · refine List.nodup_append.2 ⟨h.2,List.Pairwise.filter _ List.nodup_range,fun a ha b hb e=>?_⟩
      subst e
      have:=(List.mem_filter.1 hb).2
      simp only [decide_eq_true_eq] at this
      exact this ha
    · simp only [List.mem_append,List.mem_filter,List.mem_range,decide_eq_true_eq]
      constructor
      · intro hi
        by_cases hm:i∈is
        · exact .inl hm
        · exact .inr ⟨hi,hm⟩
      · rintro (hi | hi)
        · exact hlt i hi
        · exact hi.1
  rw [picksR_eq]
  have h1:=(sat_range k L H).perm ((hp.map (nthR L)).append_right (dropR L k))
  rw [List.map_append,List.append_assoc] at h1
  exact h1.sub (List.Sublist.append (List.Sublist.refl _) (List.sublist_append_right _ _))
end

/-! ### views -/
def u64s (l:List Nat):List Value:=l.map fun (x:Nat)=>.int .u64 (x:Int)
def bools (l:List Bool):List Value:=l.map .bool
def ints (l:List Int):List Value:=l.map fun x=>.int .i64 x
theorem bools_at {l:List Bool} {i:Nat} (h:i < l.length):(bools l)[i*1]? =some (.bool (l.getD i false)):=by
  rw [Nat.mul_one,bools,List.getElem?_map,List.getD_eq_getElem?_getD,List.getElem?_eq_getElem h];rfl
theorem ints_at {l:List Int} {i:Nat} (h:i < l.length):(ints l)[i*1]? =some (.int .i64 (l.getD i 0)):=by
  rw [Nat.mul_one,ints,List.getElem?_map,List.getD_eq_getElem?_getD,List.getElem?_eq_getElem h];rfl
@[simp] theorem len_u64s (l:List Nat):(u64s l).length=l.length:=by simp [u64s]
@[simp] theorem len_bools (l:List Bool):(bools l).length=l.length:=by simp [bools]
@[simp] theorem len_ints (l:List Int):(ints l).length=l.length:=by simp [ints]
theorem one_u64s (l:List Nat):∀ u∈u64s l,u.oneCell'=true:=by intro u hu;simp only [u64s,List.mem_map] at hu;obtain ⟨x,_,rfl⟩:=hu;rfl
theorem one_bools (l:List Bool):∀ u∈bools l,u.oneCell'=true:=by intro u hu;simp only [bools,List.mem_map] at hu;obtain ⟨x,_,rfl⟩:=hu;rfl
open Tr (E)
def ecell (e:E):List Value:=[.int .u32 e.f,.int .u32 e.t,.int .u32 e.w]
def ecells (l:List E):List Value:=l.flatMap ecell
def e0:E:=⟨0,0,0⟩
@[simp] theorem len_ecells:∀ l:List E,(ecells l).length=l.length*3
  | []=>rfl
  | e::l=>by simp only [ecells,List.flatMap_cons,List.length_append,List.length_cons] at *;have:=len_ecells l;simp only [ecells] at this;rw [this];simp [ecell];omega
theorem ecells_from:∀ {l:List E} {i:Nat},i < l.length->∀ k v,(ecell (l.getD i e0))[k]? =some v->(ecells l)[i*3+k]? =some v
  | e::l,0,_,k,v,h=>by
    have hk:k < (ecell e).length:=(List.getElem?_eq_some_iff.1 h).1
    simp only [ecells,List.flatMap_cons,Nat.zero_mul,Nat.zero_add]
    rw [List.getElem?_append_left hk];exact h
  | e::l,i+1,hi,k,v,h=>by
    have:=ecells_from (l:=l) (i:=i) (by simpa using hi) k v (by simpa using h)
    simp only [ecells,List.flatMap_cons] at this ⊢
    rw [List.getElem?_append_right (by simp [ecell];omega)]
    rw [show (i+1)*3+k - (ecell e).length=i*3+k from by simp [ecell];omega]
    exact this
theorem ecells_f {l:List E} {i:Nat} (h:i < l.length):(ecells l)[i*3]? =some (.int .u32 (l.getD i e0).f):=ecells_from h 0 _ rfl
theorem ecells_t {l:List E} {i:Nat} (h:i < l.length):(ecells l)[i*3+1]? =some (.int .u32 (l.getD i e0).t):=ecells_from h 1 _ rfl
theorem ecells_w {l:List E} {i:Nat} (h:i < l.length):(ecells l)[i*3+2]? =some (.int .u32 (l.getD i e0).w):=ecells_from h 2 _ rfl
theorem one_ecells (l:List E):∀ u∈ecells l,u.oneCell'=true:=by
  intro u hu
  simp only [ecells,List.mem_flatMap] at hu
  obtain ⟨e,_,he⟩:=hu
  simp [ecell] at he
  rcases he with rfl | rfl | rfl<;>rfl
end Go.Cg
