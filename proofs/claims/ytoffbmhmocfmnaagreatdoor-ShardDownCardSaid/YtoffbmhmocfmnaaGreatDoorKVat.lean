/- Laws of the model, walks of functions of the program, and what they rest on. No condition. -/
import Derived.Test.YtoffbmhmocfmnaaGreatDoorKVar
import Derived.RangeFuncNested
import Derived.OrdersIn
import Derived.RangeFuncCalls
import Derived.RangeFuncLeaves
namespace Go.Cg
set_option linter.unusedVariables false
set_option linter.unusedSimpArgs false
open Go.RowKit
abbrev WI (l:Nat):Fence:=Fence.wide.inRound l
section
variable {P:Program} {Q:Exit->Act->World->Prop} {a:Act} {w:World} {l m:Nat} {ops:Array Oper}
theorem rowsIn_wide {row:String} {args:Array Value} {R:Value->World->Prop} (h:Rows P row args w R):RowsIn (WI l) m P row args w R:=
  fun c cs _=>let ⟨v,w',r,s⟩:=h c cs;⟨v,w',r,stepsIn_wide.2 s⟩
theorem op_in {o:Oper} {K:Act->World->Prop} (hd:∀ c,o.op≠ .defer c) (h:o.wp P a w K Q):o.wpIn (WI l) m P a w K Q:=by
  refine ⟨fun _ _=>trivial,?_⟩
  rw [Oper.semAt_eq _ _ _ hd]
  unfold Oper.wp at h
  generalize (execOp a.eval o).run P w=r at *
  cases r with
  | ok x w'=>
    cases x with
    | enter f args=>exact ⟨fun h=>by simp [Fence.wide,Fence.inRound] at h,CallsIn.inRound l (callsIn_wide.2 h)⟩
    | row row args=>exact ⟨fun h=>by simp [Fence.wide,Fence.inRound] at h,rowsIn_wide h⟩
    | value v=>exact h
    | skip=>exact h
    | defer d=>exact h
    | _=>exact h.elim
  | halt x w'=>
    cases x with
    | panic v=>exact h
    | _=>exact h.elim
def noDef (o:Oper):Bool:=match o.op with | .defer _=>false | _=>true
theorem noDef_ne {o:Oper} (h:noDef o=true):∀ c,o.op≠ .defer c:=by
  intro c e;unfold noDef at h;rw [e] at h;cases h
theorem list_in (hQ:∀ a w,Q .outgrown a w->False):∀ (rest:List Oper) (a:Act) (w:World),rest.all noDef=true->wpList P ops Q rest a w->wpListIn (WI l) m P ops Q rest a w
  | [],_,_,_,h=>h
  | o::rest,a,w,hd,h=>by
    simp only [List.all_cons,Bool.and_eq_true] at hd
    unfold wpList at h
    unfold wpListIn
    split
    · rename_i hw
      rw [if_pos hw] at h
      rcases h with h | ⟨_,a0,w0,h⟩
      · exact Oper.wpIn_mono (fun a w h=>list_in hQ rest a w hd.2 h) (op_in (noDef_ne hd.1) h)
      · exact (hQ a0 w0 h).elim
    · rename_i hw
      rw [if_neg hw] at h
      exact ⟨fun _ _=>trivial,list_in hQ rest _ _ hd.2 h⟩
theorem any_in (hQ:∀ a w,Q .outgrown a w->False) (hd:∀ (i:Nat) (o:Oper),ops[i]? =some o->noDef o=true) {md:Region.Mode}:∀ (fuel:Nat) (listed:Array Bool) (a:Act) (w:World),wpAny P md ops Q fuel listed a w->wpAnyIn (WI l) m P md ops Q fuel listed a w
  | 0,_,_,_,h=>h
  | fuel+1,listed,a,w,h=>by
    refine ⟨h.1,fun i hi=>?_⟩
    have h2:=h.2 i hi
    unfold wpOp at h2
    unfold wpOpIn
    cases ho:ops[i]? with
    | none=>rw [ho] at h2;exact any_in hQ hd fuel _ _ _ h2
    | some o=>
      rw [ho] at h2
      simp only at h2 ⊢
      split
      · rename_i hw
        rw [if_pos hw] at h2
        rcases h2 with h2 | ⟨_,a0,w0,h2⟩
        · exact Oper.wpIn_mono (fun a w h=>any_in hQ hd fuel _ a w h) (op_in (noDef_ne (hd i o ho)) h2)
        · exact (hQ a0 w0 h2).elim
      · rename_i hw
        rw [if_neg hw] at h2
        exact ⟨fun _ _=>trivial,any_in hQ hd fuel _ _ _ h2⟩
end
section
variable {P:Program} {ops:List Oper} {Q:Exit->Act->World->Prop} {a:Act} {w:World} {l m:Nat} {L LS:List Res}
theorem in_region {id:Nat} (h:wpList P ops.toArray Q ops a w) (hd:ops.all noDef=true:=by rfl) (hQ:∀ a w,Q .outgrown a w->False:=by exact fun _ _ h=>h):(Code.region id ops.toArray false).wpIn (WI l) m P Q a w:=
  wpIn_region_lit (list_in hQ ops a w hd h)
theorem in_seq {x y:Code} (h:x.wpIn (WI l) m P (Exit.then (y.wpIn (WI l) m P Q) Q) a w):(Code.seq x y).wpIn (WI l) m P Q a w:=wpIn_seq h
theorem in_block {id:Nat} {c:Code} (h:c.wpIn (WI l) m P (Exit.inBlock id Q) a w):(Code.block id c).wpIn (WI l) m P Q a w:=wpIn_block h
theorem in_drawn {id:Nat} (H:Sat w L) (h:∀ w,Sat w L->Sat w LS->wpAnyH P .any ops.toArray Q (fun w=>Sat w LS) ops.length (List.replicate ops.length false).toArray a w) (hp:∀ w,Sat w L->Sat w LS)
    (hm:P.follows .mixedOrders=true:=by rfl) (hd:ops.all noDef=true:=by rfl) (hQ:∀ a w,Q .outgrown a w->False:=by exact fun _ _ h=>h):(Code.region id ops.toArray true).wpIn (WI l) m P Q a w:=by
  have H':Sat { w with drawn:=w.drawn+1 } L:=H.grow ⟨rfl,rfl,rfl,Nat.le_refl _⟩ fun _ _=>rfl
  have h2:=h _ H' (hp _ H')
  refine wpIn_region_any hm ?_
  have e1:ops.toArray.size=ops.length:=by simp
  have e2:Array.replicate ops.length false=(List.replicate ops.length false).toArray:=by simp
  rw [e1,e2]
  refine any_in hQ (fun i o ho=>?_) _ _ _ _ (wpAny_of_held _ _ _ _ h2)
  have hm:o∈ops:=by
    have:=List.mem_of_getElem? (l:=ops) (i:=i) (by simpa using ho)
    exact this
  exact List.all_eq_true.1 hd o hm
theorem haI (is:List Nat) (k:Nat) {id:Nat} (H:Sat w L) [hp:Pk L is k LS] (h:∀ w,Sat w L->Sat w LS->wpAnyH P .any ops.toArray Q (fun w=>Sat w LS) ops.length (List.replicate ops.length false).toArray a w)
    (ok:pickOk is k=true:=by rfl) (hm:P.follows .mixedOrders=true:=by rfl) (hd:ops.all noDef=true:=by rfl) (hQ:∀ a w,Q .outgrown a w->False:=by exact fun _ _ h=>h):(Code.region id ops.toArray true).wpIn (WI l) m P Q a w:=
  in_drawn H h (fun w H=>pk is k H ok) hm hd hQ
end

/-! ### marks -/
section
variable {P:Program} {n:Nat} {E:Env} {a:Act} {w:World} {L:List Res}
theorem lk_end {q:Nat} (hq:n<=q):∀ {E0:Env},E0.all (fun p=>Nat.blt p.1 n)=true->∀ d v,lk (E0++[(q,undef)]) d=some v->(d < n/\lk E0 d=some v)\/(d=q/\v=undef):=by
  intro E0
  induction E0 with
  | nil=>
    intro _ d v h
    by_cases e:q=d
    · subst e;rw [List.nil_append,lk_on] at h;cases h;exact .inr ⟨rfl,rfl⟩
    · rw [List.nil_append,lk_off e] at h;cases h
  | cons p r ih=>
    intro hl d v h
    obtain ⟨i,u⟩:=p
    simp only [List.all_cons,Bool.and_eq_true] at hl
    rw [List.cons_append] at h
    by_cases e:i=d
    · subst e;rw [lk_on] at h ⊢;exact .inl ⟨by have:=hl.1;rw [Nat.blt_eq] at this;exact this,h⟩
    · rw [lk_off e] at h ⊢;exact ih hl.2 d v h
theorem Slots.marked {E0:Env} {ds:List Deferred} (S:Slots a n E) (D:Nat) (hd:ds=mdefs D) (h:Sub E E0) (hlt:E0.all (fun p=>Nat.blt p.1 n)=true):Slots { a with defers:=ds } n (E0++[(D+(n+1),undef)]):=by
  have key:=lk_end (n:=n) (q:=D+(n+1)) (by omega) hlt
  refine ⟨S.size,fun v hv=>?_,fun D' v hv=>?_,fun d v hv=>?_⟩
  · rcases key _ _ hv with ⟨h1,_⟩ | ⟨h1,_⟩<;>omega
  · rcases key _ _ hv with ⟨h1,_⟩ | ⟨h1,_⟩
    · omega
    · have:D'=D:=by omega
      subst this;exact hd
  · rcases key _ _ hv with ⟨_,h1⟩ | ⟨h1,h2⟩
    · exact S.has d v (lk_sub h d v h1)
    · subst h1;subst h2
      have:=S.size
      rw [Array.getD_eq_getD_getElem?,Array.getElem?_eq_none (by simp only;omega)];rfl
theorem Slots.cleared {E0:Env} (S:Slots a n E) (h:Sub E E0) (hlt:E0.all (fun p=>Nat.blt p.1 n)=true):Slots { tmps:=a.tmps,defers:=[] } n (E0++[(n,undef)]):=by
  have key:=lk_end (n:=n) (q:=n) (Nat.le_refl _) hlt
  refine ⟨S.size,fun v hv=>rfl,fun D' v hv=>?_,fun d v hv=>?_⟩
  · rcases key _ _ hv with ⟨h1,_⟩ | ⟨h1,_⟩<;>omega
  · rcases key _ _ hv with ⟨_,h1⟩ | ⟨h1,h2⟩
    · exact S.has d v (lk_sub h d v h1)
    · subst h1;subst h2
      have:=S.size
      rw [Array.getD_eq_getD_getElem?,Array.getElem?_eq_none (by simp only;omega)];rfl
theorem Slots.params:∀ (ps:List (Nat×Value)) {a:Act} {E:Env},Slots a n E->a.defers=[]->ps.all (fun p=>Nat.blt p.1 n)=true->Slots { tmps:=ps.foldl (fun t p=>t.setIfInBounds p.1 p.2) a.tmps,defers:=[] } n (ps.reverse++E)
  | [],a,E,S,hd,_=>by
    have:a={ tmps:=a.tmps,defers:=[] }:=by rw [<-hd]
    rw [this] at S;exact S
  | p::ps,a,E,S,hd,hl=>by
    simp only [List.all_cons,Bool.and_eq_true] at hl
    have S1:=S.put hl.1 p.2
    have:=Slots.params ps S1 (by simpa [Act.put] using hd) hl.2
    simpa [Act.put] using this
theorem rt_enterM {f:FuncId} {fn:Func} {c:Code} {args:Array Value} {R:Value->World->Prop} (hf:P.funcs[f]? =some fn) (hb:fn.body=some c) (hn:fn.ntmps=n) (ha:Nat.ble args.size n=true)
    (K:∀ a,Slots a n (idx 0 args.toList++[(n,undef)])->c.wp P (bodyPostM Fence.wide 9 P fn fun e w'=>∃v,e=.returned v/\R v w') a w):Rt P f args w R:=by
  subst hn
  exact callsIn_wide.1 (callsIn_of_wp_marks (F:=Fence.wide) (n:=9) hf hb trivial (wpIn_wide.2 (K _ (Slots.init args _ (by simpa [Nat.ble_eq] using ha)))) rfl)
variable {fn:Func} {R:Value->World->Prop}
theorem b_ret2 {r r':ResultVar} {v v':Value} (S:Slots a n E) (H:Sat w L) (hres:fn.results=#[r,r']) (h:∀ w,Sat w L->(resOf P a.tmps r).run P w=.ok v w) (h':∀ w,Sat w L->(resOf P a.tmps r').run P w=.ok v' w) (hR:R (.tuple #[v,v']) w) (hm:lk E n=some undef:=by rfl):bodyPostM Fence.wide 9 P fn (fun e w'=>∃v,e=.returned v/\R v w') .ret a w:=by
  show LeavesInM _ _ _ _ _ _ a.defers .returning w
  rw [S.none_ undef hm]
  exact ⟨.tuple #[v,v'],by rw [run_results,hres];simp [h w H,h' w H],_,rfl,hR⟩
theorem Sat.pick2 {w:World} {A B:Res} (H:Sat w (A::B::L)):Sat w (B::A::L):=H.perm (List.Perm.swap _ _ _)
theorem Sat.setObj {w:World} {b:Nat} {o o':Obj} (H:Sat w (blk b o::L)):Sat (w.putObj b o') (blk b o'::L):=by
  obtain ⟨F,hF,hb,hk⟩:=H.head
  have hlt:b < w.heap.size:=hF b ((hk b).2 rfl)
  refine H.turn ⟨rfl,rfl,rfl,by simp [World.putObj]⟩ fun F hF hP=>⟨F,fun k hk=>⟨by simpa [World.putObj] using hF k hk,.inl hk⟩,⟨World.putObj_heap_same hlt,hP.2⟩,fun k hk hnf=>?_⟩
  have hne:b≠k:=fun e=>hnf ((hP.2 k).2 e.symm)
  exact World.putObj_heap_other (by omega)
theorem Sat.obj {w:World} {b:Nat} {o:Obj} (H:Sat w (blk b o::L)):w.heap[b]? =some o:=by
  obtain ⟨F,hF,hb,hk⟩:=H.head;exact hb
/-- the blocks of the marks -/
def marksR (C:Nat):Res:=star ((mdec C).map fun D=>blk D (.deferred (some [])))
theorem Sat.noMarks (H:Sat w L):Sat w (marksR 0::L):=sat_star.2 (by rw [mdec_zero];exact H)
theorem Sat.markIn {D C0 C:Nat} (hC:mdec C=D::mdec C0) (H:Sat w (blk D (.deferred (some []))::marksR C0::L)):Sat w (marksR C::L):=by
  refine sat_star.2 ?_
  rw [hC]
  have H1:=sat_star.1 (H.perm (List.Perm.swap _ _ _))
  refine H1.perm ?_
  exact List.perm_middle
theorem Sat.mark1 {D C:Nat} (hC:mdec C=D::mdec 0) (H:Sat w (blk D (.deferred (some []))::L)):Sat w (marksR C::L):=Sat.markIn hC (H.noMarks.perm (List.Perm.swap _ _ _))
theorem Slots.toCode (S:Slots a n E) (h:lk E n=some undef):Slots a n ((0+(n+1),undef)::E):=by
  refine ⟨S.size,fun v hv=>S.none_ v (by rwa [lk_off (by omega)] at hv),fun C v hv=>?_,fun d v hv=>?_⟩
  · by_cases e:0+(n+1)=C+(n+1)
    · have:C=0:=by omega
      subst this;rw [S.none_ undef h];unfold mdefs;rw [mdec_zero];rfl
    · rw [lk_off e] at hv;exact S.mark_ C v hv
  · by_cases e:0+(n+1)=d
    · subst e;rw [lk_on] at hv;cases hv
      have:=S.size
      rw [Array.getD_eq_getD_getElem?,Array.getElem?_eq_none (by omega)];rfl
    · rw [lk_off e] at hv;exact S.has d v hv
theorem Slots.noCode (S:Slots a n E) (h:lk E n=some undef):a.defers=mdefs 0:=by rw [S.none_ undef h];unfold mdefs;rw [mdec_zero];rfl
theorem leaves_marks {tmps:Array Value} {R:Ending->World->Prop}:∀ (ds:List Nat) {w:World},Sat w ((ds.map fun D=>blk D (.deferred (some [])))++L)->(∀ w',Sat w' L->LeavesInM Fence.wide 9 P fn tmps R [] .returning w')->
    LeavesInM Fence.wide 9 P fn tmps R (ds.map fun D=>{ target:=.collected D,args:=#[] }) .returning w
  | [],_,H,h=>h _ H
  | D::ds,w,H,h=>by
    have H':=H.setObj (o':=.deferred none)
    exact ⟨by simp,.inl ⟨D,_,rfl,run_takeDeferred H.obj,leaves_marks ds H'.drop h⟩⟩
section
variable {C:Nat} (k:Nat)
theorem m_ret1 {r:ResultVar} {v:Value} (S:Slots a n E) (H:Sat w (marksR C::L)) (hres:fn.results=#[r]) (h:∀ w,Sat w L->(resOf P a.tmps r).run P w=.ok v w) (hR:∀ w,Sat w L->R v w) [hm:Lk E (C+k) undef] (hk:n+1=k:=by rfl):bodyPostM Fence.wide 9 P fn (fun e w'=>∃v,e=.returned v/\R v w') .ret a w:=by
  show LeavesInM _ _ _ _ _ _ a.defers .returning w
  rw [S.mark_ C undef (by rw [hk];exact hm.h)]
  exact leaves_marks _ (sat_star.1 H) fun w' H'=>⟨v,by rw [run_results,hres];simp [h _ H'],_,rfl,hR _ H'⟩
theorem m_ret2 {r r':ResultVar} {v v':Value} (S:Slots a n E) (H:Sat w (marksR C::L)) (hres:fn.results=#[r,r']) (h:∀ w,Sat w L->(resOf P a.tmps r).run P w=.ok v w) (h':∀ w,Sat w L->(resOf P a.tmps r').run P w=.ok v' w) (hR:∀ w,Sat w L->R (.tuple #[v,v']) w) [hm:Lk E (C+k) undef] (hk:n+1=k:=by rfl):bodyPostM Fence.wide 9 P fn (fun e w'=>∃v,e=.returned v/\R v w') .ret a w:=by
  show LeavesInM _ _ _ _ _ _ a.defers .returning w
  rw [S.mark_ C undef (by rw [hk];exact hm.h)]
  exact leaves_marks _ (sat_star.1 H) fun w' H'=>⟨.tuple #[v,v'],by rw [run_results,hres];simp [h _ H',h' _ H'],_,rfl,hR _ H'⟩
end
/-! ### branches within a round -/
section
variable {Q:Exit->Act->World->Prop} {l m:Nat}
theorem in_cond {c:Operand} {x y:Code} {b:Bool} (S:Slots a n E) (hc:ev E c=some (.bool b)) (ht:b=true->x.wpIn (WI l) m P Q a w) (hf:b=false->y.wpIn (WI l) m P Q a w):(Code.cond c x y).wpIn (WI l) m P Q a w:=wpIn_cond_split (S.eval hc) ht hf
theorem in_test {c:Operand} {x y:Code} {p:Prop} [Decidable p] (S:Slots a n E) (hc:ev E c=some (.bool (decide p))) (ht:p->x.wpIn (WI l) m P Q a w) (hf:¬ p->y.wpIn (WI l) m P Q a w):(Code.cond c x y).wpIn (WI l) m P Q a w:=
  in_cond S hc (fun h=>ht (of_decide_eq_true h)) (fun h=>hf (of_decide_eq_false h))
end
end

/-! ### iterators, and the statement -/
section
variable {P:Program} {α:Type}
def Iter (P:Program) (gf:Nat) (lb:Array Value) (encs:α->Array Value) (xs:List α) (Pw:World->Prop):Prop:=
  ∀ (l:Nat) (J:Nat->World->Prop) (W:World),(∀ i W,J i W->Pw W)->(∀ i W W',J i W->Hp W W'->(∀ k,k < W.heap.size->W'.heap[k]? =W.heap[k]?)->J i W')->
    (∀ i x W,xs[i]? =some x->J i W->YieldAt Fence.wide 7 P l (encs x) W fun e W'=>e=.returned (.bool true)/\J (i+1) W')->J 0 W->
    CallsIn Fence.wide 8 P gf (#[.func (.yield l) #[] #[]]++lb) W fun e W'=>(∃v,e=.returned v)/\J xs.length W'
/-- .. which stops where it is told so -/
def IterS (P:Program) (gf:Nat) (lb:Array Value) (encs:α->Array Value) (xs:List α) (Pw:World->Prop):Prop:=
  ∀ (l:Nat) (J:Nat->World->Prop) (T:World->Prop) (W:World),(∀ i W,J i W->Pw W)->(∀ i W W',J i W->Hp W W'->(∀ k,k < W.heap.size->W'.heap[k]? =W.heap[k]?)->J i W')->
    (∀ W W',T W->Hp W W'->(∀ k,k < W.heap.size->W'.heap[k]? =W.heap[k]?)->T W')->
    (∀ i x W,xs[i]? =some x->J i W->YieldAt Fence.wide 7 P l (encs x) W fun e W'=>(e=.returned (.bool true)/\J (i+1) W')\/(e=.returned (.bool false)/\T W'))->J 0 W->
    CallsIn Fence.wide 8 P gf (#[.func (.yield l) #[] #[]]++lb) W fun e W'=>(∃v,e=.returned v)/\(J xs.length W'\/T W')
def leftBy (K:World->Prop):Exit->Act->World->Prop
  | .ret,_,w=>K w
  | _,_,_=>False
theorem left_ret {K:World->Prop} {a:Act} {w:World} (h:K w):leftBy K .ret a w:=h
theorem wp_range {ι κ:Type} {Q:Exit->Act->World->Prop} {a:Act} {w:World} {n:Nat} {E:Env} {g:Operand} {ps:Array Tmp} {assign body:Code} {gf:Nat} {lb:Array Value} {encs:α->Array Value} {xs:List α} {Pw:World->Prop}
    (M:Nat->ι->List Res) (Fc:Nat->ι->Prop) (E0:Env) (E1:α->Env) (S:Slots a n E) (g0:ι) (H:Sat w (M 0 g0)) (hF0:Fc 0 g0)
    (hg:ev E g=some (.func (.func gf) #[] lb)) (eg:∀ args w,(callFunc gf args).run P w=.ok (.enter gf args) w) (hit:Iter P gf lb encs xs Pw) (hps:∀ x,(encs x).size=ps.size)
    (hPw:∀ i g W,Fc i g->Sat W (M i g)->Pw W) (hE1:∀ x,((ps.toList.zip (encs x).toList).reverse++(E0++[(n,undef)]))=E1 x) (hpl:∀ x,(ps.toList.zip (encs x).toList).all (fun p=>Nat.blt p.1 n)=true)
    (E2:α->κ->Env) (M2:Nat->ι->α->κ->List Res)
    (hassign:∀ l D i g x a' W r,xs[i]? =some x->Fc i g->Slots a' n (E1 x)->Sat W (blk D (.deferred (some []))::blk l (.loop r)::M i g)->
      assign.wpIn (WI l) 7 P (Exit.then (fun a1 w1=>∃k,Slots a1 n (E2 x k)/\Sat w1 (blk D (.deferred (some []))::blk l (.loop r)::M2 i g x k)) (fun _ _ _=>False)) a' W)
    (hbody:∀ l D i g x k a' W r,xs[i]? =some x->Fc i g->Slots a' n (E2 x k)->Sat W (blk D (.deferred (some []))::blk l (.loop r)::M2 i g x k)->
      body.wpIn (WI l) 7 P (Exit.then (fun _ w1=>∃g',Sat w1 (blk D (.deferred (some []))::blk l (.loop r)::M (i+1) g')/\Fc (i+1) g') (fun _ _ _=>False)) a' W)
    (C0:Nat) (hdf:a.defers=mdefs C0) (hE:Sub E E0) (hlt:E0.all (fun p=>Nat.blt p.1 n)=true)
    (hdone:∀ D C a' W g',mdec C=D::mdec C0->Slots a' n (E0++[(C+(n+1),undef)])->Sat W (blk D (.deferred (some []))::M xs.length g')->Fc xs.length g'->Q .normal a' W):
    (Code.rangeFunc g ps assign body).wp P Q a w:=by
  refine wpIn_wide (n:=9).1 ?_
  refine wpIn_rangeFunc ?_
  intro fn _
  have hgv:=S.eval hg
  obtain ⟨rec,hrec⟩:∃rec:LoopState->Option Code->Loop,rec=fun st pe=>{ state:=st,pending:=pe,fn,tmps:=a.tmps,params:=ps,assign,body,defers:=w.heap.size }:=⟨_,rfl⟩
  have H1:=(H.alloc (.deferred (some []))).alloc (.loop (rec .ready none))
  rw [World.size_alloc] at H1
  obtain ⟨W1,hW1⟩:∃W1,(w.alloc (.deferred (some []))).alloc (.loop (rec .ready none))=W1:=⟨_,rfl⟩
  rw [hW1] at H1
  have H1:=H1.pick2
  refine ⟨w.heap.size+1,[{ target:=.collected w.heap.size,args:=#[] }],W1,{ target:=.fn (.func gf) lb,args:=#[.func (.yield (w.heap.size+1)) #[] #[]] },W1,gf,
    #[.func (.yield (w.heap.size+1)) #[] #[]]++lb,W1,?_,?_,?_,?_,fun h=>by simp [Fence.wide] at h,?_⟩
  · rw [<-hW1,hrec];exact run_enterLoop_outer _ _ _ _ _
  · simp only [resolve,hgv]
    simp [go_sem]
  · intro f' _;trivial
  · simp [invoke,go_sem,eg]
  · refine (hit (w.heap.size+1) (fun i W=>∃g,Sat W (blk w.heap.size (.deferred (some []))::blk (w.heap.size+1) (.loop (rec .ready none))::M i g)/\Fc i g) W1 ?_ ?_ ?_ ⟨g0,H1,hF0⟩).mono ?_
    · rintro i W ⟨g,HW,hF⟩
      exact hPw i g W hF HW.drop.drop
    · rintro i W W' ⟨g,HW,hF⟩ hp hk
      exact ⟨g,HW.grow hp hk,hF⟩
    · rintro i x W hx ⟨g,HW,hF⟩
      have hl:=HW.drop.obj
      have hy:=run_yield (P:=P) (args:=encs x) hl (by rw [hrec];exact hps x)
      rw [hrec] at hy
      refine ⟨fn,_,assign,body,hy,roundIn_of_wpIn trivial ?_⟩
      have ez:(ps.zip (encs x)).toList=ps.toList.zip (encs x).toList:=by simp
      have S0:=Slots.params (ps.toList.zip (encs x).toList) (S.cleared hE hlt) rfl (hpl x)
      rw [hE1 x,<-ez] at S0
      have e0:(ps.zip (encs x)).toList.foldl (fun (t:Array Value) p=>t.setIfInBounds p.1 p.2) a.tmps=(ps.zip (encs x)).foldl (fun tmps (t,a)=>tmps.setIfInBounds t a) a.tmps:=by
        rw [<-Array.foldl_toList]
      rw [e0] at S0
      refine wpIn_mono (hassign _ _ i g x _ W _ hx hF S0 HW) ?_
      rintro e a1 w1 h1
      cases e with
      | normal=>
        obtain ⟨k,S1,HW1⟩:=h1
        have hl1:=HW1.drop.obj
        refine ⟨_,run_beginRound hl1 (by rw [hrec]),?_⟩
        have HW2:=((HW1.pick2).setObj (o':=.loop { rec .ready none with state:=.busy })).pick2
        refine wpIn_mono (hbody _ _ i g x k a1 _ _ hx hF S1 HW2) ?_
        rintro e a3 w3 h3
        cases e with
        | normal=>
          obtain ⟨g',HW3,hF'⟩:=h3
          have hl3:=HW3.drop.obj
          have hr:=run_endRound (P:=P) none hl3
          refine ⟨_,_,hr,rfl,g',?_,hF'⟩
          have:=((HW3.pick2).setObj (o':=.loop (rec .ready none))).pick2
          rw [hrec] at this ⊢
          exact this
        | _=>exact h3.elim
      | _=>exact h1.elim
    · rintro e W2 ⟨⟨v,rfl⟩,g,HW,hF⟩
      have hl:=HW.drop.obj
      have he:=run_endLoop (P:=P) hl (by rw [hrec];simp)
      have ep:(rec .ready none).pending=none:=by rw [hrec]
      refine ⟨none,_,he.trans (congrArg (fun p=>Result.ok p _) ep),?_⟩
      have HW2:=((HW.pick2).setObj (o':=.loop { rec .ready none with state:=.exhausted })).drop
      exact hdone w.heap.size (mcons w.heap.size C0) _ _ g (mdec_cons _ _) (S.marked (mcons w.heap.size C0) (by rw [hdf];unfold mdefs;rw [mdec_cons];rfl) hE hlt) HW2 hF
theorem wp_range2 {ι κ σ:Type} {Q:Exit->Act->World->Prop} {a:Act} {w:World} {n:Nat} {E:Env} {g:Operand} {ps:Array Tmp} {assign body:Code} {gf:Nat} {lb:Array Value} {encs:α->Array Value} {xs:List α} {Pw:World->Prop}
    (M:Nat->ι->List Res) (Fc:Nat->ι->Prop) (E0:Env) (E1:α->Env) (S:Slots a n E) (g0:ι) (H:Sat w (M 0 g0)) (hF0:Fc 0 g0)
    (hg:ev E g=some (.func (.func gf) #[] lb)) (eg:∀ args w,(callFunc gf args).run P w=.ok (.enter gf args) w) (hit:IterS P gf lb encs xs Pw) (Mx:σ->List Res) (Fx:σ->Prop) (hps:∀ x,(encs x).size=ps.size)
    (hPw:∀ i g W,Fc i g->Sat W (M i g)->Pw W) (hE1:∀ x,((ps.toList.zip (encs x).toList).reverse++(E0++[(n,undef)]))=E1 x) (hpl:∀ x,(ps.toList.zip (encs x).toList).all (fun p=>Nat.blt p.1 n)=true)
    (E2:α->κ->Env) (M2:Nat->ι->α->κ->List Res)
    (hassign:∀ l D i g x a' W r,xs[i]? =some x->Fc i g->Slots a' n (E1 x)->Sat W (blk D (.deferred (some []))::blk l (.loop r)::M i g)->
      assign.wpIn (WI l) 7 P (Exit.then (fun a1 w1=>∃k,Slots a1 n (E2 x k)/\Sat w1 (blk D (.deferred (some []))::blk l (.loop r)::M2 i g x k)) (fun _ _ _=>False)) a' W)
    (hbody:∀ l D i g x k a' W r,xs[i]? =some x->Fc i g->Slots a' n (E2 x k)->Sat W (blk D (.deferred (some []))::blk l (.loop r)::M2 i g x k)->
      body.wpIn (WI l) 7 P (Exit.then (fun _ w1=>∃g',Sat w1 (blk D (.deferred (some []))::blk l (.loop r)::M (i+1) g')/\Fc (i+1) g') (leftBy fun w1=>∃s,Sat w1 (blk D (.deferred (some []))::blk l (.loop r)::Mx s)/\Fx s)) a' W)
    (C0:Nat) (hdf:a.defers=mdefs C0) (hE:Sub E E0) (hlt:E0.all (fun p=>Nat.blt p.1 n)=true)
    (hstop:∀ D C a' W s,mdec C=D::mdec C0->Slots a' n (E0++[(C+(n+1),undef)])->Sat W (blk D (.deferred (some []))::Mx s)->Fx s->Q .ret a' W)
    (hdone:∀ D C a' W g',mdec C=D::mdec C0->Slots a' n (E0++[(C+(n+1),undef)])->Sat W (blk D (.deferred (some []))::M xs.length g')->Fc xs.length g'->Q .normal a' W):
    (Code.rangeFunc g ps assign body).wp P Q a w:=by
  refine wpIn_wide (n:=9).1 ?_
  refine wpIn_rangeFunc ?_
  intro fn _
  have hgv:=S.eval hg
  obtain ⟨rec,hrec⟩:∃rec:LoopState->Option Code->Loop,rec=fun st pe=>{ state:=st,pending:=pe,fn,tmps:=a.tmps,params:=ps,assign,body,defers:=w.heap.size }:=⟨_,rfl⟩
  have H1:=(H.alloc (.deferred (some []))).alloc (.loop (rec .ready none))
  rw [World.size_alloc] at H1
  obtain ⟨W1,hW1⟩:∃W1,(w.alloc (.deferred (some []))).alloc (.loop (rec .ready none))=W1:=⟨_,rfl⟩
  rw [hW1] at H1
  have H1:=H1.pick2
  refine ⟨w.heap.size+1,[{ target:=.collected w.heap.size,args:=#[] }],W1,{ target:=.fn (.func gf) lb,args:=#[.func (.yield (w.heap.size+1)) #[] #[]] },W1,gf,
    #[.func (.yield (w.heap.size+1)) #[] #[]]++lb,W1,?_,?_,?_,?_,fun h=>by simp [Fence.wide] at h,?_⟩
  · rw [<-hW1,hrec];exact run_enterLoop_outer _ _ _ _ _
  · simp only [resolve,hgv]
    simp [go_sem]
  · intro f' _;trivial
  · simp [invoke,go_sem,eg]
  · refine (hit (w.heap.size+1) (fun i W=>∃g,Sat W (blk w.heap.size (.deferred (some []))::blk (w.heap.size+1) (.loop (rec .ready none))::M i g)/\Fc i g) (fun W=>∃s,Sat W (blk w.heap.size (.deferred (some []))::blk (w.heap.size+1) (.loop (rec .done (some .ret)))::Mx s)/\Fx s) W1 ?_ ?_ ?_ ?_ ⟨g0,H1,hF0⟩).mono ?_
    · rintro i W ⟨g,HW,hF⟩
      exact hPw i g W hF HW.drop.drop
    · rintro i W W' ⟨g,HW,hF⟩ hp hk
      exact ⟨g,HW.grow hp hk,hF⟩
    · rintro W W' ⟨s,HW,hF⟩ hp hk
      exact ⟨s,HW.grow hp hk,hF⟩
    · rintro i x W hx ⟨g,HW,hF⟩
      have hl:=HW.drop.obj
      have hy:=run_yield (P:=P) (args:=encs x) hl (by rw [hrec];exact hps x)
      rw [hrec] at hy
      refine ⟨fn,_,assign,body,hy,roundIn_of_wpIn trivial ?_⟩
      have ez:(ps.zip (encs x)).toList=ps.toList.zip (encs x).toList:=by simp
      have S0:=Slots.params (ps.toList.zip (encs x).toList) (S.cleared hE hlt) rfl (hpl x)
      rw [hE1 x,<-ez] at S0
      have e0:(ps.zip (encs x)).toList.foldl (fun (t:Array Value) p=>t.setIfInBounds p.1 p.2) a.tmps=(ps.zip (encs x)).foldl (fun tmps (t,a)=>tmps.setIfInBounds t a) a.tmps:=by
        rw [<-Array.foldl_toList]
      rw [e0] at S0
      refine wpIn_mono (hassign _ _ i g x _ W _ hx hF S0 HW) ?_
      rintro e a1 w1 h1
      cases e with
      | normal=>
        obtain ⟨k,S1,HW1⟩:=h1
        have hl1:=HW1.drop.obj
        refine ⟨_,run_beginRound hl1 (by rw [hrec]),?_⟩
        have HW2:=((HW1.pick2).setObj (o':=.loop { rec .ready none with state:=.busy })).pick2
        refine wpIn_mono (hbody _ _ i g x k a1 _ _ hx hF S1 HW2) ?_
        rintro e a3 w3 h3
        cases e with
        | normal=>
          obtain ⟨g',HW3,hF'⟩:=h3
          have hl3:=HW3.drop.obj
          have hr:=run_endRound (P:=P) none hl3
          refine ⟨_,_,hr,.inl ⟨rfl,g',?_,hF'⟩⟩
          have:=((HW3.pick2).setObj (o':=.loop (rec .ready none))).pick2
          rw [hrec] at this ⊢
          exact this
        | ret=>
          obtain ⟨s,HW3,hF'⟩:=h3
          have hl3:=HW3.drop.obj
          have hr:=run_endRound (P:=P) (some .ret) hl3
          refine ⟨_,_,hr,.inr ⟨rfl,s,?_,hF'⟩⟩
          have:=((HW3.pick2).setObj (o':=.loop (rec .done (some .ret)))).pick2
          rw [hrec] at this ⊢
          exact this
        | _=>exact h3.elim
      | _=>exact h1.elim
    · rintro e W2 ⟨⟨v,rfl⟩,hJ⟩
      rcases hJ with ⟨g,HW,hF⟩ | ⟨s,HW,hF⟩
      · have hl:=HW.drop.obj
        have he:=run_endLoop (P:=P) hl (by rw [hrec];simp)
        have ep:(rec .ready none).pending=none:=by rw [hrec]
        refine ⟨none,_,he.trans (congrArg (fun p=>Result.ok p _) ep),?_⟩
        have HW2:=((HW.pick2).setObj (o':=.loop { rec .ready none with state:=.exhausted })).drop
        exact hdone w.heap.size (mcons w.heap.size C0) _ _ g (mdec_cons _ _) (S.marked (mcons w.heap.size C0) (by rw [hdf];unfold mdefs;rw [mdec_cons];rfl) hE hlt) HW2 hF
      · have hl:=HW.drop.obj
        have he:=run_endLoop (P:=P) hl (by rw [hrec];simp)
        have ep:(rec .done (some .ret)).pending=some .ret:=by rw [hrec]
        refine ⟨some .ret,_,he.trans (congrArg (fun p=>Result.ok p _) ep),wpIn_ret ?_⟩
        have HW2:=((HW.pick2).setObj (o':=.loop { rec .done (some .ret) with state:=.exhausted })).drop
        exact hstop w.heap.size (mcons w.heap.size C0) _ _ s (mdec_cons _ _) (S.marked (mcons w.heap.size C0) (by rw [hdf];unfold mdefs;rw [mdec_cons];rfl) hE hlt) HW2 hF
end
end Go.Cg
