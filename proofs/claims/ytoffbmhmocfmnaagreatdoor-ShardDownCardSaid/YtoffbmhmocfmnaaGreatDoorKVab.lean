/- Laws of the model, walks of functions of the program, and what they rest on. No condition. -/
import Derived.Test.YtoffbmhmocfmnaaGreatDoorKVaa
import Derived.WalkSpells
import Derived.Deep.Quiet
section
namespace Go.Cg
set_option linter.unusedVariables false
set_option linter.unusedSimpArgs false
open Go.RowKit

/-! ### slots -/
def lk:List (Nat×Value)->Nat->Option Value
  | [],_=>none
  | (i,v)::r,d=>match Nat.beq i d with
    | true=>some v
    | false=>lk r d
def ev (E:List (Nat×Value)):Operand->Option Value
  | .tmp t=>lk E t
  | .const v=>some v
  | .global g=>some (.pointer (some ⟨g,0,none⟩))
  | .func f=>some (.func (.func f) #[] #[])

/-- a row of numbers as one number -/
def mcons (D C:Nat):Nat:=2 ^ D*(2*C+1)
def mun (n:Nat):Nat×Nat:=if h:n%2=1\/n=0 then (0,n / 2) else ((mun (n / 2)).1+1,(mun (n / 2)).2)
termination_by n
decreasing_by omega
theorem mun_cons (C:Nat):∀ D:Nat,mun (mcons D C)=(D,C)
  | 0=>by
    have e:mcons 0 C=2*C+1:=by unfold mcons;omega
    rw [e,mun,dif_pos (by omega)]
    congr 1;omega
  | D+1=>by
    have e:mcons (D+1) C=2*mcons D C:=by unfold mcons;rw [Nat.pow_succ,Nat.mul_comm (2 ^ D) 2,Nat.mul_assoc]
    have hp:0 < mcons D C:=Nat.mul_pos (Nat.pow_pos (by omega)) (by omega)
    rw [e,mun,dif_neg (by omega),show 2*mcons D C / 2=mcons D C from by omega,mun_cons C D]
theorem mun_lt:∀ n:Nat,n≠0->(mun n).2 < n:=by
  intro n
  induction n using Nat.strongRecOn with
  | ind n ih=>
    intro h
    rw [mun]
    by_cases h1:n%2=1\/n=0
    · rw [dif_pos h1];show n / 2 < n;omega
    · rw [dif_neg h1]
      have:=ih (n / 2) (by omega) (by omega)
      show (mun (n / 2)).2 < n;omega
def mdec (n:Nat):List Nat:=if h:n=0 then [] else (mun n).1::mdec (mun n).2
termination_by n
decreasing_by exact mun_lt n h
@[simp] theorem mdec_zero:mdec 0=[]:=by rw [mdec,dif_pos rfl]
@[simp] theorem mdec_cons (D C:Nat):mdec (mcons D C)=D::mdec C:=by
  have hp:0 < mcons D C:=Nat.mul_pos (Nat.pow_pos (by omega)) (by omega)
  rw [mdec,dif_neg (by omega),mun_cons]
/-- the marks of ranges over functions, by such a number -/
def mdefs (C:Nat):List Deferred:=(mdec C).map fun D=>{ target:=.collected D,args:=#[] }
structure Slots (a:Act) (n:Nat) (E:List (Nat×Value)):Prop where
  size:a.tmps.size=n
  none_:∀ v,lk E n=some v->a.defers=[]
  mark_:∀ C v,lk E (C+(n+1))=some v->a.defers=mdefs C
  has:∀ d v,lk E d=some v->a.tmps.getD d undef=v

theorem Slots.of {a:Act} {n:Nat} {E E':List (Nat×Value)} (S:Slots a n E) (h:∀ d v,lk E' d=some v->lk E d=some v):Slots a n E':=
  ⟨S.size,fun v hv=>S.none_ v (h _ _ hv),fun D v hv=>S.mark_ D v (h _ _ hv),fun d v hv=>S.has d v (h _ _ hv)⟩
theorem lk_off {d k:Nat} {v:Value} {E:List (Nat×Value)} (h:d≠k):lk ((d,v)::E) k=lk E k:=by
  show (match Nat.beq d k with | true=>some v | false=>lk E k)=_
  cases hb:Nat.beq d k with
  | true=>exact absurd (Nat.eq_of_beq_eq_true hb) h
  | false=>rfl
theorem lk_on {d:Nat} {v:Value} {E:List (Nat×Value)}:lk ((d,v)::E) d=some v:=by
  show (match Nat.beq d d with | true=>some v | false=>lk E d)=_
  rw [Nat.beq_refl]
theorem Slots.told {a:Act} {n d:Nat} {v:Value} {E:List (Nat×Value)} (S:Slots a n E) (h:lk E d=some v) (v':Value) (e:v=v'):Slots a n ((d,v')::E):=S.of fun k u hk=>by
  subst e
  by_cases hd:d=k
  · subst hd;rw [lk_on] at hk;rw [h];exact hk
  · rwa [lk_off hd] at hk
theorem Slots.eval {a:Act} {n:Nat} {E:List (Nat×Value)} (S:Slots a n E) {x:Operand} {v:Value} (h:ev E x=some v):a.eval x=v:=by
  cases x with
  | tmp t=>exact S.has t v h
  | const u=>simp only [ev,Option.some.injEq] at h;exact h
  | global g=>simp only [ev,Option.some.injEq] at h;exact h
  | func f=>simp only [ev,Option.some.injEq] at h;exact h

theorem Slots.put {a:Act} {n:Nat} {E:List (Nat×Value)} (S:Slots a n E) {d:Nat} (hd:Nat.blt d n=true) (v:Value):Slots (a.put (some d) v) n ((d,v)::E):=by
  have hd':d < n:=Nat.lt_of_lt_of_le (Nat.lt_succ_self d) (by simpa [Nat.blt] using hd)
  refine ⟨by simp [Act.put,S.size],fun u h=>S.none_ u (by rwa [lk_off (by omega)] at h),fun D u h=>S.mark_ D u (by rwa [lk_off (by omega)] at h),fun i u h=>?_⟩
  have hs:=S.size
  unfold lk at h
  cases hb:Nat.beq d i with
  | true=>
    rw [hb] at h
    have e:=Nat.eq_of_beq_eq_true hb
    subst e
    simp only [Option.some.injEq] at h
    subst h
    simp [Act.put,hs,hd']
  | false=>
    rw [hb] at h
    have e:=Nat.ne_of_beq_eq_false hb
    have:=S.has i u h
    simp only [Act.put,Array.getD_eq_getD_getElem?] at this ⊢
    rw [Array.getElem?_setIfInBounds_ne (by omega)]
    exact this

/-- all that is told below holds above -/
def Sub (E:List (Nat×Value)):List (Nat×Value)->Prop
  | []=>True
  | (d,v)::r=>lk E d=some v/\Sub E r
theorem lk_sub {E:List (Nat×Value)}:∀ {E':List (Nat×Value)},Sub E E'->∀ d v,lk E' d=some v->lk E d=some v
  | (i,u)::r,⟨h1,h2⟩,d,v,h=>by
    unfold lk at h
    cases hb:Nat.beq i d with
    | true=>rw [hb] at h;have e:=Nat.eq_of_beq_eq_true hb;subst e;simp only [Option.some.injEq] at h;subst h;exact h1
    | false=>rw [hb] at h;exact lk_sub h2 d v h
theorem Slots.sub {a:Act} {n:Nat} {E E':List (Nat×Value)} (S:Slots a n E) (h:Sub E E'):Slots a n E':=S.of (lk_sub h)

/-- the guard: is the operation wanted? -/
def Wt (ops:Array Oper) (E:List (Nat×Value)) (o:Oper):Option Bool:=
  match o.guard with
  | none=>some true
  | some (j,want)=>match (ops[j]?).bind (·.dst) with
    | some d=>match lk E d with
      | some (.bool b)=>some (b==want)
      | some (.tuple _)=>some false
      | _=>none
    | none=>none

theorem Slots.wanted {a:Act} {n:Nat} {E:List (Nat×Value)} (S:Slots a n E) {ops:Array Oper} {o:Oper} {b:Bool} (h:Wt ops E o=some b):Region.wanted o (yielded ops a.tmps)=b:=by
  unfold Wt at h
  unfold Region.wanted
  split at h
  · rename_i hg;rw [hg];simpa using h
  · rename_i j want hg
    rw [hg]
    split at h
    · rename_i d hd
      split at h
      · rename_i v hv
        have:=S.has d _ hv
        simp only [Option.some.injEq] at h
        rw [<-h]
        have hgd:a.tmps[d]? =some (.bool v):=by
          rw [Array.getD_eq_getD_getElem?] at this
          cases hx:a.tmps[d]? with
          | none=>rw [hx] at this;simp [undef] at this
          | some y=>rw [hx] at this;simp at this;rw [this]
        simp [yielded,hd,hgd]
      · rename_i vs hv
        have:=S.has d _ hv
        simp only [Option.some.injEq] at h
        rw [<-h]
        have hgd:a.tmps[d]? =some (.tuple vs)\/a.tmps[d]? =none:=by
          rw [Array.getD_eq_getD_getElem?] at this
          cases hx:a.tmps[d]? with
          | none=>exact .inr rfl
          | some y=>rw [hx] at this;simp at this;rw [this];exact .inl rfl
        rcases hgd with hgd | hgd<;>simp [yielded,hd,hgd]
      · cases h
    · cases h

section
variable {P:Program} {ops:Array Oper} {Q:Exit->Act->World->Prop} {a:Act} {w:World} {rest:List Oper} {o:Oper} {L:List Res} {n:Nat} {E:List (Nat×Value)}

/-- wherever the resources stand, the operation yields this and turns nothing -/
def Yl (P:Program) (L:List Res) (o:Oper) (a:Act) (v:Value):Prop:=∀ w,Sat w L->(execOp a.eval o).run P w=.ok (.value v) w

theorem wpList_wanted (hw:Region.wanted o (yielded ops a.tmps)=true) (h:o.wp P a w (wpList P ops Q rest) Q):wpList P ops Q (o::rest) a w:=by
  unfold wpList;rw [if_pos hw];exact .inl h

theorem r_y {d:Nat} {v:Value} (S:Slots a n E) (H:Sat w L) (hy:Yl P L o a v) (hd:o.dst=some d) (hn:Nat.blt d n=true) (hw:Wt ops E o=some true)
    (K:∀ a',Slots a' n ((d,v)::E)->wpList P ops Q rest a' w):wpList P ops Q (o::rest) a w:=
  wpList_wanted (S.wanted hw) (by unfold Oper.wp;rw [hy w H];simp only [Oper.upon,hd];exact K _ (S.put hn v))

theorem r_skip {d:Nat} (S:Slots a n E) (hd:o.dst=some d) (hn:Nat.blt d n=true) (hw:Wt ops E o=some false) (K:∀ a',Slots a' n ((d,undef)::E)->wpList P ops Q rest a' w):wpList P ops Q (o::rest) a w:=by
  unfold wpList;rw [S.wanted hw];simp only [Bool.false_eq_true,if_false,hd];exact K _ (S.put hn undef)
/-! ### what operations yield -/
theorem y_move {x:Operand} {v:Value} (S:Slots a n E) (ho:o.op=.move x) (hx:ev E x=some v):Yl P L o a v:=fun w _=>by
  simp only [execOp,ho,S.eval hx];rfl
theorem y_assign {x:Operand} {v:Value} (S:Slots a n E) (ho:o.op=.assign x) (hx:ev E x=some v):Yl P L o a v:=fun w _=>by
  simp only [execOp,ho,S.eval hx];rfl
theorem y_pickT {c x y:Operand} {v:Value} (S:Slots a n E) (ho:o.op=.pick c x y) (hc:ev E c=some (.bool true)) (hx:ev E x=some v):Yl P L o a v:=fun w _=>by
  simp only [execOp,ho,S.eval hc,S.eval hx];rfl
theorem y_pickF {c x y:Operand} {v:Value} (S:Slots a n E) (ho:o.op=.pick c x y) (hc:ev E c=some (.bool false)) (hx:ev E y=some v):Yl P L o a v:=fun w _=>by
  simp only [execOp,ho,S.eval hc,S.eval hx];rfl

theorem yl_val {s:Sem Value} {v:Value} (he:execOp a.eval o=(do pure (.value (<-s)))) (hr:∀ w,Sat w L->s.run P w=.ok v w):Yl P L o a v:=fun w H=>by
  rw [he];simp only [Sem.run_bind,hr w H,Result.andThen_ok,Sem.run_pure]

def FieldAt (P:Program) (s f k:Nat):Prop:=∀ (w:World) (b o:Nat),(Instr.fieldAt s (.pointer (some ⟨b,o,none⟩)) f).run P w=.ok (.pointer (some ⟨b,o+k,none⟩)) w
theorem y_fieldAddr {s f k b j:Nat} {x:Operand} (S:Slots a n E) (ho:o.op=.fieldAddr s x f) (hx:ev E x=some (.pointer (some ⟨b,j,none⟩))) (hf:FieldAt P s f k):Yl P L o a (.pointer (some ⟨b,j+k,none⟩)):=
  yl_val (s:=Instr.fieldAt s (a.eval x) f) (by simp only [execOp,ho]) fun w _=>by rw [S.eval hx];exact hf w b j

/-- types that are kept in one cell -/
def Plain (P:Program) (t:TypeId):Prop:=∀ w,(isAgg t).run P w=.ok false w
/-- types of several cells -/
def Agg (P:Program) (t:TypeId) (s:Nat):Prop:=∀ w,(isAgg t).run P w=.ok true w/\(sizeOf t).run P w=.ok s w

theorem run_load {w:World} {ad:Addr} {v:Value} (h:w.cell? ad=some v):(load ad).run P w=.ok v w:=by simp [load,Sem.run,h]

theorem run_loadCellsFrom {w:World} {b j:Nat}:∀ (vs:List Value) (i:Nat) (acc:Array Value),(∀ k v,vs[k]? =some v->w.cell? ⟨b,j+(i+k),none⟩=some v)->(loadCellsFrom ⟨b,j,none⟩ i vs.length acc).run P w=.ok (acc++vs.toArray) w
  | [],i,acc,_=>by simp [loadCellsFrom]
  | v::vs,i,acc,h=>by
    have h0:=h 0 v rfl
    simp only [Nat.add_zero] at h0
    simp only [List.length_cons,loadCellsFrom,add_lit,Sem.run_bind,run_load h0,Result.andThen_ok]
    rw [run_loadCellsFrom vs (i+1) (acc.push v) fun k u hu=>by have:=h (k+1) u hu;rwa [show i+1+k=i+(k+1) from by omega]]
    simp

theorem run_loadAgg {w:World} {t:TypeId} {b j s:Nat} (hA:Agg P t s) (vs:List Value) (hs:vs.length=s) (h:∀ k v,vs[k]? =some v->w.cell? ⟨b,j+k,none⟩=some v):(Instr.loadAt t (.pointer (some ⟨b,j,none⟩))).run P w=.ok (.agg vs.toArray) w:=by
  obtain ⟨h1,h2⟩:=hA w
  have h3:=run_loadCellsFrom (P:=P) (w:=w) (b:=b) (j:=j) vs 0 #[] (fun k v hk=>by simpa using h k v hk)
  rw [hs] at h3
  simp only [Instr.loadAt,Instr.sureAddr,loadVar,Sem.run_bind,Sem.run_pure,Result.andThen_ok,h1,if_true,h2,loadCells,h3]
  simp

theorem y_loadAt {t b j:Nat} {x:Operand} {v:Value} (S:Slots a n E) (ho:o.op=.load t x) (hx:ev E x=some (.pointer (some ⟨b,j,none⟩))) (hp:Plain P t) (hc:∀ w,Sat w L->w.cell? ⟨b,j,none⟩=some v):Yl P L o a v:=
  yl_val (s:=Instr.loadAt t (a.eval x)) (by simp only [execOp,ho]) fun w H=>by
    rw [S.eval hx]
    simp only [Instr.loadAt,Instr.sureAddr,loadVar,Sem.run_bind,Sem.run_pure,Result.andThen_ok,hp w,Bool.false_eq_true,if_false,run_load (hc w H)]
theorem y_loadAggAt {t b j s:Nat} {x:Operand} (vs:List Value) (S:Slots a n E) (ho:o.op=.load t x) (hx:ev E x=some (.pointer (some ⟨b,j,none⟩))) (hp:Agg P t s) (hs:vs.length=s) (hc:∀ w,Sat w L->∀ k v,vs[k]? =some v->w.cell? ⟨b,j+k,none⟩=some v):Yl P L o a (.agg vs.toArray):=
  yl_val (s:=Instr.loadAt t (a.eval x)) (by simp only [execOp,ho]) fun w H=>by rw [S.eval hx];exact run_loadAgg hp vs hs (hc w H)

/-- out of a block of the list -/
theorem y_load {t b j:Nat} {x:Operand} {v:Value} {c:Array Value} {ty:TypeId} (i:Nat) (S:Slots a n E) (ho:o.op=.load t x) (hx:ev E x=some (.pointer (some ⟨b,j,none⟩))) (hp:Plain P t) (hL:L[i]? =some (blk b (.cells c ty))) (hc:c[j]? =some v):Yl P L o a v:=
  y_loadAt S ho hx hp fun w H=>by rw [(H.cellOf hL).1,hc]
/-- the cells of a list from a place on -/
def From (c:Array Value) (j:Nat):List Value->Prop
  | []=>True
  | v::vs=>c[j]? =some v/\From c (j+1) vs
theorem From.get {c:Array Value}:∀ {vs:List Value} {j:Nat},From c j vs->∀ k v,vs[k]? =some v->c[j+k]? =some v
  | _::_,_,⟨h1,_⟩,0,v,hv=>by simp only [List.getElem?_cons_zero,Option.some.injEq] at hv;subst hv;exact h1
  | _::vs,j,⟨_,h2⟩,k+1,v,hv=>by have:=h2.get k v (by simpa using hv);rwa [show j+(k+1)=j+1+k from by omega]
def SizeOf (P:Program) (t:TypeId) (s:Nat):Prop:=∀ w,(sizeOf t).run P w=.ok s w

theorem run_indexSl {w:World} {t e b j len cap:Nat} {k:IntKind} {s:Nat} {i:Int} (ht:P.underlying t=some (.slice e)) (hs:SizeOf P e s) (h0:0<=i) (h1:i < len):
    (Instr.indexAt t (.slice (some ⟨b,j,none⟩) len cap) (.int k i)).run P w=.ok (.pointer (some ⟨b,j+i.toNat*s,none⟩)) w:=by
  simp only [Instr.indexAt,asIntOf,Sem.run_bind,Sem.run_pure,Result.andThen_ok,run_underlying ht,h0,h1,and_self,if_true,hs w,add_lit]

theorem y_index {t e b j len cap:Nat} {x ix:Operand} {k:IntKind} {s:Nat} {i:Int} (S:Slots a n E) (ho:o.op=.indexAddr t x ix) (hx:ev E x=some (.slice (some ⟨b,j,none⟩) len cap)) (hi:ev E ix=some (.int k i)) (ht:P.underlying t=some (.slice e)) (hs:SizeOf P e s) (h0:0<=i) (h1:i < len):
    Yl P L o a (.pointer (some ⟨b,j+i.toNat*s,none⟩)):=
  yl_val (s:=Instr.indexAt t (a.eval x) (a.eval ix)) (by simp only [execOp,ho]) fun w _=>by rw [S.eval hx,S.eval hi];exact run_indexSl ht hs h0 h1

theorem y_len {t e len cap:Nat} {A:Option Addr} {x:Operand} (S:Slots a n E) (ho:o.op=.call { callee:=.builtin .len,args:=#[x],argTypes:=#[t] }) (hx:ev E x=some (.slice A len cap)) (ht:P.underlying t=some (.slice e)):Yl P L o a (.int .i64 len):=fun w _=>by
  simp [execOp,ho,resolve,invoke,builtin,S.eval hx,Builtin.len_,run_underlying ht,goInt]
theorem y_lenStr {t:Nat} {s:ByteArray} {x:Operand} (S:Slots a n E) (ho:o.op=.call { callee:=.builtin .len,args:=#[x],argTypes:=#[t] }) (hx:ev E x=some (.string s)) (ht:P.underlying t=some .string):Yl P L o a (.int .i64 s.size):=fun w _=>by
  simp [execOp,ho,resolve,invoke,builtin,S.eval hx,Builtin.len_,run_underlying ht,goInt]

/-! binary operators on integers -/
theorem yl_bin {op:BinOp} {t t':TypeId} {x y:Operand} {u v r:Value} (S:Slots a n E) (ho:o.op=.binOp op t x y t') (hx:ev E x=some u) (hy:ev E y=some v) (hg:∀ w,(eqGuard op t x y u v).run P w=.ok () w) (hr:∀ w,Sat w L->(binOp op t u v).run P w=.ok r w):Yl P L o a r:=fun w H=>by
  simp only [execOp,ho,S.eval hx,S.eval hy,Sem.run_bind,hg w,Result.andThen_ok,hr w H,Sem.run_pure]
theorem guard_int {op:BinOp} {t:TypeId} {x y:Operand} {k k':IntKind} {m m':Int} (w:World):(eqGuard op t x y (.int k m) (.int k' m')).run P w=.ok () w:=by cases op<;>rfl
theorem guard_bool {op:BinOp} {t:TypeId} {x y:Operand} {m m':Bool} (w:World):(eqGuard op t x y (.bool m) (.bool m')).run P w=.ok () w:=by cases op<;>rfl
theorem guard_str {op:BinOp} {t:TypeId} {x y:Operand} {m m':ByteArray} (w:World):(eqGuard op t x y (.string m) (.string m')).run P w=.ok () w:=by cases op<;>rfl
theorem guard_ptr {op:BinOp} {t:TypeId} {x y:Operand} {m m':Option Addr} (w:World):(eqGuard op t x y (.pointer m) (.pointer m')).run P w=.ok () w:=by cases op<;>rfl
theorem guard_slice {op:BinOp} {t:TypeId} {x y:Operand} {A B:Option Addr} {i j i' j':Nat} (w:World):(eqGuard op t x y (.slice A i j) (.slice B i' j')).run P w=.ok () w:=by cases op<;>rfl

section ints
variable {t t':TypeId} {x y:Operand} {k:IntKind} {m m':Int}
theorem y_add (S:Slots a n E) (ho:o.op=.binOp .add t x y t') (hx:ev E x=some (.int k m)) (hy:ev E y=some (.int k m')) (hw:k.wrap (m+m')=m+m'):Yl P L o a (.int k (m+m')):=yl_bin S ho hx hy guard_int fun w _=>by simp [binOp,Op.intArith,hw]
theorem y_sub (S:Slots a n E) (ho:o.op=.binOp .sub t x y t') (hx:ev E x=some (.int k m)) (hy:ev E y=some (.int k m')) (hw:k.wrap (m - m')=m - m'):Yl P L o a (.int k (m - m')):=yl_bin S ho hx hy guard_int fun w _=>by simp [binOp,Op.intArith,hw]
theorem y_mul (S:Slots a n E) (ho:o.op=.binOp .mul t x y t') (hx:ev E x=some (.int k m)) (hy:ev E y=some (.int k m')) (hw:k.wrap (m*m')=m*m'):Yl P L o a (.int k (m*m')):=yl_bin S ho hx hy guard_int fun w _=>by simp [binOp,Op.intArith,hw]
theorem y_quo (S:Slots a n E) (ho:o.op=.binOp .quo t x y t') (hx:ev E x=some (.int k m)) (hy:ev E y=some (.int k m')) (h0:m'≠0) (hw:k.wrap (m.tdiv m')=m.tdiv m'):Yl P L o a (.int k (m.tdiv m')):=yl_bin S ho hx hy guard_int fun w _=>by simp [binOp,Op.intDiv,hw,h0]
theorem y_quoN (S:Slots a n E) (ho:o.op=.binOp .quo t x y t') (hx:ev E x=some (.int k m)) (hy:ev E y=some (.int k m')) (h1:0<=m) (h0:0 < m') (hw:k.wrap (m / m')=m / m'):Yl P L o a (.int k (m / m')):=by
  have e:m.tdiv m'=m / m':=Int.tdiv_eq_ediv_of_nonneg h1
  rw [<-e];exact y_quo S ho hx hy (by omega) (by rw [e];exact hw)
theorem y_rem (S:Slots a n E) (ho:o.op=.binOp .rem t x y t') (hx:ev E x=some (.int k m)) (hy:ev E y=some (.int k m')) (h0:m'≠0):Yl P L o a (.int k (m.tmod m')):=yl_bin S ho hx hy guard_int fun w _=>by simp [binOp,Op.intDiv,h0]
theorem y_remN (S:Slots a n E) (ho:o.op=.binOp .rem t x y t') (hx:ev E x=some (.int k m)) (hy:ev E y=some (.int k m')) (h1:0<=m) (h0:0 < m'):Yl P L o a (.int k (m%m')):=by
  have e:m.tmod m'=m%m':=Int.tmod_eq_emod_of_nonneg h1
  rw [<-e];exact y_rem S ho hx hy (by omega)
theorem y_eq (S:Slots a n E) (ho:o.op=.binOp .eql t x y t') (hx:ev E x=some (.int k m)) (hy:ev E y=some (.int k m')):Yl P L o a (.bool (decide (m=m'))):=yl_bin S ho hx hy guard_int fun w _=>by simp [binOp,Op.intCmp];rfl
theorem y_ne (S:Slots a n E) (ho:o.op=.binOp .neq t x y t') (hx:ev E x=some (.int k m)) (hy:ev E y=some (.int k m')):Yl P L o a (.bool (decide (m≠m'))):=yl_bin S ho hx hy guard_int fun w _=>by
  have:(m != m')=decide (m≠m'):=by by_cases h:m=m'<;>simp [h]
  simp [binOp,Op.intCmp,this]
theorem y_lt (S:Slots a n E) (ho:o.op=.binOp .lss t x y t') (hx:ev E x=some (.int k m)) (hy:ev E y=some (.int k m')):Yl P L o a (.bool (decide (m < m'))):=yl_bin S ho hx hy guard_int fun w _=>by simp [binOp,Op.intCmp]
theorem y_le (S:Slots a n E) (ho:o.op=.binOp .leq t x y t') (hx:ev E x=some (.int k m)) (hy:ev E y=some (.int k m')):Yl P L o a (.bool (decide (m<=m'))):=yl_bin S ho hx hy guard_int fun w _=>by simp [binOp,Op.intCmp]
theorem y_gt (S:Slots a n E) (ho:o.op=.binOp .gtr t x y t') (hx:ev E x=some (.int k m)) (hy:ev E y=some (.int k m')):Yl P L o a (.bool (decide (m' < m))):=yl_bin S ho hx hy guard_int fun w _=>by simp [binOp,Op.intCmp]
theorem y_ge (S:Slots a n E) (ho:o.op=.binOp .geq t x y t') (hx:ev E x=some (.int k m)) (hy:ev E y=some (.int k m')):Yl P L o a (.bool (decide (m'<=m))):=yl_bin S ho hx hy guard_int fun w _=>by simp [binOp,Op.intCmp]
/-- any other operator on integers: by its own run -/
theorem y_bitop {op:BinOp} {r:Value} (S:Slots a n E) (ho:o.op=.binOp op t x y t') {k':IntKind} (hx:ev E x=some (.int k m)) (hy:ev E y=some (.int k' m')) (hr:∀ w,(binOp op t (.int k m) (.int k' m')).run P w=.ok r w):Yl P L o a r:=yl_bin S ho hx hy guard_int fun w _=>hr w
theorem y_conv {src dst:TypeId} {k':IntKind} (S:Slots a n E) (ho:o.op=.convert src dst x) (hx:ev E x=some (.int k m)) (hs:P.underlying src=some (.int k)) (ht:P.underlying dst=some (.int k')) (hw:k'.wrap m=m):Yl P L o a (.int k' m):=
  yl_val (s:=convert src dst (a.eval x)) (by simp only [execOp,ho]) fun w _=>by rw [S.eval hx];simp [convert,run_underlying hs,run_underlying ht,Conv.intToInt,hw]
theorem y_convW {src dst:TypeId} {k':IntKind} (S:Slots a n E) (ho:o.op=.convert src dst x) (hx:ev E x=some (.int k m)) (hs:P.underlying src=some (.int k)) (ht:P.underlying dst=some (.int k')):Yl P L o a (.int k' (k'.wrap m)):=
  yl_val (s:=convert src dst (a.eval x)) (by simp only [execOp,ho]) fun w _=>by rw [S.eval hx];simp [convert,run_underlying hs,run_underlying ht,Conv.intToInt]
end ints

theorem run_eqB {t:TypeId} {m m':Bool} (ht:P.underlying t=some .bool) (w:World):(Op.equal t (.bool m) (.bool m')).run P w=.ok (m==m') w:=by
  unfold Op.equal Op.maxDepth
  unfold Op.equalIn
  simp only [Sem.run_bind,run_underlying ht,Result.andThen_ok,Sem.run_pure]
theorem y_neB {t t':TypeId} {x y:Operand} {m m':Bool} (S:Slots a n E) (ho:o.op=.binOp .neq t x y t') (hx:ev E x=some (.bool m)) (hy:ev E y=some (.bool m')) (ht:P.underlying t=some .bool):Yl P L o a (.bool (m != m')):=yl_bin S ho hx hy guard_bool fun w _=>by
  show (do pure (Value.bool (!(<-Op.equal t (.bool m) (.bool m'))))).run P w=_
  simp only [Sem.run_bind,run_eqB ht,Result.andThen_ok,Sem.run_pure]
  rfl
theorem y_not {t:TypeId} {x:Operand} {b:Bool} (S:Slots a n E) (ho:o.op=.unOp .not t x) (hx:ev E x=some (.bool b)):Yl P L o a (.bool (!b)):=
  yl_val (s:=Op.unary .not (a.eval x)) (by simp only [execOp,ho]) fun w _=>by rw [S.eval hx];simp [Op.unary]
theorem y_extract {x:Operand} {i:Nat} {vs:Array Value} {v:Value} (S:Slots a n E) (ho:o.op=.extract x i) (hx:ev E x=some (.tuple vs)) (hv:vs[i]? =some v):Yl P L o a v:=
  yl_val (s:=Instr.extract (a.eval x) i) (by simp only [execOp,ho]) fun w _=>by rw [S.eval hx];simp [Instr.extract,hv]
/-- what is built out of parts: by its own run -/
theorem y_build {t:TypeId} {ps:Array (Nat×Operand)} {vs:Array (Nat×Value)} {v:Value} (S:Slots a n E) (ho:o.op=.build t ps) (hps:(ps.toList.map fun p=>(ev E p.2).map fun v=>(p.1,v))=vs.toList.map some) (hr:∀ w,(Instr.build t vs).run P w=.ok v w):Yl P L o a v:=
  yl_val (s:=Instr.build t (ps.map fun (i,x)=>(i,a.eval x))) (by simp only [execOp,ho]) fun w _=>by
    have e:ps.map (fun (i,x)=>(i,a.eval x))=vs:=by
      apply Array.ext'
      rw [Array.toList_map]
      have key:∀ (l:List (Nat×Operand)) (m:List (Nat×Value)),(l.map fun p=>(ev E p.2).map fun v=>(p.1,v))=m.map some->l.map (fun (p:Nat×Operand)=>(p.1,a.eval p.2))=m:=by
        intro l
        induction l with
        | nil=>intro m h;cases m with
          | nil=>rfl
          | cons _ _=>simp at h
        | cons p l ih=>intro m h;cases m with
          | nil=>simp at h
          | cons q m=>
            simp only [List.map_cons,List.cons.injEq] at h ⊢
            refine ⟨?_,ih m h.2⟩
            cases hv:ev E p.2 with
            | none=>rw [hv] at h;simp at h
            | some u=>rw [hv] at h;simp only [Option.map_some,Option.some.injEq] at h;rw [S.eval hv];exact h.1
      exact key _ _ hps
    rw [e];exact hr w
theorem y_makeFunc {f:FuncId} {cs:Array Operand} {vs:Array Value} (S:Slots a n E) (ho:o.op=.makeFunc (.func f) #[] cs) (hcs:cs.toList.map (ev E)=vs.toList.map some):Yl P L o a (.func (.func f) #[] vs):=
  yl_val (s:=Instr.makeFunc (.func f) (#[].map a.eval) (cs.map a.eval)) (by simp only [execOp,ho]) fun w _=>by
    have e:cs.map a.eval=vs:=by
      apply Array.ext'
      rw [Array.toList_map]
      have key:∀ (l:List Operand) (m:List Value),l.map (ev E)=m.map some->l.map a.eval=m:=by
        intro l
        induction l with
        | nil=>intro m h;cases m with
          | nil=>rfl
          | cons _ _=>simp at h
        | cons p l ih=>intro m h;cases m with
          | nil=>simp at h
          | cons q m=>simp only [List.map_cons,List.cons.injEq] at h ⊢;exact ⟨S.eval h.1,ih m h.2⟩
      exact key _ _ hcs
    rw [e];simp [Instr.makeFunc]
theorem y_nilCheck {x:Operand} {ad:Addr} (S:Slots a n E) (ho:o.op=.nilCheck x) (hx:ev E x=some (.pointer (some ad))):Yl P L o a (.pointer (some ad)):=fun w _=>by
  simp only [execOp,ho,S.eval hx];rfl
theorem y_sliceNil {t e:TypeId} {x y:Operand} {t':TypeId} {A:Option Addr} {i j:Nat} (S:Slots a n E) (ho:o.op=.binOp .eql t x y t') (hx:ev E x=some (.slice A i j)) (hy:ev E y=some (.slice none 0 0)) (ht:P.underlying t=some (.slice e)):Yl P L o a (.bool A.isNone):=
  yl_bin S ho hx hy guard_slice fun w _=>Lib.run_eql_slice_nil w t e A i j 0 0 ht
end
end Go.Cg
end
section
namespace Go.Cg
set_option linter.unusedVariables false
set_option linter.unusedSimpArgs false
open Go.RowKit

/-- the call returns, with this -/
def Rt (P:Program) (f:FuncId) (args:Array Value) (w:World) (R:Value->World->Prop):Prop:=Calls P f args w fun e w'=>∃v,e=.returned v/\R v w'
theorem Rt.mono {P:Program} {f:FuncId} {args:Array Value} {w:World} {R R':Value->World->Prop} (h:Rt P f args w R) (hr:∀ v w',R v w'->R' v w'):Rt P f args w R':=
  Calls.mono h fun _ _ ⟨v,e,r⟩=>⟨v,e,hr v _ r⟩

def idx:Nat->List Value->List (Nat×Value)
  | _,[]=>[]
  | i,v::vs=>(i,v)::idx (i+1) vs
theorem lk_idx:∀ (vs:List Value) (i d:Nat) (v:Value),lk (idx i vs) d=some v->i<=d/\vs[d - i]? =some v
  | x::vs,i,d,v,h=>by
    unfold idx lk at h
    cases hb:Nat.beq i d with
    | true=>rw [hb] at h;have e:=Nat.eq_of_beq_eq_true hb;subst e;simp only [Option.some.injEq] at h;subst h;simp
    | false=>
      rw [hb] at h
      have hne:=Nat.ne_of_beq_eq_false hb
      obtain ⟨h1,h2⟩:=lk_idx vs (i+1) d v h
      refine ⟨by omega,?_⟩
      rw [show d - i=(d - (i+1))+1 from by omega]
      simpa using h2
theorem Slots.init (args:Array Value) (n:Nat) (h:args.size<=n):Slots { tmps:=args++Array.replicate (n - args.size) undef,defers:=[] } n (idx 0 args.toList++[(n,undef)]):=by
  have key:∀ (E:List (Nat×Value)) (d:Nat) (v:Value),lk (E++[(n,undef)]) d=some v->lk E d=some v\/(d=n/\v=undef):=by
    intro E
    induction E with
    | nil=>
      intro d v h
      by_cases e:n=d
      · subst e;rw [List.nil_append,lk_on] at h;cases h;exact .inr ⟨rfl,rfl⟩
      · rw [List.nil_append,lk_off e] at h;cases h
    | cons p r ih=>
      intro d v h
      obtain ⟨i,u⟩:=p
      rw [List.cons_append] at h
      by_cases e:i=d
      · subst e;rw [lk_on] at h ⊢;exact .inl h
      · rw [lk_off e] at h ⊢;exact ih d v h
  refine ⟨by simp;omega,fun _ _=>rfl,fun D v hd=>?_,fun d v hd=>?_⟩
  · rcases key _ _ _ hd with h | ⟨h,_⟩
    · obtain ⟨_,h2⟩:=lk_idx _ _ _ _ h
      simp only [Nat.sub_zero,Array.getElem?_toList] at h2
      have hlt:=(Array.getElem?_eq_some_iff.1 h2).1
      omega
    · omega
  rcases key _ _ _ hd with hd | ⟨rfl,rfl⟩
  · obtain ⟨_,h2⟩:=lk_idx _ _ _ _ hd
    simp only [Nat.sub_zero,Array.getElem?_toList] at h2
    have hlt:=(Array.getElem?_eq_some_iff.1 h2).1
    rw [Array.getD_eq_getD_getElem?,Array.getElem?_append_left hlt,h2];rfl
  · rw [Array.getD_eq_getD_getElem?,Array.getElem?_eq_none (by simp;omega)];rfl

section
variable {P:Program} {ops:Array Oper} {Q:Exit->Act->World->Prop} {a:Act} {w:World} {rest:List Oper} {o:Oper} {L:List Res} {n:Nat} {E:List (Nat×Value)}

theorem rt_enter {f:FuncId} {fn:Func} {c:Code} {args:Array Value} {R:Value->World->Prop} (hf:P.funcs[f]? =some fn) (hb:fn.body=some c) (hn:fn.ntmps=n) (ha:Nat.ble args.size n=true)
    (K:∀ a,Slots a n (idx 0 args.toList++[(n,undef)])->c.wp P (bodyPost P fn fun e w'=>∃v,e=.returned v/\R v w') a w):Rt P f args w R:=by
  subst hn
  exact calls_of_wp hf hb (K _ (Slots.init args _ (by simpa [Nat.ble_eq] using ha)))

/-! ### control -/
theorem r_seq {x y:Code} (h:x.wp P (Exit.then (y.wp P Q) Q) a w):(Code.seq x y).wp P Q a w:=wp_seq h
theorem r_block {id:Nat} {c:Code} (h:c.wp P (Exit.inBlock id Q) a w):(Code.block id c).wp P Q a w:=wp_block h
theorem r_region {id:Nat} {l:List Oper} (h:wpList P l.toArray Q l a w):(Code.region id l.toArray false).wp P Q a w:=wp_region_lit h
theorem r_nil (h:Q .normal a w):wpList P ops Q [] a w:=h
theorem x_then {next:Act->World->Prop} (h:next a w):Exit.then next Q .normal a w:=h
theorem x_thenExit {next:Act->World->Prop} {id:Nat} (h:Q (.exit id) a w):Exit.then next Q (.exit id) a w:=h
theorem x_thenRet {next:Act->World->Prop} (h:Q .ret a w):Exit.then next Q .ret a w:=h
theorem x_blockEnd {id:Nat} (h:Q .normal a w):Exit.inBlock id Q .normal a w:=h
theorem x_blockRet {id:Nat} (h:Q .ret a w):Exit.inBlock id Q .ret a w:=h
theorem x_blockHere {id:Nat} (h:Q .normal a w):Exit.inBlock id Q (.exit id) a w:=by simp only [Exit.inBlock,if_true];exact h
theorem r_cond {c:Operand} {x y:Code} {b:Bool} (S:Slots a n E) (hc:ev E c=some (.bool b)) (ht:b=true->x.wp P Q a w) (hf:b=false->y.wp P Q a w):(Code.cond c x y).wp P Q a w:=wp_cond_split (S.eval hc) ht hf
theorem r_condT {c:Operand} {x y:Code} (S:Slots a n E) (hc:ev E c=some (.bool true)) (h:x.wp P Q a w):(Code.cond c x y).wp P Q a w:=wp_cond_true (S.eval hc) h
theorem r_condF {c:Operand} {x y:Code} (S:Slots a n E) (hc:ev E c=some (.bool false)) (h:y.wp P Q a w):(Code.cond c x y).wp P Q a w:=wp_cond_false (S.eval hc) h
/-- a test of two numbers -/
theorem r_test {c:Operand} {x y:Code} {p:Prop} [Decidable p] (S:Slots a n E) (hc:ev E c=some (.bool (decide p))) (ht:p->x.wp P Q a w) (hf:¬ p->y.wp P Q a w):(Code.cond c x y).wp P Q a w:=
  r_cond S hc (fun h=>ht (of_decide_eq_true h)) (fun h=>hf (of_decide_eq_false h))

theorem r_loop {ι:Type} {c:Code} (I:ι->Act->World->Prop) (μ:ι->Nat) (i0:ι) (h0:I i0 a w)
    (round:∀ i a w,I i a w->c.wp P (Exit.then (fun a' w'=>∃i',I i' a' w'/\μ i' < μ i) Q) a w):(Code.loop c).wp P Q a w:=by
  intro b k cs
  have key:∀ m i a w,μ i=m->I i a w->∃e a' w',Q e a' w'/\Arrives P (lone (b.at a (.code c:: .inLoop c::k)) cs w) b k cs e a' w':=by
    intro m
    induction m using Nat.strongRecOn with
    | _ m ih=>
      intro i a w hm hI
      obtain ⟨e,a₁,w₁,hq,harr⟩:=round i a w hI b (.inLoop c::k) cs
      cases e with
      | normal=>
        obtain ⟨i',hI₁,hlt⟩:=hq
        obtain ⟨e₂,a₂,w₂,hq₂,harr₂⟩:=ih (μ i') (hm▸hlt) i' a₁ w₁ rfl hI₁
        exact ⟨e₂,a₂,w₂,hq₂,.of_steps (Steps.trans harr (.one step_inLoop)) harr₂⟩
      | exit id=>exact ⟨_,a₁,w₁,hq,.pass (x:=.inLoop c) rfl (fun _ _=>.inl (by simp)) harr⟩
      | goto l=>exact ⟨_,a₁,w₁,hq,.pass (x:=.inLoop c) rfl (fun _ _=>.inl (by simp)) harr⟩
      | ret=>exact ⟨_,a₁,w₁,hq,.pass (x:=.inLoop c) rfl (fun _ _=>.inl (by simp)) harr⟩
      | panic ch=>exact ⟨_,a₁,w₁,hq,.pass (x:=.inLoop c) rfl (fun _ _=>.inl (by simp)) harr⟩
      | outgrown=>exact ⟨_,a₁,w₁,hq,.pass (x:=.inLoop c) rfl (fun _ _=>.inl (by simp)) harr⟩
  obtain ⟨e,a',w',hq,harr⟩:=key _ i0 a w rfl h0
  exact ⟨e,a',w',hq,.of_steps (.one step_loop) harr⟩

/-- a piece of code comes to this, whatever way it takes; then the rest -/
theorem r_mid {x y:Code} (J:Act->World->Prop) (h:x.wp P (Exit.then J (fun _ _ _=>False)) a w) (K:∀ a w,J a w->y.wp P Q a w):(Code.seq x y).wp P Q a w:=
  wp_seq (Code.wp_mono (fun e a w h=>by cases e<;>first | exact K a w h | exact h.elim) h)
end
end Go.Cg
end
section
namespace Go.Cg
set_option linter.unusedVariables false
set_option linter.unusedSimpArgs false
open Go.RowKit
section
variable {P:Program} {ops:Array Oper} {Q:Exit->Act->World->Prop} {a:Act} {w:World} {rest:List Oper} {o:Oper} {L:List Res} {n:Nat} {E:List (Nat×Value)}

theorem r_val {d:Nat} {v:Value} {w':World} (S:Slots a n E) (hr:(execOp a.eval o).run P w=.ok (.value v) w') (hd:o.dst=some d) (hn:Nat.blt d n=true) (hw:Wt ops E o=some true)
    (K:∀ a',Slots a' n ((d,v)::E)->wpList P ops Q rest a' w'):wpList P ops Q (o::rest) a w:=
  wpList_wanted (S.wanted hw) (by unfold Oper.wp;rw [hr];simp only [Oper.upon,hd];exact K _ (S.put hn v))
theorem r_act {w':World} (S:Slots a n E) (hr:(execOp a.eval o).run P w=.ok .skip w') (hd:o.dst=none) (hw:Wt ops E o=some true) (K:wpList P ops Q rest a w'):wpList P ops Q (o::rest) a w:=
  wpList_wanted (S.wanted hw) (by unfold Oper.wp;rw [hr];simp only [Oper.upon,hd];exact K)

def Zero (P:Program) (t:TypeId) (z:Value):Prop:=∀ w,(zeroValue t).run P w=.ok z w

theorem r_box {d:Nat} {t:TypeId} {x:Operand} {v:Value} {c:Array Value} (S:Slots a n E) (H:Sat w L) (ho:o.op=.box t x) (hx:ev E x=some v) (hc:v.cells=c) (hd:o.dst=some d) (hn:Nat.blt d n=true) (hw:Wt ops E o=some true)
    (K:∀ a' w' b,Slots a' n ((d,.pointer (some ⟨b,0,none⟩))::E)->Sat w' (blk b (.cells c t)::L)->wpList P ops Q rest a' w'):wpList P ops Q (o::rest) a w:=by
  subst hc
  exact r_val S (by simp only [execOp,ho,Sem.run_bind,S.eval hx,run_box,Result.andThen_ok,Sem.run_pure]) hd hn hw fun a' S'=>K a' _ _ S' (H.alloc _)
theorem r_alloc {d:Nat} {t:TypeId} {z:Value} {c:Array Value} (S:Slots a n E) (H:Sat w L) (ho:o.op=.alloc t) (hz:Zero P t z) (hc:z.cells=c) (hd:o.dst=some d) (hn:Nat.blt d n=true) (hw:Wt ops E o=some true)
    (K:∀ a' w' b,Slots a' n ((d,.pointer (some ⟨b,0,none⟩))::E)->Sat w' (blk b (.cells c t)::L)->wpList P ops Q rest a' w'):wpList P ops Q (o::rest) a w:=by
  subst hc
  exact r_val S (by simp only [execOp,ho,Instr.alloc,Sem.run_bind,hz w,Result.andThen_ok];simp [go_sem]) hd hn hw fun a' S'=>K a' _ _ S' (H.alloc _)

theorem run_store (w:World) (i:Nat) {b j s:Nat} {c c':Array Value} {t ty:TypeId} {v:Value} {vs:List Value} (H:Sat w L) (hL:L[i]? =some (blk b (.cells c t))) (hvs:v.cells.toList=vs) (hs:SizeOf P ty s) (hl:vs.length=s) (h1:∀ u∈vs,u.oneCell'=true) (hfit:Nat.ble (j+s) c.size=true) (hc':putAt c j vs=c'):
    ∃w',(Instr.storeAt ty (.pointer (some ⟨b,j,none⟩)) v).run P w=.ok () w'/\Sat w' (L.set i (blk b (.cells c' t))):=by
  have h:=H.fetch hL
  have hfit':j+s<=c.size:=by simpa [Nat.ble_eq] using hfit
  obtain ⟨w',hr,H'⟩:=sat_storeCells (P:=P) j vs c 0 w h (by omega) h1
  refine ⟨w',?_,by rw [<-hc'];simpa using H'.back (lt_of_at hL)⟩
  have hn:v.cells.size=s:=by rw [<-hl,<-hvs];simp
  simp [Instr.storeAt,Instr.sureAddr,storeVar,hs w,hn,hvs,hr]
/-- a store into a row -/
theorem sat_setRow {e:TypeId} {sz g len cap k:Nat} {xs:List Value} (H:Sat w (row e sz (.slice (some ⟨g,0,none⟩) len cap) len xs::L)) (hk:k < len*sz) (v:Value) (h1:v.oneCell'=true):
    (store ⟨g,k,none⟩ v).run P w=.ok () (w.setCell ⟨g,k,none⟩ v)/\Sat (w.setCell ⟨g,k,none⟩ v) (row e sz (.slice (some ⟨g,0,none⟩) len cap) len (xs.set k v)::L):=by
  obtain ⟨F,hF,hown,hFk⟩:=H.head
  have hc:=hown.cellAt k hk
  have hlen:k < xs.length:=by rw [hown.1];exact hk
  rw [List.getElem?_eq_getElem hlen] at hc
  have hf:=hown.frozenAt k
  constructor
  · cases v<;>first | (simp [store,Sem.run,hc,hf];done) | (simp [Value.oneCell'] at h1)
  · have hst:=hown.stored k v
    exact H.turn (Hp.setCell _ _ _) fun G hG hP=>⟨G,fun k hk=>⟨Nat.lt_of_lt_of_le (hG k hk) (Hp.setCell _ _ _).size,.inl hk⟩,⟨hst.1,hP.2⟩,fun k' hk' hnf=>Below.heap_setCell _ _ _ _ (fun e'=>hnf ((hP.2 k').2 (by rw [e'];rfl)))⟩
theorem r_setRow {ty e:TypeId} {ad x:Operand} {g j sz len cap:Nat} {v:Value} {xs:List Value} {L':List Res} (i:Nat) (S:Slots a n E) (H:Sat w L) (ho:o.op=.store ty ad x) (ha:ev E ad=some (.pointer (some ⟨g,j,none⟩))) (hx:ev E x=some v)
    (hL:L[i]? =some (row e sz (.slice (some ⟨g,0,none⟩) len cap) len xs)) (hs:SizeOf P ty 1) (hvs:v.cells=#[v]) (h1:v.oneCell'=true) (hj:j < len*sz) (hL':L.set i (row e sz (.slice (some ⟨g,0,none⟩) len cap) len (xs.set j v))=L') (hd:o.dst=none) (hw:Wt ops E o=some true)
    (K:∀ w',Sat w' L'->wpList P ops Q rest a w'):wpList P ops Q (o::rest) a w:=by
  obtain ⟨hr,H'⟩:=sat_setRow (P:=P) (H.fetch hL) hj v h1
  refine r_act S ?_ hd hw (K _ (hL'▸H'.back (lt_of_at hL)))
  have hr0:(storeCells ⟨g,j,none⟩ [v]).run P w=.ok () (w.setCell ⟨g,j,none⟩ v):=by simp [storeCells,Addr.add,hr]
  simp [execOp,ho,S.eval ha,S.eval hx,Instr.storeAt,Instr.sureAddr,storeVar,hs w,hvs,hr0]

theorem r_append {e t:TypeId} {sz m k c bytes d km:Nat} {s x:Operand} {v:Value} {xs news:List Value} {A:Option Addr} {z:Value} {xs':List Value} (i:Nat) (S:Slots a n E) (H:Sat w L) (ho:o.op=.call { callee:=.builtin .append,args:=#[s,x],argTypes:=#[t,t] })
    (hs:ev E s=some v) (hx:ev E x=some (.slice A m c)) (hL:L[i]? =some (row e sz v k xs)) (El:Elem P t e sz bytes z) (hl:news.length=m*sz) (hrd:Rd L A news) (h1:∀ u∈news,u.oneCell'=true) (hA:A=none->c=0) (h63:k+m<=maxLen) (hbytes:(k+m)*bytes<=140737488355328)
    (hxs:xs++news=xs') (hkm:k+m=km) (hd:o.dst=some d) (hn:Nat.blt d n=true) (hw:Wt ops E o=some true)
    (K:∀ a' w' A' c',(A'=none->c'=0)->Slots a' n ((d,.slice A' km c')::E)->Sat w' (L.set i (row e sz (.slice A' km c') km xs'))->wpList P ops Q rest a' w'):wpList P ops Q (o::rest) a w:=by
  subst hxs;subst hkm
  have h:=H.fetch hL
  obtain ⟨F,_,hP⟩:=h.head
  obtain ⟨v',w',hr,ho',hgr,hb,hnil⟩:=run_append_own' (P:=P) w t o.type e sz bytes z El v k xs hP.1 A m c news hl (hrd w H) h1 hA h63 hbytes
  have hform:∃A' c',v'=.slice A' (k+m) c'/\(A'=none->c'=0):=by
    rcases ho'.2 with ⟨h1,h2⟩ | ⟨g,cap,cur,h1,_⟩
    · exact ⟨none,0,by rw [h1,h2],fun _=>rfl⟩
    · exact ⟨_,cap,h1,fun h=>by cases h⟩
  obtain ⟨A',c',rfl,hA'⟩:=hform
  refine r_val S ?_ hd hn hw fun a' S'=>K a' w' A' c' hA' S' ((h.turnRow ho' hgr hb).back (lt_of_at hL))
  unfold execOp
  simp only [ho,resolve,invoke,builtin,Sem.run_bind,Sem.run_pure,Result.andThen_ok,List.map_toArray,List.map_cons,List.map_nil,S.eval hs,S.eval hx,hr]

theorem r_make {t e:TypeId} {sz bytes d:Nat} {l c:Operand} {len:Nat} {kl kc:IntKind} {z:Value} (S:Slots a n E) (H:Sat w L) (ho:o.op=.makeSlice t l c) (hl:ev E l=some (.int kl len)) (hc:ev E c=some (.int kc len)) (El:Elem P t e sz bytes z) (h63:len<=maxLen) (hb:bytes*len<=281474976710656)
    (hd:o.dst=some d) (hn:Nat.blt d n=true) (hw:Wt ops E o=some true)
    (K:∀ a' w' b,Slots a' n ((d,.slice (some ⟨b,0,none⟩) len len)::E)->Sat w' (row e sz (.slice (some ⟨b,0,none⟩) len len) len (madeCells z.cells (len*sz)).toList::L)->wpList P ops Q rest a' w'):wpList P ops Q (o::rest) a w:=by
  obtain ⟨i,hi,hz,hs,hby⟩:=El.parts
  obtain ⟨w',hr,ho',hgr⟩:=run_make_full (P:=P) w w.heap.size t e i z sz El.sl hi hz hs kl kc len (by rw [hby];exact hb) h63 (Nat.le_refl _)
  exact r_val S (by simp only [execOp,ho,S.eval hl,S.eval hc,Sem.run_bind,hr,Result.andThen_ok,Sem.run_pure]) hd hn hw fun a' S'=>K a' w' _ S' (H.newRow ho' hgr)

theorem map_pairs {xs:Array (Nat×Operand)} {vs:Array (Nat×Value)} (S:Slots a n E) (h:xs.toList.map (fun p=>(p.1,ev E p.2))=vs.toList.map (fun p=>(p.1,some p.2))):xs.map (fun p=>(p.1,a.eval p.2))=vs:=by
  apply Array.ext'
  rw [Array.toList_map]
  have key:∀ (l:List (Nat×Operand)) (m:List (Nat×Value)),l.map (fun p=>(p.1,ev E p.2))=m.map (fun p=>(p.1,some p.2))->l.map (fun p=>(p.1,a.eval p.2))=m:=by
    intro l
    induction l with
    | nil=>intro m h;cases m with
      | nil=>rfl
      | cons _ _=>simp at h
    | cons p l ih=>intro m h;cases m with
      | nil=>simp at h
      | cons q m=>
        simp only [List.map_cons,List.cons.injEq,Prod.mk.injEq] at h ⊢
        exact ⟨Prod.ext h.1.1 (S.eval h.1.2),ih m h.2⟩
  exact key _ _ h
theorem r_lit {t e:TypeId} {len sz bytes d:Nat} {ps:Array (Nat×Operand)} {vs:Array (Nat×Value)} {z:Value} {cs:List Value} (S:Slots a n E) (H:Sat w L) (ho:o.op=.buildSlice t len ps) (hps:ps.toList.map (fun p=>(p.1,ev E p.2))=vs.toList.map (fun p=>(p.1,some p.2))) (El:Elem P t e sz bytes z)
    (hf:Instr.fill (fun i=>some (i*sz,sz)) (madeCells (if len*sz=0 then #[] else z.cells) (len*sz)) vs.toList=some cs.toArray) (hsm:len*sz<=2 ^ 24) (hcs:cs.length=len*sz) (hd:o.dst=some d) (hn:Nat.blt d n=true) (hw:Wt ops E o=some true)
    (K:∀ a' w' b,Slots a' n ((d,.slice (some ⟨b,0,none⟩) len len)::E)->Sat w' (row e sz (.slice (some ⟨b,0,none⟩) len len) len cs::L)->wpList P ops Q rest a' w'):wpList P ops Q (o::rest) a w:=by
  have hps':(ps.map fun (i,x)=>(i,a.eval x))=vs:=map_pairs S hps
  obtain ⟨i,hi,hz,hs,hby⟩:=El.parts
  have h63:len<=maxLen:=by
    have hp:=El.pos
    have h1:len*1<=len*sz:=Nat.mul_le_mul_left _ hp
    have h2:(2:Nat) ^ 24<=maxLen:=by decide
    omega
  have hsz:∀ w,(sizeOf e).run P w=.ok sz w:=fun w=>by simp [sizeOf,typeInfo,hi,hs]
  have hze:∀ w,(zeroValue e).run P w=.ok z w:=fun w=>by simp [zeroValue,typeInfo,hi,hz]
  have hr:(Instr.buildSlice t len vs).run P w=.ok (.slice (some ⟨w.heap.size,0,none⟩) len len) (w.alloc (.cells cs.toArray e)):=by
    have hsm':¬ len*sz > 2 ^ 24:=by omega
    simp only [Instr.buildSlice,Sem.run_bind,run_underlying El.sl,Result.andThen_ok,hsz,hsm',if_false,Sem.run_pure]
    by_cases h0:len*sz=0
    · rw [if_pos h0] at hf ⊢
      rw [Sem.run_bind,Sem.run_pure,Result.andThen_ok]
      unfold madeCells at hf
      rw [hf]
      simp [newRow]
    · rw [if_neg h0] at hf
      simp only [h0,if_false,Sem.run_bind,hze,Sem.run_pure,Result.andThen_ok]
      unfold madeCells at hf
      rw [hf]
      simp [newRow]
  exact r_val (w':=w.alloc (.cells cs.toArray e)) (v:=.slice (some ⟨w.heap.size,0,none⟩) len len) S (by simp only [execOp,ho,Sem.run_bind,hps',hr,Result.andThen_ok,Sem.run_pure]) hd hn hw fun a' S'=>K a' _ _ S' (by
    have:=H.newRow (World.ownsRow_lit w cs.toArray len (Nat.le_refl _) h63 (by simpa using hcs)) (World.grownBy_alloc w (.cells cs.toArray e) none)
    simpa using this)

/-! ### calls -/
theorem map_eval {xs:Array Operand} {vs:Array Value} (S:Slots a n E) (h:xs.toList.map (ev E)=vs.toList.map some):xs.map a.eval=vs:=by
  apply Array.ext'
  rw [Array.toList_map]
  have key:∀ (l:List Operand) (m:List Value),l.map (ev E)=m.map some->l.map a.eval=m:=by
    intro l
    induction l with
    | nil=>intro m h;cases m with
      | nil=>rfl
      | cons _ _=>simp at h
    | cons p l ih=>intro m h;cases m with
      | nil=>simp at h
      | cons q m=>simp only [List.map_cons,List.cons.injEq] at h ⊢;exact ⟨S.eval h.1,ih m h.2⟩
  exact key _ _ h

theorem r_enters {f:FuncId} {args:Array Value} {R:Value->World->Prop} {d:Nat} (S:Slots a n E) (hr:(execOp a.eval o).run P w=.ok (.enter f args) w) (hc:Rt P f args w R) (hd:o.dst=some d) (hn:Nat.blt d n=true) (hw:Wt ops E o=some true)
    (K:∀ v a' w',R v w'->Slots a' n ((d,v)::E)->wpList P ops Q rest a' w'):wpList P ops Q (o::rest) a w:=by
  refine wpList_wanted (S.wanted hw) ?_
  unfold Oper.wp
  rw [hr]
  simp only [Oper.upon]
  refine Calls.mono hc fun e w' ⟨v,he,hR⟩=>?_
  subst he
  simp only [hd]
  exact K v _ w' hR (S.put hn v)
def Enters (P:Program) (f:FuncId):Prop:=∀ (args:Array Value) (w:World),(callFunc f args).run P w=.ok (.enter f args) w

theorem run_callF {f:FuncId} {xs:Array Operand} {ats:Array TypeId} {args:Array Value} (S:Slots a n E) (ho:o.op=.call { callee:=.value (.func f),args:=xs,argTypes:=ats }) (hargs:xs.toList.map (ev E)=args.toList.map some) (w:World):(execOp a.eval o).run P w=(callFunc f args).run P w:=by
  have he:=map_eval S hargs
  simp only [execOp,ho,resolve,he,Act.eval,Deferred.ofValue,Sem.run_bind,Sem.run_pure,Result.andThen_ok,invoke]
  simp
/-- a call of a closure -/
theorem run_callV {f:FuncId} {x:Operand} {xs:Array Operand} {ats:Array TypeId} {args caps:Array Value} (S:Slots a n E) (ho:o.op=.call { callee:=.value x,args:=xs,argTypes:=ats }) (hx:ev E x=some (.func (.func f) #[] caps)) (hargs:xs.toList.map (ev E)=args.toList.map some) (w:World):
    (execOp a.eval o).run P w=(callFunc f (args++caps)).run P w:=by
  have he:=map_eval S hargs
  simp only [execOp,ho,resolve,he,S.eval hx,Deferred.ofValue,Sem.run_bind,Sem.run_pure,Result.andThen_ok,invoke]
  simp

theorem r_call {f:FuncId} {xs:Array Operand} {ats:Array TypeId} {args:Array Value} {R:Value->World->Prop} {d:Nat} (S:Slots a n E) (ho:o.op=.call { callee:=.value (.func f),args:=xs,argTypes:=ats }) (hargs:xs.toList.map (ev E)=args.toList.map some) (hf:Enters P f) (hc:Rt P f args w R) (hd:o.dst=some d) (hn:Nat.blt d n=true) (hw:Wt ops E o=some true)
    (K:∀ v a' w',R v w'->Slots a' n ((d,v)::E)->wpList P ops Q rest a' w'):wpList P ops Q (o::rest) a w:=
  r_enters S (by rw [run_callF S ho hargs w];exact hf args w) hc hd hn hw K
theorem r_callV {f:FuncId} {x:Operand} {xs:Array Operand} {ats:Array TypeId} {args caps:Array Value} {R:Value->World->Prop} {d:Nat} (S:Slots a n E) (ho:o.op=.call { callee:=.value x,args:=xs,argTypes:=ats }) (hx:ev E x=some (.func (.func f) #[] caps)) (hargs:xs.toList.map (ev E)=args.toList.map some) (hf:Enters P f) (hc:Rt P f (args++caps) w R) (hd:o.dst=some d) (hn:Nat.blt d n=true) (hw:Wt ops E o=some true)
    (K:∀ v a' w',R v w'->Slots a' n ((d,v)::E)->wpList P ops Q rest a' w'):wpList P ops Q (o::rest) a w:=
  r_enters S (by rw [run_callV S ho hx hargs w];exact hf _ w) hc hd hn hw K
/-! ### regions in open order that only read -/
theorem r_quiet {id:Nat} {l:List Oper} {E':List (Nat×Value)} (H:Sat w L) (hm:P.follows .mixedOrders=true) (hB:Region.lexB .any l.toArray=true)
    (h:wpQuiet P l.toArray (fun w=>Sat w L) (fun a'=>Slots a' n E') l a) (K:∀ a' w',Slots a' n E'->Sat w' L->Q .normal a' w'):(Code.region id l.toArray true).wp P Q a w:=by
  refine wp_region_quiet (C:=fun w=>Sat w L) hm hB (H.grow ⟨rfl,rfl,rfl,Nat.le_refl _⟩ fun _ _=>rfl) ?_
  have mono:∀ (l':List Oper) (a:Act),wpQuiet P l.toArray (fun w=>Sat w L) (fun a'=>Slots a' n E') l' a->wpQuiet P l.toArray (fun w=>Sat w L) (fun a'=>∀ w',Sat w' L->Q .normal a' w') l' a:=by
    intro l'
    induction l' with
    | nil=>exact fun a h w' H'=>K a w' h H'
    | cons o l' ih=>
      intro a h
      unfold wpQuiet at h ⊢
      split
      · rename_i hw;rw [if_pos hw] at h;obtain ⟨v,h1,h2⟩:=h;exact ⟨v,h1,ih _ h2⟩
      · rename_i hw;rw [if_neg hw] at h;exact ih _ h
  simpa using mono _ _ h
theorem q_y {Q:Act->Prop} {d:Nat} {v:Value} (S:Slots a n E) (hy:Yl P L o a v) (hd:o.dst=some d) (hn:Nat.blt d n=true) (hw:Wt ops E o=some true) (K:∀ a',Slots a' n ((d,v)::E)->wpQuiet P ops (fun w=>Sat w L) Q rest a'):wpQuiet P ops (fun w=>Sat w L) Q (o::rest) a:=by
  unfold wpQuiet
  rw [S.wanted hw,if_pos rfl]
  exact ⟨v,fun w H=>by unfold Oper.quietAt;rw [hy w H];exact ⟨rfl,rfl⟩,by rw [hd];exact K _ (S.put hn v)⟩
theorem q_skip {Q:Act->Prop} {d:Nat} (S:Slots a n E) (hd:o.dst=some d) (hn:Nat.blt d n=true) (hw:Wt ops E o=some false) (K:∀ a',Slots a' n ((d,undef)::E)->wpQuiet P ops (fun w=>Sat w L) Q rest a'):wpQuiet P ops (fun w=>Sat w L) Q (o::rest) a:=by
  unfold wpQuiet
  rw [S.wanted hw,if_neg (by simp),hd]
  exact K _ (S.put hn undef)
theorem q_call {Q:Act->Prop} {f:FuncId} {xs:Array Operand} {ats:Array TypeId} {args:Array Value} {v:Value} {d:Nat} (S:Slots a n E) (ho:o.op=.call { callee:=.value (.func f),args:=xs,argTypes:=ats }) (hargs:xs.toList.map (ev E)=args.toList.map some) (hf:Enters P f)
    (hc:∀ w,Sat w L->Rt P f args w fun u w'=>u=v/\Sat w' L) (hd:o.dst=some d) (hn:Nat.blt d n=true) (hw:Wt ops E o=some true) (K:∀ a',Slots a' n ((d,v)::E)->wpQuiet P ops (fun w=>Sat w L) Q rest a'):wpQuiet P ops (fun w=>Sat w L) Q (o::rest) a:=by
  unfold wpQuiet
  rw [S.wanted hw,if_pos rfl]
  refine ⟨v,fun w H=>?_,by rw [hd];exact K _ (S.put hn v)⟩
  unfold Oper.quietAt
  rw [run_callF S ho hargs w,hf args w]
  exact ⟨rfl,Calls.mono (hc w H) fun e w' ⟨u,he,hu,H'⟩=>⟨by rw [he,hu],H'⟩⟩
theorem q_nil {Q:Act->Prop} {C:World->Prop} (h:Q a):wpQuiet P ops C Q [] a:=h

/-! ### results -/
def resOf (P:Program) (tmps:Array Value):ResultVar->Sem Value
  | .tmp t=>pure (tmps.getD t undef)
  | .cell ad t=>do loadVar t (<-asAddr (tmps.getD ad undef))
theorem ro_tmp {t:Nat} {v:Value} (S:Slots a n E) (h:lk E t=some v):∀ w,Sat w L->(resOf P a.tmps (.tmp t)).run P w=.ok v w:=fun w _=>by simp [resOf,S.has t v h]
theorem ro_cell {t ad b j i:Nat} {v:Value} {c:Array Value} {ty:TypeId} (S:Slots a n E) (h:lk E ad=some (.pointer (some ⟨b,j,none⟩))) (hp:Plain P t) (hL:L[i]? =some (blk b (.cells c ty))) (hc:c[j]? =some v):∀ w,Sat w L->(resOf P a.tmps (.cell ad t)).run P w=.ok v w:=fun w H=>by
  have hcell:w.cell? ⟨b,j,none⟩=some v:=by rw [(H.cellOf hL).1,hc]
  simp only [resOf,S.has ad _ h,asAddr,loadVar,Sem.run_bind,Sem.run_pure,Result.andThen_ok,hp w,Bool.false_eq_true,if_false,run_load hcell]
theorem ro_agg {t ad b j i s:Nat} (vs:List Value) {c:Array Value} {ty:TypeId} (S:Slots a n E) (h:lk E ad=some (.pointer (some ⟨b,j,none⟩))) (hp:Agg P t s) (hL:L[i]? =some (blk b (.cells c ty))) (hs:vs.length=s) (hc:From c j vs):∀ w,Sat w L->(resOf P a.tmps (.cell ad t)).run P w=.ok (.agg vs.toArray) w:=fun w H=>by
  have h3:=run_loadAgg (P:=P) (w:=w) (b:=b) (j:=j) hp vs hs fun k v hk=>by rw [(H.cellOf hL).1];exact hc.get k v hk
  simp only [Instr.loadAt,Instr.sureAddr,Sem.run_bind,Sem.run_pure,Result.andThen_ok] at h3
  simp [resOf,S.has ad _ h,asAddr,h3]

theorem run_results {fn:Func} {tmps:Array Value} (w:World):(results fn tmps).run P w=(do let vs <-fn.results.mapM (resOf P tmps);pure (if h:vs.size=1 then vs[0] else .tuple vs)).run P w:=by
  have:(fun r:ResultVar=>match r with | .tmp t=>pure (tmps.getD t undef) | .cell a t=>do loadVar t (<-asAddr (tmps.getD a undef)))=resOf P tmps:=by
    funext r;cases r<;>rfl
  unfold results
  rw [<-this]
  rfl

theorem r_ret0 {fn:Func} {R:Value->World->Prop} (S:Slots a n E) (hres:fn.results=#[]) (hR:R (.tuple #[]) w) (hm:lk E n=some undef:=by rfl):bodyPost P fn (fun e w'=>∃v,e=.returned v/\R v w') .ret a w:=
  ⟨S.none_ undef hm,.tuple #[],results_none hres _ _ _,_,rfl,hR⟩
theorem r_end0 {fn:Func} {R:Value->World->Prop} (S:Slots a n E) (hres:fn.results=#[]) (hR:R (.tuple #[]) w) (hm:lk E n=some undef:=by rfl):bodyPost P fn (fun e w'=>∃v,e=.returned v/\R v w') .normal a w:=
  ⟨S.none_ undef hm,.tuple #[],results_none hres _ _ _,_,rfl,hR⟩
theorem r_ret1 {fn:Func} {R:Value->World->Prop} {r:ResultVar} {v:Value} (S:Slots a n E) (H:Sat w L) (hres:fn.results=#[r]) (h:∀ w,Sat w L->(resOf P a.tmps r).run P w=.ok v w) (hR:R v w) (hm:lk E n=some undef:=by rfl):bodyPost P fn (fun e w'=>∃v,e=.returned v/\R v w') .ret a w:=
  ⟨S.none_ undef hm,v,by rw [run_results,hres];simp [h w H],_,rfl,hR⟩
theorem r_ret2 {fn:Func} {R:Value->World->Prop} {r r':ResultVar} {v v':Value} (S:Slots a n E) (H:Sat w L) (hres:fn.results=#[r,r']) (h:∀ w,Sat w L->(resOf P a.tmps r).run P w=.ok v w) (h':∀ w,Sat w L->(resOf P a.tmps r').run P w=.ok v' w) (hR:R (.tuple #[v,v']) w) (hm:lk E n=some undef:=by rfl):bodyPost P fn (fun e w'=>∃v,e=.returned v/\R v w') .ret a w:=
  ⟨S.none_ undef hm,.tuple #[v,v'],by rw [run_results,hres];simp [h w H,h' w H],_,rfl,hR⟩
theorem r_ret3 {fn:Func} {R:Value->World->Prop} {r r' r'':ResultVar} {v v' v'':Value} (S:Slots a n E) (H:Sat w L) (hres:fn.results=#[r,r',r'']) (h:∀ w,Sat w L->(resOf P a.tmps r).run P w=.ok v w) (h':∀ w,Sat w L->(resOf P a.tmps r').run P w=.ok v' w) (h'':∀ w,Sat w L->(resOf P a.tmps r'').run P w=.ok v'' w) (hR:R (.tuple #[v,v',v'']) w) (hm:lk E n=some undef:=by rfl):bodyPost P fn (fun e w'=>∃v,e=.returned v/\R v w') .ret a w:=
  ⟨S.none_ undef hm,.tuple #[v,v',v''],by rw [run_results,hres];simp [h w H,h' w H,h'' w H],_,rfl,hR⟩
end
end Go.Cg
end
