/- Laws of the model, walks of functions of the program, and what they rest on. No condition. -/
import Derived.Test.YtoffbmhmocfmnaaGreatDoorKVae
import Derived.Laws.CopyRow
import Derived.Laws.Bits64b
import Derived.Lib.Mul64
import Derived.MapKept
section
namespace Go.Cg
set_option linter.unusedVariables false
set_option linter.unusedSimpArgs false
open Go.RowKit

/-! ### tables -/
section
variable {κ ν:Type} [DecidableEq κ]
def tlook:List (κ×ν)->κ->Option ν
  | [],_=>none
  | p::r,k=>if k=p.1 then some p.2 else tlook r k
def tupd:List (κ×ν)->κ->ν->List (κ×ν)
  | [],k,v=>[(k,v)]
  | p::r,k,v=>if k=p.1 then (k,v)::r else p::tupd r k v
theorem tlook_tupd (k:κ) (v:ν) (k':κ):∀ l:List (κ×ν),tlook (tupd l k v) k'=if k'=k then some v else tlook l k'
  | []=>by simp [tupd,tlook]
  | p::r=>by
    unfold tupd
    by_cases h:k=p.1
    · rw [if_pos h]
      by_cases h':k'=k
      · simp [tlook,h']
      · simp [tlook,h',h▸h']
    · rw [if_neg h]
      simp only [tlook,tlook_tupd k v k' r]
      by_cases h':k'=p.1
      · have:¬ k'=k:=fun e=>h (e▸h')
        simp [h',this]
        intro e;exact absurd e.symm h
      · simp [h']
def posn:List (κ×ν)->κ->Option (Nat×ν)
  | [],_=>none
  | p::r,k=>if k=p.1 then some (0,p.2) else (posn r k).map fun q=>(q.1+1,q.2)
theorem tlook_posn (k:κ):∀ l:List (κ×ν),tlook l k=(posn l k).map (·.2)
  | []=>rfl
  | p::r=>by
    unfold tlook posn
    split
    · rfl
    · rw [tlook_posn k r];cases posn r k<;>rfl
end

theorem ba_beq (a b:ByteArray):(a==b)=decide (a=b):=by
  cases a with | mk x=>cases b with | mk y=>
    show ByteArray.beq _ _=_
    rw [Bool.eq_iff_iff,decide_eq_true_eq]
    simp [ByteArray.beq]

structure KeyOk (P:Program) (t k e:TypeId) {κ:Type} [DecidableEq κ] (mk:κ->Value):Prop where
  mt:P.underlying t=some (.map k e)
  same:∃d,P.underlying k=some d/\∀ a b,Instr.sameNow d (mk a) (mk b)=some (decide (a=b))
  check:∀ b a w,(Instr.checkKey b 10000 k (mk a)).run P w=.ok () w
  bits:∀ a,Instr.sameBits 10000 (mk a) (mk a)=true

theorem check_lit {P:Program} {k:TypeId} {d:TypeDesc} (hk:P.underlying k=some d) (h1:∀ x,d≠ .interface x) (h2:∀ x y,d≠ .array x y) (h3:∀ x,d≠ .struct x) (b:Bool) (v:Value) (w:World) (m:Nat):(Instr.checkKey b (m+1) k v).run P w=.ok () w:=by
  unfold Instr.checkKey
  rw [Sem.run_bind,run_underlying hk,Result.andThen_ok]
  cases d<;>first | rfl | exact absurd rfl (h1 _) | exact absurd rfl (h2 _ _) | exact absurd rfl (h3 _)

theorem KeyOk.str {P:Program} {t k e:TypeId} (hm:P.underlying t=some (.map k e)) (hk:P.underlying k=some .string):KeyOk P t k e Value.string where
  mt:=hm
  same:=⟨_,hk,fun a b=>by
    simp only [Instr.sameNow,Option.some.injEq]
    exact ba_beq a b⟩
  check b a w:=check_lit hk (by intro x h;cases h) (by intro x y h;cases h) (by intro x h;cases h) b _ w 9999
  bits a:=by simp [Instr.sameBits,ba_beq]

section
variable {κ ν:Type} [DecidableEq κ] {mk:κ->Value} {mkv:ν->Value}
theorem findNow_eq {d:TypeDesc} (hs:∀ a b,Instr.sameNow d (mk a) (mk b)=some (decide (a=b))) (k:κ):∀ (es:List MapEntry) (l:List (κ×ν)) (i:Nat),
    es.map (fun e=>(e.key,e.val))=l.map (fun p=>(mk p.1,mkv p.2))->Instr.findNow d (mk k) es i=some ((posn l k).map fun q=>(i+q.1,mkv q.2))
  | [],[],i,_=>rfl
  | e::es,p::r,i,h=>by
    simp only [List.map_cons,List.cons.injEq,Prod.mk.injEq] at h
    unfold Instr.findNow posn
    rw [h.1.1,hs]
    by_cases hk:k=p.1
    · simp [hk,h.1.2]
    · simp only [hk,decide_false,if_false]
      rw [findNow_eq hs k es r (i+1) h.2]
      cases posn r k<;>simp [Nat.add_assoc,Nat.add_comm 1]
  | [],_::_,_,h=>by simp at h
  | _::_,[],_,h=>by simp at h

theorem posn_key (k:κ):∀ (es:List MapEntry) (l:List (κ×ν)) (j:Nat) (v:ν),es.map (fun e=>(e.key,e.val))=l.map (fun p=>(mk p.1,mkv p.2))->posn l k=some (j,v)->(es[j]?).map (·.key)=some (mk k)
  | [],[],_,_,_,h=>by simp [posn] at h
  | e::es,p::r,j,v,h,hp=>by
    simp only [List.map_cons,List.cons.injEq,Prod.mk.injEq] at h
    unfold posn at hp
    split at hp
    · rename_i hk
      simp only [Option.some.injEq,Prod.mk.injEq] at hp
      obtain ⟨rfl,_⟩:=hp
      simp [h.1.1,hk]
    · cases hq:posn r k with
      | none=>simp [hq] at hp
      | some q=>
        rw [hq] at hp
        simp only [Option.map_some,Option.some.injEq,Prod.mk.injEq] at hp
        obtain ⟨rfl,rfl⟩:=hp
        simpa using posn_key k es r q.1 q.2 h.2 hq
  | [],_::_,_,_,h,_=>by simp at h
  | _::_,[],_,_,h,_=>by simp at h

theorem tupd_some (k:κ) (v:ν):∀ (es:List MapEntry) (l:List (κ×ν)) (j:Nat) (v':ν),es.map (fun e=>(e.key,e.val))=l.map (fun p=>(mk p.1,mkv p.2))->posn l k=some (j,v')->
    (es.modify j fun e=>{ e with key:=mk k,val:=mkv v }).map (fun e=>(e.key,e.val))=(tupd l k v).map (fun p=>(mk p.1,mkv p.2))
  | [],[],_,_,_,h=>by simp [posn] at h
  | e::es,p::r,j,v',h,hp=>by
    simp only [List.map_cons,List.cons.injEq,Prod.mk.injEq] at h
    unfold posn at hp
    split at hp
    · rename_i hk
      simp only [Option.some.injEq,Prod.mk.injEq] at hp
      obtain ⟨rfl,_⟩:=hp
      simp [tupd,hk,h.2]
    · rename_i hk
      cases hq:posn r k with
      | none=>simp [hq] at hp
      | some q=>
        rw [hq] at hp
        simp only [Option.map_some,Option.some.injEq,Prod.mk.injEq] at hp
        obtain ⟨rfl,rfl⟩:=hp
        have:=tupd_some k v es r q.1 q.2 h.2 hq
        simp [tupd,hk,this,h.1]
  | [],_::_,_,_,h,_=>by simp at h
  | _::_,[],_,_,h,_=>by simp at h
theorem tupd_none (k:κ) (v:ν):∀ (l:List (κ×ν)),posn l k=none->tupd l k v=l++[(k,v)]
  | [],_=>rfl
  | p::r,hp=>by
    unfold posn at hp
    split at hp
    · cases hp
    · rename_i hk
      cases hq:posn r k with
      | none=>simp [tupd,hk,tupd_none k v r hq]
      | some q=>simp [hq] at hp

/-- a map that is owned -/
def mp (mk:κ->Value) (mkv:ν->Value) (b:Nat) (l:List (κ×ν)):Res where
  own w F:=(∃es clock,w.heap[b]? =some (.map es clock)/\es.toList.map (fun e=>(e.key,e.val))=l.map (fun p=>(mk p.1,mkv p.2))/\Go.MapKept.Stamped es clock)/\∀ k,F k↔k=b
  stable:=fun _ h h'=>by
    obtain ⟨⟨es,clock,hb,he⟩,hF⟩:=h'
    exact ⟨⟨es,clock,(h _ ((hF _).2 rfl)).trans hb,he⟩,hF⟩
end

section
variable {P:Program} {ops:Array Oper} {Q:Exit->Act->World->Prop} {a:Act} {w:World} {rest:List Oper} {o:Oper} {L:List Res} {n:Nat} {E:List (Nat×Value)}
variable {κ ν:Type} {mk:κ->Value} {mkv:ν->Value}

theorem r_makeMap (mk:κ->Value) (mkv:ν->Value) {d:Nat} {t:TypeId} (S:Slots a n E) (H:Sat w L) (ho:o.op=.makeMap t none) (hd:o.dst=some d) (hn:Nat.blt d n=true) (hw:Wt ops E o=some true)
    (K:∀ a' w' b,Slots a' n ((d,.map (some b))::E)->Sat w' (mp mk mkv b []::L)->wpList P ops Q rest a' w'):wpList P ops Q (o::rest) a w:=by
  refine r_val (w':=w.alloc (.map #[] 0)) (v:=.map (some w.heap.size)) S (by simp [execOp,ho,Instr.makeMap]) hd hn hw fun a' S'=>K a' _ _ S' ?_
  exact H.add (Hp.alloc w _) (fun k hk=>Below.heap_alloc w _ k hk) (fun k=>k=w.heap.size) (fun k hk=>by subst hk;simp) ⟨⟨#[],0,heap_alloc_new w _,rfl,Go.MapKept.stamped_empty 0⟩,fun _=>Iff.rfl⟩

theorem Sat.map {b:Nat} {l:List (κ×ν)} (H:Sat w (mp mk mkv b l::L)):∃es clock,w.heap[b]? =some (.map es clock)/\es.toList.map (fun e=>(e.key,e.val))=l.map (fun p=>(mk p.1,mkv p.2))/\Go.MapKept.Stamped es clock:=by
  obtain ⟨F,_,h,_⟩:=H.head
  exact h

end

section
variable {P:Program} {ops:Array Oper} {Q:Exit->Act->World->Prop} {a:Act} {w:World} {rest:List Oper} {o:Oper} {L:List Res} {n:Nat} {E:List (Nat×Value)}
variable {κ ν:Type} [DecidableEq κ] {mk:κ->Value} {mkv:ν->Value}

theorem run_findKey {t kt e:TypeId} (K:KeyOk P t kt e mk) (k:κ) (es:List MapEntry) (l:List (κ×ν)) (h:es.map (fun e=>(e.key,e.val))=l.map (fun p=>(mk p.1,mkv p.2))) (w:World):
    (Instr.findKey kt (mk k) es).run P w=.ok ((posn l k).map fun q=>(q.1,mkv q.2)) w:=by
  obtain ⟨d,hd,hs⟩:=K.same
  have:=findNow_eq (mkv:=mkv) hs k es l 0 h
  simp only [Instr.findKey,Sem.run_bind,run_underlying hd,Result.andThen_ok,this,Sem.run_pure]
  simp

theorem run_lookup {t kt e:TypeId} {b:Nat} {l:List (κ×ν)} {z:ν} (K:KeyOk P t kt e mk) (hz:Zero P e (mkv z)) (i:Nat) (k:κ) (c:Bool) (H:Sat w L) (hL:L[i]? =some (mp mk mkv b l)):
    (Instr.lookup t (.map (some b)) (mk k) c).run P w=.ok (if c then .tuple #[mkv ((tlook l k).getD z),.bool (tlook l k).isSome] else mkv ((tlook l k).getD z)) w:=by
  obtain ⟨es,clock,hb,he,_⟩:=(H.fetch hL).map
  have hf:=run_findKey (mkv:=mkv) K k es.toList l he w
  have hc:=K.check es.isEmpty k w
  have hg:(getObj b).run P w=.ok (.map es clock) w:=by simp [getObj,Sem.run,hb]
  simp only [Instr.lookup,Sem.run_bind,run_underlying K.mt,Result.andThen_ok,hg,Sem.run_pure,hc,hf]
  rw [tlook_posn]
  cases hp:posn l k with
  | none=>simp [hz w]
  | some q=>simp

theorem y_lookup {t kt e:TypeId} {m x:Operand} {b:Nat} {l:List (κ×ν)} {z:ν} (i:Nat) (k:κ) (S:Slots a n E) (ho:o.op=.lookup t m x false) (hm:ev E m=some (.map (some b))) (hx:ev E x=some (mk k)) (K:KeyOk P t kt e mk) (hz:Zero P e (mkv z)) (hL:L[i]? =some (mp mk mkv b l)):
    Yl P L o a (mkv ((tlook l k).getD z)):=fun w H=>by
  simp only [execOp,ho,S.eval hm,S.eval hx,Sem.run_bind,run_lookup K hz i k false H hL,Result.andThen_ok,Sem.run_pure];rfl
theorem posn_off {t kt e:TypeId} (K:KeyOk P t kt e mk) (k:κ):∀ (es:List MapEntry) (l:List (κ×ν)),es.map (fun e=>(e.key,e.val))=l.map (fun p=>(mk p.1,mkv p.2))->posn l k=none->∀ x∈es,x.key≠mk k
  | [],_,_,_,x,hx=>by cases hx
  | e::es,[],h,_,_,_=>by simp at h
  | e::es,p::r,h,hp,x,hx=>by
    simp only [List.map_cons,List.cons.injEq,Prod.mk.injEq] at h
    unfold posn at hp
    split at hp
    · cases hp
    · rename_i hk
      have hp':posn r k=none:=by cases hq:posn r k with | none=>rfl | some q=>simp [hq] at hp
      rcases List.mem_cons.1 hx with rfl | hx
      · rw [h.1.1]
        intro e'
        obtain ⟨d,_,hs⟩:=K.same
        have h1:=hs p.1 k
        have h2:=hs k k
        rw [e',h2] at h1
        simp only [decide_true,Option.some.injEq] at h1
        exact hk (of_decide_eq_true h1.symm).symm
      · exact posn_off K k es r h.2 hp' x hx
theorem r_mapSet {t kt e:TypeId} {m x y:Operand} {b:Nat} {l:List (κ×ν)} {L':List Res} (i:Nat) (k:κ) (v:ν) (S:Slots a n E) (H:Sat w L) (ho:o.op=.mapUpdate t m x y) (hm:ev E m=some (.map (some b))) (hx:ev E x=some (mk k)) (hy:ev E y=some (mkv v)) (K:KeyOk P t kt e mk) (hL:L[i]? =some (mp mk mkv b l))
    (hL':L.set i (mp mk mkv b (tupd l k v))=L') (hd:o.dst=none) (hw:Wt ops E o=some true) (G:∀ w',Sat w' L'->wpList P ops Q rest a w'):wpList P ops Q (o::rest) a w:=by
  subst hL'
  obtain ⟨es,clock,hb,he,hst⟩:=(H.fetch hL).map
  have hf:=run_findKey (mkv:=mkv) K k es.toList l he w
  have hc:=K.check false k w
  have hg:(getObj b).run P w=.ok (.map es clock) w:=by simp [getObj,Sem.run,hb]
  have hblt:b < w.heap.size:=(Array.getElem?_eq_some_iff.1 hb).1
  have key:∀ (es':Array MapEntry) (clock':Nat),es'.toList.map (fun e=>(e.key,e.val))=(tupd l k v).map (fun p=>(mk p.1,mkv p.2))->Go.MapKept.Stamped es' clock'->Sat { w with heap:=w.heap.setIfInBounds b (.map es' clock') } (L.set i (mp mk mkv b (tupd l k v))):=by
    intro es' clock' he' hst'
    refine Sat.back ((H.fetch hL).turn ⟨rfl,rfl,rfl,by simp⟩ fun F hF hP=>⟨F,fun k' hk'=>⟨by simpa using hF k' hk',.inl hk'⟩,⟨⟨es',clock',by simp [hblt],he',hst'⟩,hP.2⟩,fun k' hk' hnf=>?_⟩) (lt_of_at hL)
    have hne:b≠k':=fun e=>hnf ((hP.2 k').2 e.symm)
    simp [Array.getElem?_setIfInBounds_ne hne]
  have hset:∀ o':Obj,(setObj b o').run P w=.ok () { w with heap:=w.heap.setIfInBounds b o' }:=by
    intro o'
    simp only [setObj,Sem.run,hb]
  cases hp:posn l k with
  | none=>
    refine r_act (w':=_) S ?_ hd hw (G _ (key (es.push { key:=mk k,val:=mkv v,born:=clock }) (clock+1) (by rw [tupd_none k v l hp];simp [he]) (Go.MapKept.stamped_push hst (posn_off K k es.toList l he hp))))
    simp only [execOp,ho,S.eval hm,S.eval hx,S.eval hy,Sem.run_bind,Instr.mapUpdate,run_underlying K.mt,Result.andThen_ok,hg,hc,hf,hp,Option.map_none,hset,Sem.run_pure]
  | some q=>
    have hk:=posn_key (mkv:=mkv) k es.toList l q.1 q.2 he hp
    have hk':((es[q.1]?).map (·.key)).getD (mk k)=mk k:=by
      have:es[q.1]? =es.toList[q.1]? :=by simp
      rw [this,hk];rfl
    refine r_act (w':=_) S ?_ hd hw (G _ (key (es.modify q.1 fun e=>{ e with key:=mk k,val:=mkv v }) clock (by rw [Array.toList_modify];exact tupd_some k v es.toList l q.1 q.2 he hp) (Go.MapKept.stamped_modify hst _ _ (fun _ _=>rfl) fun x hx hxi=>by
      have e1:es[q.1]? =es.toList[q.1]? :=by simp
      rw [<-e1,hxi] at hk
      simpa using hk.symm)))
    simp only [execOp,ho,S.eval hm,S.eval hx,S.eval hy,Sem.run_bind,Instr.mapUpdate,run_underlying K.mt,Result.andThen_ok,hg,hc,hf,hp,Option.map_some,hk',Instr.keyThatStays,K.bits,if_true,hset,Sem.run_pure]

/-! ### rows that are nil; parts of slices -/
theorem Sat.nilRow (H:Sat w L) (e:TypeId) (sz:Nat):Sat w (row e sz (.slice none 0 0) 0 []::L):=
  ⟨fun _=>False,fun _ h=>h.elim,⟨World.ownsRow_nil w 0 e sz,fun k=>⟨fun h=>h.elim,fun h=>by simp [Value.ownBlock] at h⟩⟩,SatIn.mono (fun _ hk=>⟨hk,id⟩) H⟩

/-- the address of a part -/
def shift (A:Option Addr) (k:Nat) (e:Bool):Option Addr:=if e then A else A.map (·.add k)
theorem run_slice_of {t e:TypeId} {A:Option Addr} {m c l h sz:Nat} (lo hi:Option Value) (w:World) (ht:P.underlying t=some (.slice e)) (hs:SizeOf P e sz) (hb:(Instr.sliceBounds true m c lo hi none).run P w=.ok (l,h,c) w):
    (Instr.sliceAt t (.slice A m c) lo hi none).run P w=.ok (.slice (shift A (l*sz) (decide (c=l))) (h - l) (c - l)) w:=by
  have h0:(Instr.sliceAt t (.slice A m c) lo hi none).run P w=(Instr.slice t (.slice A m c) lo hi none).run P w:=by
    simp [Instr.sliceAt,run_underlying ht]
  rw [h0]
  simp only [Instr.slice,Sem.run_bind,run_underlying ht,Result.andThen_ok,hb,hs w,Sem.run_pure]
  simp [shift]
theorem bounds_h {m c:Nat} {ik:IntKind} {j:Int} {k:Nat} (hj:j=k) (hk:k<=c) (w:World):(Instr.sliceBounds true m c none (some (.int ik j)) none).run P w=.ok (0,k,c) w:=by
  subst hj
  simp [Instr.sliceBounds,run_sliceBound,hk]
theorem bounds_l {m c:Nat} {ik:IntKind} {j:Int} {k:Nat} (hj:j=k) (hk:k<=m) (w:World):(Instr.sliceBounds true m c (some (.int ik j)) none none).run P w=.ok (k,m,c) w:=by
  subst hj
  simp [Instr.sliceBounds,run_sliceBound,hk]
theorem bounds_lh {m c:Nat} {ik ik':IntKind} {j j':Int} {k k':Nat} (hj:j=k) (hj':j'=k') (hk:k<=k') (hk':k'<=c) (w:World):(Instr.sliceBounds true m c (some (.int ik j)) (some (.int ik' j')) none).run P w=.ok (k,k',c) w:=by
  subst hj;subst hj'
  simp [Instr.sliceBounds,run_sliceBound,hk,hk']
/-- x[:h] -/
theorem y_sliceH {t e:TypeId} {x h:Operand} {A:Option Addr} {m c k:Nat} {sz:Nat} {ik:IntKind} {j:Int} (S:Slots a n E) (ho:o.op=.slice t x none (some h) none) (hx:ev E x=some (.slice A m c)) (hh:ev E h=some (.int ik j)) (ht:P.underlying t=some (.slice e)) (hs:SizeOf P e sz) (hj:j=k) (hk:k<=c):
    Yl P L o a (.slice (shift A 0 (decide (c=0))) k c):=fun w _=>by
  have:=run_slice_of (A:=A) none (some (.int ik j)) w ht hs (bounds_h (m:=m) hj hk w)
  rw [Nat.zero_mul] at this
  simp only [execOp,ho,S.eval hx,Option.map_none,Option.map_some,S.eval hh,Sem.run_bind,this,Result.andThen_ok,Sem.run_pure]
  rfl
/-- x[l:] -/
theorem y_sliceL {t e:TypeId} {x h:Operand} {A:Option Addr} {m c k:Nat} {sz:Nat} {ik:IntKind} {j:Int} (S:Slots a n E) (ho:o.op=.slice t x (some h) none none) (hx:ev E x=some (.slice A m c)) (hh:ev E h=some (.int ik j)) (ht:P.underlying t=some (.slice e)) (hs:SizeOf P e sz) (hj:j=k) (hk:k<=m):
    Yl P L o a (.slice (shift A (k*sz) (decide (c=k))) (m - k) (c - k)):=fun w _=>by
  have:=run_slice_of (A:=A) (some (.int ik j)) none w ht hs (bounds_l (c:=c) hj hk w)
  simp only [execOp,ho,S.eval hx,Option.map_none,Option.map_some,S.eval hh,Sem.run_bind,this,Result.andThen_ok,Sem.run_pure]
/-- x[l:h] -/
theorem y_sliceLH {t e:TypeId} {x h h':Operand} {A:Option Addr} {m c k k':Nat} {sz:Nat} {ik ik':IntKind} {j j':Int} (S:Slots a n E) (ho:o.op=.slice t x (some h) (some h') none) (hx:ev E x=some (.slice A m c)) (hh:ev E h=some (.int ik j)) (hh':ev E h'=some (.int ik' j')) (ht:P.underlying t=some (.slice e)) (hs:SizeOf P e sz) (hj:j=k) (hj':j'=k') (hk:k<=k') (hk':k'<=c):
    Yl P L o a (.slice (shift A (k*sz) (decide (c=k))) (k' - k) (c - k)):=fun w _=>by
  have:=run_slice_of (A:=A) (some (.int ik j)) (some (.int ik' j')) w ht hs (bounds_lh (m:=m) (c:=c) hj hj' hk hk' w)
  simp only [execOp,ho,S.eval hx,Option.map_none,Option.map_some,S.eval hh,S.eval hh',Sem.run_bind,this,Result.andThen_ok,Sem.run_pure]

theorem SlOk.part {sz:Nat} {A:Option Addr} {m c:Nat} {xs:List Value} (h:SlOk L sz A m c xs) (l k:Nat) (hl:l<=k) (hk:k<=m):SlOk L sz (shift A (l*sz) (decide (c=l))) (k - l) (c - l) ((xs.drop (l*sz)).take ((k - l)*sz)) where
  nil e:=by
    unfold shift at e
    have h1:=h.nil;have h2:=h.le
    by_cases hc:c=l
    · omega
    · rw [decide_eq_false hc] at e
      simp only [Bool.false_eq_true,if_false] at e
      cases A with
      | none=>have:=h1 rfl;omega
      | some x=>simp at e
  le:=by have:=h.le;omega
  cap:=by have:=h.cap;omega
  len:=by
    have h1:=h.len
    have h2:(k - l)*sz+l*sz<=m*sz:=by rw [<-Nat.add_mul];exact Nat.mul_le_mul_right _ (by omega)
    simp only [List.length_take,List.length_drop]
    omega
  rd:=by
    intro w H j v hj
    have hjl:j < (k - l)*sz:=by
      have:=(List.getElem?_eq_some_iff.1 hj).1
      simp only [List.length_take] at this;omega
    rw [List.getElem?_take,if_pos hjl,List.getElem?_drop] at hj
    obtain ⟨b,o,rfl,hc⟩:=h.rd w H _ v hj
    have hne:¬ c=l:=by
      intro e
      have h2:=h.le
      have:k - l=0:=by omega
      rw [this] at hjl;simp at hjl
    refine ⟨b,o+l*sz,?_,?_⟩
    · simp [shift,hne,add_lit]
    · rw [Nat.add_assoc];exact hc
theorem SlOk.init {sz:Nat} {A:Option Addr} {m c:Nat} {xs:List Value} (h:SlOk L sz A m c xs) (k:Nat) (hk:k<=m):SlOk L sz (shift A 0 (decide (c=0))) k c (xs.take (k*sz)):=by
  simpa using h.part 0 k (Nat.zero_le _) hk
theorem SlOk.tail {sz:Nat} {A:Option Addr} {m c:Nat} {xs:List Value} (h:SlOk L sz A m c xs) (k:Nat) (hk:k<=m):SlOk L sz (shift A (k*sz) (decide (c=k))) (m - k) (c - k) (xs.drop (k*sz)):=by
  have:=h.part k m hk (Nat.le_refl _)
  rwa [List.take_of_length_le] at this
  rw [List.length_drop,h.len,Nat.sub_mul];exact Nat.le_refl _

theorem r_appendS {e t:TypeId} {sz m k c bytes d km:Nat} {s x:Operand} {v:Value} {xs news:List Value} {A:Option Addr} {z:Value} {xs':List Value} {L':Option Addr->Nat->List Res} (i:Nat) (S:Slots a n E) (H:Sat w L) (ho:o.op=.call { callee:=.builtin .append,args:=#[s,x],argTypes:=#[t,t] })
    (hs:ev E s=some v) (hx:ev E x=some (.slice A m c)) (hL:L[i]? =some (row e sz v k xs)) (El:Elem P t e sz bytes z) (ok:SlOk L sz A m c news) (h1:∀ u∈news,u.oneCell'=true) (h63:k+m<=maxLen) (hbytes:(k+m)*bytes<=140737488355328)
    (hxs:xs++news=xs') (hkm:k+m=km) (hL':∀ A' c',L.set i (row e sz (.slice A' km c') km xs')=L' A' c') (hd:o.dst=some d) (hn:Nat.blt d n=true) (hw:Wt ops E o=some true)
    (K:∀ a' w' A' c',(A'=none->c'=0)->Slots a' n ((d,.slice A' km c')::E)->Sat w' (L' A' c')->wpList P ops Q rest a' w'):wpList P ops Q (o::rest) a w:=
  r_append i S H ho hs hx hL El ok.len ok.rd h1 ok.nil h63 hbytes hxs hkm hd hn hw fun a' w' A' c' h S' H'=>K a' w' A' c' h S' (hL' A' c'▸H')

/-- copy into a row, from place j on -/
theorem r_copy {dT sT e:TypeId} {x y:Operand} {g j dl dc len cap:Nat} {B:Option Addr} {sl sc d:Nat} {xs news:List Value} {L':List Res} (i:Nat) (S:Slots a n E) (H:Sat w L) (ho:o.op=.call { callee:=.builtin .copy,args:=#[x,y],argTypes:=#[dT,sT] })
    (hx:ev E x=some (.slice (some ⟨g,j,none⟩) dl dc)) (hy:ev E y=some (.slice B sl sc)) (ht:P.underlying dT=some (.slice e)) (hs:(P.info? e).map (·.size)=some 1) (ok:SlOk L 1 B sl sc news) (h1:∀ u∈news,u.oneCell'=true)
    (hL:L[i]? =some (row e 1 (.slice (some ⟨g,0,none⟩) len cap) len xs)) (hfit:j+dl<=len) (hL':L.set i (row e 1 (.slice (some ⟨g,0,none⟩) len cap) len (xs.take j++news.take (min sl dl)++xs.drop (j+min sl dl)))=L') (hd:o.dst=some d) (hn:Nat.blt d n=true) (hw:Wt ops E o=some true)
    (K:∀ a' w',Slots a' n ((d,.int .i64 ((min sl dl:Nat):Int))::E)->Sat w' L'->wpList P ops Q rest a' w'):wpList P ops Q (o::rest) a w:=by
  subst hL'
  have hr0:=(H.fetch hL)
  obtain ⟨F,hF,hown,hFk⟩:=hr0.head
  have hlen:=ok.len
  have hxl:=hown.1
  have htl:(news.take (min sl dl)).length=min sl dl:=by rw [List.length_take,hlen];omega
  rcases hown.2 with ⟨h1',_⟩ | ⟨g',cap',cur,h1',_,hg,hnc,hcm,hcs,htake⟩
  · cases h1'
  · cases h1'
    have hsz:j+min sl dl<=cur.size:=by simp only [Nat.mul_one] at hcs;omega
    have hrow:∀ w',Hp w w'->w'.heap[g]? =some (.cells (cur.toList.take j++news.take (min sl dl)++cur.toList.drop (j+min sl dl)).toArray e (0,0))->(∀ k,g≠k->w'.heap[k]? =w.heap[k]?)->
        Sat w' (L.set i (row e 1 (.slice (some ⟨g,0,none⟩) len cap) len (xs.take j++news.take (min sl dl)++xs.drop (j+min sl dl)))):=by
      intro w' hh hg' hk
      refine Sat.back (hr0.turn hh fun F hF hP=>⟨F,fun k hk=>⟨Nat.lt_of_lt_of_le (hF k hk) hh.size,.inl hk⟩,⟨?_,hP.2⟩,fun k _ hnf=>hk k fun e'=>hnf ((hP.2 k).2 (by rw [<-e'];rfl))⟩) (lt_of_at hL)
      have hxl':xs.length=len:=by simpa using hxl
      have hcs':cur.size=cap:=by simpa using hcs
      refine ⟨?_,.inr ⟨g,cap,_,rfl,Nat.zero_le _,hg',hnc,hcm,?_,?_⟩⟩
      · simp only [List.length_append,List.length_take,List.length_drop,hlen,hxl',Nat.mul_one] at htl ⊢;omega
      · simp only [List.size_toArray,List.length_append,List.length_take,List.length_drop,Array.length_toList,hlen,hcs',Nat.mul_one] at htl ⊢;omega
      · simp only [Nat.mul_one] at htake ⊢
        apply List.ext_getElem?
        intro q
        have hcx:∀ q,q < len->cur.toList[q]? =xs[q]? :=fun q hq=>by
          have:=congrArg (fun l:List Value=>l[q]?) htake
          simp only [List.getElem?_take,if_pos hq] at this
          exact this
        by_cases hq:q < len
        · rw [List.getElem?_take,if_pos hq]
          have e1:(min j cur.toList.length)=j:=by simp;omega
          have e2:(min j xs.length)=j:=by omega
          simp only [List.append_assoc,List.getElem?_append,List.length_take,e1,e2,List.getElem?_take,List.getElem?_drop,hlen,Nat.mul_one]
          by_cases hqj:q < j
          · simp only [if_pos hqj];exact hcx q hq
          · simp only [if_neg hqj]
            split
            · rfl
            · exact hcx _ (by omega)
        · rw [List.getElem?_take,if_neg hq,List.getElem?_eq_none]
          simp only [List.length_append,List.length_take,List.length_drop,hlen,hxl',Nat.mul_one] at htl ⊢;omega
    have hself:cur.toList.take j++([]:List Value)++cur.toList.drop (j+0)=cur.toList:=by simp
    cases B with
    | none=>
      have hc0:=ok.nil rfl
      have hsl:sl=0:=by have:=ok.le;omega
      subst hsl;subst hc0
      refine r_val (w':=w) (v:=.int .i64 ((min 0 dl:Nat):Int)) S ?_ hd hn hw fun a' S'=>K a' w S' (hrow w (Hp.refl w) (by simpa using hg) fun _ _=>rfl)
      have hr:=run_copy_nil P w dT sT o.type e ⟨g,j,none⟩ dl dc ht (by cases hq:P.info? e with | none=>simp [hq] at hs | some i=>rfl)
      unfold execOp
      simp only [ho,resolve,invoke,builtin,Sem.run_bind,Sem.run_pure,Result.andThen_ok,List.map_toArray,List.map_cons,List.map_nil,S.eval hx,S.eval hy,hr]
      simp [goInt]
    | some ad=>
      have hr:=run_copy_row P w dT sT o.type e g j dl dc ad sl sc cur e (news.take (min sl dl)) ht hs hg (by rw [htl]) (fun q v hq=>by
        have hq':news[q]? =some v:=by
          rw [List.getElem?_take] at hq
          split at hq
          · exact hq
          · cases hq
        obtain ⟨b,o',e',hc⟩:=ok.rd w H q v hq'
        cases e'
        rw [add_lit];exact hc) (by rw [htl];exact hsz) (fun v hv=>h1 v (List.mem_of_mem_take hv))
      rw [htl] at hr
      refine r_val (v:=.int .i64 ((min sl dl:Nat):Int)) S ?_ hd hn hw fun a' S'=>K a' (w.setRow g (cur.toList.take j++news.take (min sl dl)++cur.toList.drop (j+min sl dl)).toArray) S'
        (hrow _ ⟨rfl,rfl,rfl,by simp⟩ (setRow_heap w g cur _ e _ hg) fun k hk=>setRow_other w g k _ (Ne.symm hk))
      unfold execOp
      simp only [ho,resolve,invoke,builtin,Sem.run_bind,Sem.run_pure,Result.andThen_ok,List.map_toArray,List.map_cons,List.map_nil,S.eval hx,S.eval hy,hr]
      simp [goInt]
end

/-! ### views, joined, made, cut -/
@[simp] theorem u64s_nil:u64s []=[]:=rfl
@[simp] theorem bools_nil:bools []=[]:=rfl
@[simp] theorem ints_nil:ints []=[]:=rfl
@[simp] theorem ecells_nil:ecells []=[]:=rfl
theorem ecells_app (l l':List Tr.E):ecells l++ecells l'=ecells (l++l'):=by simp [ecells]
theorem bools_take (l:List Bool) (k:Nat):(bools l).take (k*1)=bools (l.take k):=by simp [bools,List.map_take]
theorem bools_drop (l:List Bool) (k:Nat):(bools l).drop (k*1)=bools (l.drop k):=by simp [bools,List.map_drop]
theorem ecells_take:∀ (l:List Tr.E) (k:Nat),(ecells l).take (k*3)=ecells (l.take k)
  | [],k=>by simp
  | e::l,0=>by simp
  | e::l,k+1=>by
    have:=ecells_take l k
    simp only [ecells,List.flatMap_cons,List.take_succ_cons] at this ⊢
    rw [show (k+1)*3=(ecell e).length+k*3 from by simp [ecell];omega,List.take_length_add_append,this]
theorem made_ints (n:Nat):(madeCells (Value.int .i64 0).cells (n*1)).toList=ints (List.replicate n 0):=by
  have:(Value.int .i64 0).cells=#[.int .i64 0]:=rfl
  rw [this,toList_madeCells_one,Nat.mul_one];simp [ints]
/-- the first k are told by f, the others as they were -/
def fill {α:Type} (f:Nat->α) (l:List α) (k:Nat):List α:=(List.range k).map f++l.drop k
section
variable {α:Type} {f:Nat->α} {l:List α} {k:Nat}
end

theorem div32 {P:Program} {t:TypeId} (a:Nat) (w:World):(binOp .shr t (.int .u64 (a:Int)) (.int .u64 32)).run P w=.ok (.int .u64 ((a / 4294967296:Nat):Int)) w:=by
  rw [binOp_shr]
  have:Int.fdiv (a:Int) (2 ^ (min (32:Int).toNat (IntKind.u64).bits))=((a / 4294967296:Nat):Int):=by
    show Int.fdiv (a:Int) (4294967296:Int)=_
    rw [Int.fdiv_eq_ediv_of_nonneg _ (by omega)];omega
  have h0:¬ ((32:Int) < 0):=by decide
  simp only [Op.shift,h0,if_false,this,Sem.run_pure]

section
variable {P:Program} {a:Act} {o:Oper} {L:List Res} {n:Nat} {E:List (Nat×Value)}
end
/-- a slot's value in other words -/
theorem Slots.retell {a:Act} {n:Nat} {E:List (Nat×Value)} {v v':Value} (S:Slots a n E) (d:Nat) (h:lk E d=some v) (e:v=v'):Slots a n ((d,v')::E):=S.told h v' e
theorem int_eq {k:IntKind} {a b:Int} (h:a=b):Value.int k a=Value.int k b:=by rw [h]

theorem ints_put {l:List Int} {j i:Nat} {x:Int} {v:Value} (hj:j=i) (hv:v=.int .i64 x):(ints l).set j v=ints (l.set i x):=by subst hj;subst hv;simp [ints,List.map_set]
section
variable {P:Program} {ops:Array Oper} {Q:Exit->Act->World->Prop} {a:Act} {w:World} {rest:List Oper} {o:Oper} {L:List Res} {n:Nat} {E:List (Nat×Value)}
theorem r_setRowV {ty e:TypeId} {ad x:Operand} {g j sz len cap:Nat} {v:Value} {xs xs':List Value} {L':List Res} (i:Nat) (S:Slots a n E) (H:Sat w L) (ho:o.op=.store ty ad x) (ha:ev E ad=some (.pointer (some ⟨g,j,none⟩))) (hx:ev E x=some v)
    (hL:L[i]? =some (row e sz (.slice (some ⟨g,0,none⟩) len cap) len xs)) (hs:SizeOf P ty 1) (hvs:v.cells=#[v]) (h1:v.oneCell'=true) (hj:j < len*sz) (hset:xs.set j v=xs') (hL':L.set i (row e sz (.slice (some ⟨g,0,none⟩) len cap) len xs')=L') (hd:o.dst=none) (hw:Wt ops E o=some true)
    (K:∀ w',Sat w' L'->wpList P ops Q rest a w'):wpList P ops Q (o::rest) a w:=by
  subst hset
  exact r_setRow i S H ho ha hx hL hs hvs h1 hj hL' hd hw K
end

theorem Sat.rowAt {w:World} {L:List Res} {e sz n c:Nat} {A:Option Addr} {xs:List Value} (H:Sat w L) {i:Nat} (hL:L[i]? =some (row e sz (.slice A n c) n xs)) (h:0 < n):∃b,A=some ⟨b,0,none⟩:=by
  obtain ⟨F,_,hown,_⟩:=(H.fetch hL).head
  rcases hown.2 with ⟨h1,h2⟩ | ⟨g,cap,cur,h1,_⟩
  · omega
  · cases h1;exact ⟨g,rfl⟩
end Go.Cg
end
section
namespace Go.Cg
set_option linter.unusedVariables false
set_option linter.unusedSimpArgs false
open Go.RowKit
abbrev Env:=List (Nat×Value)

/-! ### look-ups -/
class LtB (d n:Nat):Prop where
  h:Nat.blt d n=true
instance LtB.lt (d k:Nat):LtB d (k+d+1):=⟨by rw [Nat.blt_eq];omega⟩
class Lk (E:Env) (d:Nat) (v:outParam Value):Prop where
  h:lk E d=some v
instance (priority:=1100) Lk.hit (d:Nat) (v:Value) (E:Env):Lk ((d,v)::E) d v:=⟨by unfold lk;rw [Nat.beq_refl]⟩
instance Lk.skipL (i d:Nat) (u v:Value) (E:Env) [hn:LtB i d] [hl:Lk E d v]:Lk ((i,u)::E) d v:=⟨by
  unfold lk
  cases hb:Nat.beq i d with
  | false=>exact hl.h
  | true=>have h1:=Nat.eq_of_beq_eq_true hb;have h2:=hn.h;rw [Nat.blt_eq] at h2;omega⟩
instance Lk.skipG (i d:Nat) (u v:Value) (E:Env) [hn:LtB d i] [hl:Lk E d v]:Lk ((i,u)::E) d v:=⟨by
  unfold lk
  cases hb:Nat.beq i d with
  | false=>exact hl.h
  | true=>have h1:=Nat.eq_of_beq_eq_true hb;have h2:=hn.h;rw [Nat.blt_eq] at h2;omega⟩
class Ev (E:Env) (x:Operand) (v:outParam Value):Prop where
  h:ev E x=some v
instance Ev.tmp (E:Env) (t:Nat) (v:Value) [hl:Lk E t v]:Ev E (.tmp t) v:=⟨hl.h⟩
instance Ev.const (E:Env) (v:Value):Ev E (.const v) v:=⟨rfl⟩
class Evs (E:Env) (xs:List Operand) (vs:outParam (List Value)):Prop where
  h:xs.map (ev E)=vs.map some
instance Evs.nil (E:Env):Evs E [] []:=⟨rfl⟩
instance Evs.cons (E:Env) (x:Operand) (v:Value) (xs:List Operand) (vs:List Value) [h1:Ev E x v] [h2:Evs E xs vs]:Evs E (x::xs) (v::vs):=⟨by simp only [List.map_cons,h1.h,h2.h]⟩
class At {α:Type} (l:List α) (j:Nat) (v:outParam α):Prop where
  h:l[j]? =some v
instance At.hit {α:Type} (v:α) (l:List α):At (v::l) 0 v:=⟨rfl⟩
instance At.skip {α:Type} (u v:α) (l:List α) (j:Nat) [h:At l j v]:At (u::l) (j+1) v:=⟨by simpa using h.h⟩
/-- so many from a place on -/
class Takes (l:List Value) (j s:Nat) (vs:outParam (List Value)):Prop where
  h:vs.length=s/\∀ k v,vs[k]? =some v->l[j+k]? =some v
instance Takes.nil (l:List Value) (j:Nat):Takes l j 0 []:=⟨rfl,fun k v h=>by simp at h⟩
instance Takes.skip (u:Value) (l:List Value) (j s:Nat) (vs:List Value) [h:Takes l j s vs]:Takes (u::l) (j+1) s vs:=⟨h.h.1,fun k v hk=>by
  rw [show j+1+k=(j+k)+1 from by omega];simpa using h.h.2 k v hk⟩
instance Takes.hit (u:Value) (l:List Value) (s:Nat) (vs:List Value) [h:Takes l 0 s vs]:Takes (u::l) 0 (s+1) (u::vs):=⟨by simp [h.h.1],fun k v hk=>by
  cases k with
  | zero=>simpa using hk
  | succ k=>have:=h.h.2 k v (by simpa using hk);simpa using this⟩
/-- the sum of two places -/
class Plus (a b:Nat) (c:outParam Nat):Prop where
  h:a+b=c
instance (priority:=1100) Plus.left (b:Nat):Plus 0 b b:=⟨by omega⟩
instance (priority:=1050) Plus.right (a:Nat):Plus a 0 a:=⟨rfl⟩
instance Plus.sum (a b:Nat):Plus a b (a+b):=⟨rfl⟩
/-- a block among the resources -/
class Has (L:List Res) (b:Nat) (c:outParam (List Value)):Prop where
  h:∃(i:Nat) (ty:TypeId),L[i]? =some (blk b (.cells c.toArray ty))
instance (priority:=1100) Has.hit (b:Nat) (c:List Value) (ty:TypeId) (L:List Res):Has (blk b (.cells c.toArray ty)::L) b c:=⟨0,ty,rfl⟩
instance Has.skip (R:Res) (L:List Res) (b:Nat) (c:List Value) [h:Has L b c]:Has (R::L) b c:=⟨by
  obtain ⟨i,ty,h⟩:=h.h;exact ⟨i+1,ty,by simpa using h⟩⟩
theorem Has.cell {L:List Res} {b:Nat} {c:List Value} (h:Has L b c) {w:World} (H:Sat w L) (j:Nat):w.cell? ⟨b,j,none⟩=c[j]? :=by
  obtain ⟨i,ty,h⟩:=h.h
  have:=(H.cellOf h).1 (j:=j)
  simpa using this

/-! ### the program's own facts -/
class Und (P:Program) (t:TypeId) (d:outParam TypeDesc):Prop where
  h:P.underlying t=some d
class Fld (P:Program) (s f:Nat) (k:outParam Nat):Prop where
  h:FieldAt P s f k
class Pln (P:Program) (t:TypeId):Prop where
  h:Plain P t
class Ag (P:Program) (t:TypeId) (s:outParam Nat):Prop where
  h:Agg P t s
class Szo (P:Program) (t:TypeId) (s:outParam Nat):Prop where
  h:SizeOf P t s
/-- what a kind of integer may be -/
class Rng (k:IntKind) (lo hi:outParam Int):Prop where
  h:∀ x:Int,lo<=x->x<=hi->k.wrap x=x
instance:Rng .i64 (-9223372036854775808) 9223372036854775807:=⟨fun _ h1 h2=>wi64 h1 h2⟩
instance:Rng .u64 0 18446744073709551615:=⟨fun _ h1 h2=>wu64 h1 h2⟩
instance:Rng .u32 0 4294967295:=⟨fun _ h1 h2=>wu32 h1 h2⟩
/-! ### what an operation yields -/
class Stp (P:Program) (L:List Res) (E:Env) (op:Op) (v:outParam Value):Prop where
  h:∀ {a:Act} {n:Nat},Slots a n E->∀ {o:Oper},o.op=op->Yl P L o a v
/-- .. where this is so -/
class StpC (P:Program) (L:List Res) (E:Env) (op:Op) (v:outParam Value) (C:outParam Prop):Prop where
  h:C->∀ {a:Act} {n:Nat},Slots a n E->∀ {o:Oper},o.op=op->Yl P L o a v
section
variable {P:Program} {L:List Res} {E:Env}
instance Stp.move (x:Operand) (v:Value) [hx:Ev E x v]:Stp P L E (.move x) v:=⟨fun S _ ho=>y_move S ho hx.h⟩
instance Stp.assign (x:Operand) (v:Value) [hx:Ev E x v]:Stp P L E (.assign x) v:=⟨fun S _ ho=>y_assign S ho hx.h⟩
instance Stp.fieldAddr (s f k b j r:Nat) (x:Operand) [hx:Ev E x (.pointer (some ⟨b,j,none⟩))] [hf:Fld P s f k] [hr:Plus j k r]:Stp P L E (.fieldAddr s x f) (.pointer (some ⟨b,r,none⟩)):=⟨fun S _ ho=>by
  have h:=hr.h;subst h;exact y_fieldAddr S ho hx.h hf.h⟩
instance Stp.nilCheck (x:Operand) (ad:Addr) [hx:Ev E x (.pointer (some ad))]:Stp P L E (.nilCheck x) (.pointer (some ad)):=⟨fun S _ ho=>y_nilCheck S ho hx.h⟩
instance Stp.load (t b j:Nat) (x:Operand) (c:List Value) (v:Value) [hx:Ev E x (.pointer (some ⟨b,j,none⟩))] [hp:Pln P t] [hc:Has L b c] [hv:At c j v]:Stp P L E (.load t x) v:=
  ⟨fun S _ ho=>y_loadAt S ho hx.h hp.h fun w H=>by rw [hc.cell H,hv.h]⟩
instance Stp.loadAgg (t b j s:Nat) (x:Operand) (c vs:List Value) [hx:Ev E x (.pointer (some ⟨b,j,none⟩))] [hp:Ag P t s] [hc:Has L b c] [hv:Takes c j s vs]:Stp P L E (.load t x) (.agg vs.toArray):=
  ⟨fun S _ ho=>y_loadAggAt vs S ho hx.h hp.h hv.h.1 fun w H k v hk=>by rw [hc.cell H];exact hv.h.2 k v hk⟩
instance Stp.extract (x:Operand) (i:Nat) (l:List Value) (v:Value) [hx:Ev E x (.tuple l.toArray)] [hv:At l i v]:Stp P L E (.extract x i) v:=⟨fun S _ ho=>y_extract S ho hx.h (by simpa using hv.h)⟩
instance Stp.len (t e n c:Nat) (A:Option Addr) (x:Operand) [hx:Ev E x (.slice A n c)] [hu:Und P t (.slice e)]:Stp P L E (.call { callee:=.builtin .len,args:=#[x],argTypes:=#[t] }) (.int .i64 n):=⟨fun S _ ho=>y_len S ho hx.h hu.h⟩
instance Stp.lenS (t:Nat) (s:List UInt8) (x:Operand) [hx:Ev E x (.string ⟨s.toArray⟩)] [hu:Und P t .string]:Stp P L E (.call { callee:=.builtin .len,args:=#[x],argTypes:=#[t] }) (.int .i64 s.length):=⟨fun S _ ho=>by
  have:=y_lenStr (L:=L) S ho hx.h hu.h
  have e:(ByteArray.size ⟨s.toArray⟩)=s.length:=by simp [ByteArray.size]
  rwa [e] at this⟩
instance Stp.minI (x y:Operand) (ts:Array TypeId) (k k':IntKind) (m m':Int) [hx:Ev E x (.int k m)] [hy:Ev E y (.int k' m')]:Stp P L E (.call { callee:=.builtin .min,args:=#[x,y],argTypes:=ts }) (.int k (min m m')):=⟨fun S _ ho=>y_min S ho hx.h hy.h⟩
instance Stp.maxI (x y:Operand) (ts:Array TypeId) (k k':IntKind) (m m':Int) [hx:Ev E x (.int k m)] [hy:Ev E y (.int k' m')]:Stp P L E (.call { callee:=.builtin .max,args:=#[x,y],argTypes:=ts }) (.int k (max m m')):=⟨fun S _ ho=>y_max S ho hx.h hy.h⟩
section
variable (t t':TypeId) (x y:Operand) (k:IntKind) (m m':Int) [hx:Ev E x (.int k m)] [hy:Ev E y (.int k m')]
instance Stp.eq:Stp P L E (.binOp .eql t x y t') (.bool (decide (m=m'))):=⟨fun S _ ho=>y_eq S ho hx.h hy.h⟩
instance Stp.ne:Stp P L E (.binOp .neq t x y t') (.bool (decide (m≠m'))):=⟨fun S _ ho=>y_ne S ho hx.h hy.h⟩
instance Stp.lt:Stp P L E (.binOp .lss t x y t') (.bool (decide (m < m'))):=⟨fun S _ ho=>y_lt S ho hx.h hy.h⟩
instance Stp.le:Stp P L E (.binOp .leq t x y t') (.bool (decide (m<=m'))):=⟨fun S _ ho=>y_le S ho hx.h hy.h⟩
instance Stp.gt:Stp P L E (.binOp .gtr t x y t') (.bool (decide (m' < m))):=⟨fun S _ ho=>y_gt S ho hx.h hy.h⟩
instance Stp.ge:Stp P L E (.binOp .geq t x y t') (.bool (decide (m'<=m))):=⟨fun S _ ho=>y_ge S ho hx.h hy.h⟩
variable (lo hi:Int) [hr:Rng k lo hi]
instance StpC.add:StpC P L E (.binOp .add t x y t') (.int k (m+m')) (lo<=m+m'/\m+m'<=hi):=⟨fun hc _ _ S _ ho=>y_add S ho hx.h hy.h (hr.h _ hc.1 hc.2)⟩
instance StpC.sub:StpC P L E (.binOp .sub t x y t') (.int k (m - m')) (lo<=m - m'/\m - m'<=hi):=⟨fun hc _ _ S _ ho=>y_sub S ho hx.h hy.h (hr.h _ hc.1 hc.2)⟩
instance StpC.mul:StpC P L E (.binOp .mul t x y t') (.int k (m*m')) (lo<=m*m'/\m*m'<=hi):=⟨fun hc _ _ S _ ho=>y_mul S ho hx.h hy.h (hr.h _ hc.1 hc.2)⟩
end
instance StpC.conv (src dst:TypeId) (x:Operand) (k k':IntKind) (m lo hi:Int) [hx:Ev E x (.int k m)] [hs:Und P src (.int k)] [hd:Und P dst (.int k')] [hr:Rng k' lo hi]:StpC P L E (.convert src dst x) (.int k' m) (lo<=m/\m<=hi):=⟨fun hc _ _ S _ ho=>y_conv S ho hx.h hs.h hd.h (hr.h _ hc.1 hc.2)⟩
instance (priority:=1100) Stp.notT (t:TypeId) (x:Operand) [hx:Ev E x (.bool true)]:Stp P L E (.unOp .not t x) (.bool false):=⟨fun S _ ho=>y_not S ho hx.h⟩
instance (priority:=1100) Stp.notF (t:TypeId) (x:Operand) [hx:Ev E x (.bool false)]:Stp P L E (.unOp .not t x) (.bool true):=⟨fun S _ ho=>y_not S ho hx.h⟩
instance Stp.not (t:TypeId) (x:Operand) (b:Bool) [hx:Ev E x (.bool b)]:Stp P L E (.unOp .not t x) (.bool (!b)):=⟨fun S _ ho=>y_not S ho hx.h⟩
instance Stp.pickT (c x y:Operand) (v:Value) [hc:Ev E c (.bool true)] [hx:Ev E x v]:Stp P L E (.pick c x y) v:=⟨fun S _ ho=>y_pickT S ho hc.h hx.h⟩
instance Stp.pickF (c x y:Operand) (v:Value) [hc:Ev E c (.bool false)] [hy:Ev E y v]:Stp P L E (.pick c x y) v:=⟨fun S _ ho=>y_pickF S ho hc.h hy.h⟩
end

/-! ### strings, pointers -/
abbrev str (n:List UInt8):Value:=.string ⟨n.toArray⟩
theorem ba_app (a b:List UInt8):(⟨a.toArray⟩:ByteArray)++⟨b.toArray⟩=⟨(a++b).toArray⟩:=by
  apply ByteArray.ext
  simp
section
variable {P:Program} {L:List Res} {E:Env} (t t':TypeId) (x y:Operand)
instance StpC.addS (a b:List UInt8) [hx:Ev E x (str a)] [hy:Ev E y (str b)]:StpC P L E (.binOp .add t x y t') (str (a++b)) (((a.length+b.length:Nat):Int)<=9223372036854775807):=⟨fun hc _ _ S _ ho=>yl_bin S ho hx.h hy.h guard_str fun w _=>by
  have e:binOp .add t (str a) (str b)=Op.stringOp .add ⟨a.toArray⟩ ⟨b.toArray⟩:=rfl
  have h1:(ByteArray.size ⟨a.toArray⟩)=a.length:=by simp [ByteArray.size]
  have h2:(ByteArray.size ⟨b.toArray⟩)=b.length:=by simp [ByteArray.size]
  have h3:¬ ((a.length+b.length:Nat):Int) > IntKind.i64.max:=by have:IntKind.i64.max=9223372036854775807:=rfl;omega
  rw [e]
  simp only [Op.stringOp,h1,h2,if_neg h3,ba_app,Sem.run_pure]⟩
instance Stp.eqS (a b:List UInt8) [hx:Ev E x (str a)] [hy:Ev E y (str b)]:Stp P L E (.binOp .eql t x y t') (.bool (decide (a=b))):=⟨fun S _ ho=>yl_bin S ho hx.h hy.h guard_str fun w _=>by
  have e2:binOp .eql t (str a) (str b)=Op.stringOp .eql ⟨a.toArray⟩ ⟨b.toArray⟩:=rfl
  have e3:(a==b)=decide (a=b):=by rw [Bool.eq_iff_iff];simp
  rw [e2];simp [Op.stringOp,e3]⟩
instance Stp.neS (a b:List UInt8) [hx:Ev E x (str a)] [hy:Ev E y (str b)]:Stp P L E (.binOp .neq t x y t') (.bool (decide (a≠b))):=⟨fun S _ ho=>yl_bin S ho hx.h hy.h guard_str fun w _=>by
  have e2:binOp .neq t (str a) (str b)=Op.stringOp .neq ⟨a.toArray⟩ ⟨b.toArray⟩:=rfl
  have e3:(a==b)=decide (a=b):=by rw [Bool.eq_iff_iff];simp
  rw [e2];simp [Op.stringOp,e3]⟩
theorem run_eqP {e:TypeId} (hu:P.underlying t=some (.pointer e)) (A B:Option Addr) (h:A=none\/B=none) (w:World):(Op.equal t (.pointer A) (.pointer B)).run P w=.ok (decide (A=B)) w:=by
  unfold Op.equal Op.maxDepth;unfold Op.equalIn
  simp only [Sem.run_bind,run_underlying hu,Result.andThen_ok,Sem.run_pure]
  rcases h with rfl | rfl
  · cases B<;>simp [samePointer,go_sem]
  · cases A<;>simp [samePointer,go_sem]
instance Stp.eqP (e:TypeId) (ad:Addr) [hx:Ev E x (.pointer (some ad))] [hy:Ev E y (.pointer none)] [hu:Und P t (.pointer e)]:Stp P L E (.binOp .eql t x y t') (.bool false):=⟨fun S _ ho=>yl_bin S ho hx.h hy.h guard_ptr fun w _=>by
  show (do pure (Value.bool (<-Op.equal t _ _))).run P w=_
  simp only [Sem.run_bind,run_eqP t hu.h _ _ (.inr rfl),Result.andThen_ok,Sem.run_pure];simp⟩
instance Stp.neP (e:TypeId) (ad:Addr) [hx:Ev E x (.pointer (some ad))] [hy:Ev E y (.pointer none)] [hu:Und P t (.pointer e)]:Stp P L E (.binOp .neq t x y t') (.bool true):=⟨fun S _ ho=>yl_bin S ho hx.h hy.h guard_ptr fun w _=>by
  show (do pure (Value.bool (!(<-Op.equal t _ _)))).run P w=_
  simp only [Sem.run_bind,run_eqP t hu.h _ _ (.inr rfl),Result.andThen_ok,Sem.run_pure];simp⟩
instance Stp.neN (e:TypeId) [hx:Ev E x (.pointer none)] [hy:Ev E y (.pointer none)] [hu:Und P t (.pointer e)]:Stp P L E (.binOp .neq t x y t') (.bool false):=⟨fun S _ ho=>yl_bin S ho hx.h hy.h guard_ptr fun w _=>by
  show (do pure (Value.bool (!(<-Op.equal t _ _)))).run P w=_
  simp only [Sem.run_bind,run_eqP t hu.h _ _ (.inr rfl),Result.andThen_ok,Sem.run_pure];simp⟩
end

/-! ### guards -/
class Gd (ops:List Oper) (E:Env) (g:Option (Nat×Bool)) (b:outParam Bool):Prop where
  h:∀ o:Oper,o.guard=g->Wt ops.toArray E o=some b
instance Gd.none (ops:List Oper) (E:Env):Gd ops E Option.none true:=⟨fun o ho=>by unfold Wt;rw [ho]⟩
class Dst (ops:List Oper) (j:Nat) (d:outParam Nat):Prop where
  h:(ops[j]?).bind (·.dst)=some d
instance Dst.hit (d:Nat) (op:Op) (ty:TypeId) (pos:String) (af:Array Edge) (g:Option (Nat×Bool)) (ops:List Oper):Dst (⟨some d,op,ty,pos,af,g⟩::ops) 0 d:=⟨rfl⟩
instance Dst.skip (o:Oper) (ops:List Oper) (j d:Nat) [h:Dst ops j d]:Dst (o::ops) (j+1) d:=⟨by simpa using h.h⟩
theorem gd_some {ops:List Oper} {E:Env} {j d:Nat} {b want:Bool} (hd:(ops[j]?).bind (·.dst)=some d) (hl:lk E d=some (.bool b)) (o:Oper) (ho:o.guard=some (j,want)):Wt ops.toArray E o=some (b==want):=by
  unfold Wt;rw [ho]
  simp only [List.getElem?_toArray,hd,hl]
theorem gd_un {ops:List Oper} {E:Env} {j d:Nat} {want:Bool} (hd:(ops[j]?).bind (·.dst)=some d) (hl:lk E d=some undef) (o:Oper) (ho:o.guard=some (j,want)):Wt ops.toArray E o=some false:=by
  unfold Wt;rw [ho]
  simp only [List.getElem?_toArray,hd,hl,undef]
instance Gd.tt (ops:List Oper) (E:Env) (j d:Nat) [hd:Dst ops j d] [hl:Lk E d (.bool true)]:Gd ops E (some (j,true)) true:=⟨fun o ho=>gd_some hd.h hl.h o ho⟩
instance Gd.tf (ops:List Oper) (E:Env) (j d:Nat) [hd:Dst ops j d] [hl:Lk E d (.bool true)]:Gd ops E (some (j,false)) false:=⟨fun o ho=>gd_some hd.h hl.h o ho⟩
instance Gd.ft (ops:List Oper) (E:Env) (j d:Nat) [hd:Dst ops j d] [hl:Lk E d (.bool false)]:Gd ops E (some (j,true)) false:=⟨fun o ho=>gd_some hd.h hl.h o ho⟩
instance Gd.ff (ops:List Oper) (E:Env) (j d:Nat) [hd:Dst ops j d] [hl:Lk E d (.bool false)]:Gd ops E (some (j,false)) true:=⟨fun o ho=>gd_some hd.h hl.h o ho⟩
instance Gd.un (ops:List Oper) (E:Env) (j d:Nat) (want:Bool) [hd:Dst ops j d] [hl:Lk E d undef]:Gd ops E (some (j,want)) false:=⟨fun o ho=>gd_un hd.h hl.h o ho⟩

/-! ### resources by their places -/
class Drp (L:List Res) (k:Nat) (T:outParam (List Res)):Prop where
  h:dropT k L=T
instance Drp.zero (L:List Res):Drp L 0 L:=⟨rfl⟩
instance Drp.succ (R:Res) (L T:List Res) (k:Nat) [h:Drp L k T]:Drp (R::L) (k+1) T:=⟨h.h⟩
class Nth (L:List Res) (i:Nat) (R:outParam Res):Prop where
  h:L[i]? =some R/\nthR L i=R
instance Nth.hit (R:Res) (L:List Res):Nth (R::L) 0 R:=⟨rfl,rfl⟩
instance Nth.skip (R0 R:Res) (L:List Res) (i:Nat) [h:Nth L i R]:Nth (R0::L) (i+1) R:=⟨by simpa using h.h.1,h.h.2⟩
class Pk (L:List Res) (is:List Nat) (k:Nat) (L':outParam (List Res)):Prop where
  h:picksR L is (dropR L k)=L'
instance Pk.nil (L T:List Res) (k:Nat) [h:Drp L k T]:Pk L [] k T:=⟨h.h⟩
instance Pk.cons (L L':List Res) (i k:Nat) (is:List Nat) (R:Res) [h1:Nth L i R] [h2:Pk L is k L']:Pk L (i::is) k (R::L'):=⟨by
  show nthR L i::picksR L is (dropR L k)=_;rw [h1.h.2,h2.h]⟩
/-- some of the resources, in whatever order; what lies behind the first k stays -/
theorem pk (is:List Nat) (k:Nat) {w:World} {L L':List Res} (H:Sat w L) [h:Pk L is k L'] (ok:pickOk is k=true:=by rfl):Sat w L':=h.h▸H.pick is k ok
class St (L:List Res) (i:Nat) (R:Res) (L':outParam (List Res)):Prop where
  h:i < L.length/\L.set i R=L'
instance St.hit (R0 R:Res) (L:List Res):St (R0::L) 0 R (R::L):=⟨by simp,rfl⟩
instance St.skip (R0 R:Res) (L L':List Res) (i:Nat) [h:St L i R L']:St (R0::L) (i+1) R (R0::L'):=⟨by simpa using h.h.1,by simpa using h.h.2⟩
/-- the first resource that lies at a block -/
class FdR (L:List Res) (b:Nat) (R:outParam Res) (i:outParam Nat):Prop where
  h:L[i]? =some R
instance (priority:=1100) FdR.blk (b:Nat) (o:Obj) (L:List Res):FdR (blk b o::L) b (blk b o) 0:=⟨rfl⟩
instance FdR.skip (R0 R:Res) (L:List Res) (b i:Nat) [h:FdR L b R i]:FdR (R0::L) b R (i+1):=⟨by simpa using h.h⟩
/-! ### a list of cells with some put in -/
class Pu (c:List Value) (j:Nat) (vs:List Value) (c':outParam (List Value)):Prop where
  h:j+vs.length<=c.length/\putAt c.toArray j vs=c'.toArray
theorem putAt_cons (x:Value):∀ (vs c:List Value) (j:Nat),putAt (x::c).toArray (j+1) vs=(x::(putAt c.toArray j vs).toList).toArray
  | [],c,j=>by simp [putAt]
  | v::vs,c,j=>by
    unfold putAt
    have:((x::c).toArray.setIfInBounds (j+1) v)=(x::c.set j v).toArray:=by simp
    rw [this,putAt_cons x vs (c.set j v) (j+1)]
    simp
class Fit1 (c:List Value) (j:Nat):Prop where
  h:j<=c.length
instance Fit1.zero (c:List Value):Fit1 c 0:=⟨Nat.zero_le _⟩
instance Pu.nil (c:List Value) (j:Nat) [h:Fit1 c j]:Pu c j [] c:=⟨by simpa using h.h,rfl⟩
instance Pu.skip (x:Value) (c c' vs:List Value) (j:Nat) [h:Pu c j vs c']:Pu (x::c) (j+1) vs (x::c'):=⟨by have:=h.h.1;simp only [List.length_cons];omega,by rw [putAt_cons,h.h.2]⟩
theorem putAt_zero (x v:Value) (vs c:List Value):putAt (x::c).toArray 0 (v::vs)=(v::(putAt c.toArray 0 vs).toList).toArray:=by
  show putAt ((x::c).toArray.setIfInBounds 0 v) 1 vs=_
  have:((x::c).toArray.setIfInBounds 0 v)=(v::c).toArray:=by simp
  rw [this,putAt_cons]
instance Pu.hit (x v:Value) (c c' vs:List Value) [h:Pu c 0 vs c']:Pu (x::c) 0 (v::vs) (v::c'):=⟨by have:=h.h.1;simp only [List.length_cons] at *;omega,by rw [putAt_zero,h.h.2]⟩

/-! ### so many operations at once -/
theorem t0:(0:Int)<=0:=Int.le_refl 0
/-- a call that tells its value -/
class Cal (P:Program) (L:List Res) (f:FuncId) (args:List Value) (v:outParam Value) (L':outParam (List Res)) (C:outParam Prop):Prop where
  e:Enters P f
  h:C->∀ w,Sat w L->Rt P f args.toArray w fun u w'=>u=v/\Sat w' L'
/-- a store -/
class Eff (P:Program) (L:List Res) (E:Env) (op:Op) (L':outParam (List Res)):Prop where
  h:∀ {a:Act} {n:Nat} {w:World},Slots a n E->Sat w L->∀ {o:Oper},o.op=op->∃w',(execOp a.eval o).run P w=.ok .skip w'/\Sat w' L'
class OneC (vs:List Value):Prop where
  h:∀ u∈vs,u.oneCell'=true
class One1 (v:Value):Prop where
  h:v.oneCell'=true
instance (k:IntKind) (m:Int):One1 (.int k m):=⟨rfl⟩
instance (b:Bool):One1 (.bool b):=⟨rfl⟩
instance (s:ByteArray):One1 (.string s):=⟨rfl⟩
instance (A:Option Addr) (n c:Nat):One1 (.slice A n c):=⟨rfl⟩
instance (A:Option Addr):One1 (.pointer A):=⟨rfl⟩
instance:OneC []:=⟨fun u h=>by cases h⟩
instance (v:Value) (vs:List Value) [h1:One1 v] [h2:OneC vs]:OneC (v::vs):=⟨fun u h=>by rcases List.mem_cons.1 h with rfl | h;(exact h1.h);(exact h2.h u h)⟩
class Cls (v:Value) (l:outParam (List Value)):Prop where
  h:v.cells.toList=l
instance (l:List Value):Cls (.agg l.toArray) l:=⟨rfl⟩
instance (k:IntKind) (m:Int):Cls (.int k m) [.int k m]:=⟨rfl⟩
instance (b:Bool):Cls (.bool b) [.bool b]:=⟨rfl⟩
instance (s:ByteArray):Cls (.string s) [.string s]:=⟨rfl⟩
instance (A:Option Addr) (n c:Nat):Cls (.slice A n c) [.slice A n c]:=⟨rfl⟩
class Len (l:List Value) (n:Nat):Prop where
  h:l.length=n
instance:Len [] 0:=⟨rfl⟩
instance (v:Value) (l:List Value) (n:Nat) [h:Len l n]:Len (v::l) (n+1):=⟨by simp [h.h]⟩
section
variable {P:Program} {L L':List Res} {E:Env}
instance Eff.store (t b j s i:Nat) (ad x:Operand) (c c' vs:List Value) (ty:TypeId) (v:Value) [ha:Ev E ad (.pointer (some ⟨b,j,none⟩))] [hx:Ev E x v] [hv:Cls v vs] [hz:Szo P t s] [hl:Len vs s] [h1:OneC vs]
    [hf:FdR L b (blk b (.cells c.toArray ty)) i] [hp:Pu c j vs c'] [hs:St L i (blk b (.cells c'.toArray ty)) L']:Eff P L E (.store t ad x) L':=⟨fun {a n w} S H o ho=>by
  obtain ⟨w',hr,H'⟩:=run_store (P:=P) (ty:=t) (j:=j) w i H hf.h hv.h hz.h hl.h h1.h (by have:=hp.h.1;rw [hl.h] at this;simpa [Nat.ble_eq] using this) hp.h.2
  exact ⟨w',by simp only [execOp,ho,S.eval ha.h,S.eval hx.h,Sem.run_bind,hr,Result.andThen_ok,Sem.run_pure],hs.h.2▸H'⟩⟩
end
class Run (P:Program) (ops:List Oper) (n k:Nat) (l:List Oper) (E:Env) (L:List Res) (l':outParam (List Oper)) (E':outParam Env) (L':outParam (List Res)) (C:outParam Prop):Prop where
  h:C->∀ {Q:Exit->Act->World->Prop} {a:Act} {w:World},Slots a n E->Sat w L->(∀ a' w',Slots a' n E'->Sat w' L'->wpList P ops.toArray Q l' a' w')->wpList P ops.toArray Q l a w
section
variable {P:Program} {ops:List Oper} {L L1 L':List Res} {n:Nat} {E:Env}
instance Run.zero (l:List Oper):Run P ops n 0 l E L l E L ((0:Int)<=0):=⟨fun _ _ _ _ S H K=>K _ _ S H⟩
variable (k:Nat) (l l':List Oper) (E':Env) (C D:Prop) (d:Nat) (v:Value) (op:Op) (ty:TypeId) (pos:String) (af:Array Edge) (g:Option (Nat×Bool))
instance (priority:=1100) Run.pure [hg:Gd ops E g true] [hs:Stp P L E op v] [hd:LtB d n] [hr:Run P ops n k l ((d,v)::E) L l' E' L' C]:Run P ops n (k+1) (⟨some d,op,ty,pos,af,g⟩::l) E L l' E' L' C:=
  ⟨fun hc _ _ _ S H K=>r_y S H (hs.h S rfl) rfl hd.h (hg.h _ rfl) fun _ S'=>hr.h hc S' H K⟩
instance Run.cond [hg:Gd ops E g true] [hs:StpC P L E op v D] [hd:LtB d n] [hr:Run P ops n k l ((d,v)::E) L l' E' L' C]:Run P ops n (k+1) (⟨some d,op,ty,pos,af,g⟩::l) E L l' E' L' (D/\C):=
  ⟨fun hc _ _ _ S H K=>r_y S H (hs.h hc.1 S rfl) rfl hd.h (hg.h _ rfl) fun _ S'=>hr.h hc.2 S' H K⟩
instance Run.skip [hg:Gd ops E g false] [hd:LtB d n] [hr:Run P ops n k l ((d,undef)::E) L l' E' L' C]:Run P ops n (k+1) (⟨some d,op,ty,pos,af,g⟩::l) E L l' E' L' C:=
  ⟨fun hc _ _ _ S H K=>r_skip S rfl hd.h (hg.h _ rfl) fun _ S'=>hr.h hc S' H K⟩
instance Run.act [hg:Gd ops E g true] [hs:Eff P L E op L1] [hr:Run P ops n k l E L1 l' E' L' C]:Run P ops n (k+1) (⟨Option.none,op,ty,pos,af,g⟩::l) E L l' E' L' C:=
  ⟨fun hc _ _ _ S H K=>by
    obtain ⟨w',hx,H'⟩:=hs.h S H (o:=⟨Option.none,op,ty,pos,af,g⟩) rfl
    exact r_act S hx rfl (hg.h _ rfl) (hr.h hc S H' K)⟩
variable (f:FuncId) (xs:List Operand) (ts:Array TypeId) (vs:List Value)
instance Run.call [hg:Gd ops E g true] [ha:Evs E xs vs] [hs:Cal P L f vs v L1 D] [hd:LtB d n] [hr:Run P ops n k l ((d,v)::E) L1 l' E' L' C]:
    Run P ops n (k+1) (⟨some d,.call { callee:=.value (.func f),args:=xs.toArray,argTypes:=ts },ty,pos,af,g⟩::l) E L l' E' L' (D/\C):=
  ⟨fun hc _ _ w S H K=>r_call (args:=vs.toArray) S rfl (by simpa using ha.h) hs.e (hs.h hc.1 w H) rfl hd.h (hg.h _ rfl) fun u a' w' hu S'=>hr.h hc.2 (by rw [<-hu.1];exact S') hu.2 K⟩
end
/-! ### functions that the model has of its own -/
theorem run_extern {P:Program} {f:FuncId} {fn:Func} {e:Array Value->Sem Value} (hf:P.funcs[f]? =some fn) (hn:(fn.name== "runtime.NumGoroutine")=false) (hb:fn.body.isNone=true) (h1:Extern.findNext fn=none) (h2:Extern.find fn=some e) (args:Array Value) (w:World):
    (callFunc f args).run P w=(do pure (Next.value (<-e args))).run P w:=by
  unfold callFunc
  simp only [Sem.run_bind]
  have hp:Sem.run P program w=.ok P w:=rfl
  rw [hp]
  simp only [Result.andThen_ok]
  rw [hf]
  simp only [hn,hb,Bool.false_eq_true,if_false,if_true,Sem.run_bind]
  have hm:Sem.run P (mark (Mark.extern f)) w=.ok () w:=rfl
  rw [hm]
  simp only [Result.andThen_ok]
  rw [h1]
  simp only [h2,Sem.run_bind]
/-- what it is -/
class Xf (P:Program) (f:FuncId) (e:outParam (Array Value->Sem Value)):Prop where
  h:∀ (args:Array Value) (w:World),(callFunc f args).run P w=(do pure (Next.value (<-e args))).run P w
/-- what it does -/
class Xd (P:Program) (L:List Res) (e:Array Value->Sem Value) (args:List Value) (v:outParam Value) (L':outParam (List Res)):Prop where
  h:∀ w,Sat w L->∃w',(e args.toArray).run P w=.ok v w'/\Sat w' L'
section
variable {P:Program} {w:World} {b j:Nat} {m x:Int}
theorem run_add64 (h:w.cell? ⟨b,j,none⟩=some (.int .i64 m)) (hz:w.frozen? ⟨b,j,none⟩=false):
    (Extern.Atomic.update (Op.intArith .add) .i64 true #[.pointer (some ⟨b,j,none⟩),.int .i64 x]).run P w=.ok (.int .i64 (IntKind.i64.wrap (m+x))) (w.setCell ⟨b,j,none⟩ (.int .i64 (IntKind.i64.wrap (m+x)))):=by
  have e:Extern.Atomic.update (Op.intArith .add) .i64 true #[.pointer (some ⟨b,j,none⟩),.int .i64 x]=(do let a <-asAddr (.pointer (some ⟨b,j,none⟩));let old <-Extern.Atomic.read (.int .i64) a;let new <-Op.intArith .add .i64 (<-asInt old) (<-asInt (.int .i64 x));store a new .atomic;pure (if true then new else old)):=rfl
  rw [e]
  have ai:∀ (z:Int) (w:World),Sem.run P (asInt (.int .i64 z)) w=.ok z w:=fun z w=>rfl
  simp only [Sem.run_bind,ai,Result.andThen_ok]
  simp [Extern.Atomic.read,asAddr,load,store,Sem.run,h,hz,Op.intArith,ai]
theorem run_swap (h:w.cell? ⟨b,j,none⟩=some (.int .u32 m)) (hz:w.frozen? ⟨b,j,none⟩=false):
    (Extern.Atomic.swapT (.int .u32) #[.pointer (some ⟨b,j,none⟩),.int .u32 x]).run P w=.ok (.int .u32 m) (w.setCell ⟨b,j,none⟩ (.int .u32 x)):=by
  have e:Extern.Atomic.swapT (.int .u32) #[.pointer (some ⟨b,j,none⟩),.int .u32 x]=(do let a <-asAddr (.pointer (some ⟨b,j,none⟩));let old <-Extern.Atomic.read (.int .u32) a;store a (.int .u32 x) .atomic;pure old):=rfl
  rw [e]
  simp [Extern.Atomic.read,asAddr,load,store,Sem.run,h,hz]
theorem run_loadA (h:w.cell? ⟨b,j,none⟩=some (.int .u32 m)):(Extern.Atomic.loadT (.int .u32) #[.pointer (some ⟨b,j,none⟩)]).run P w=.ok (.int .u32 m) w:=by
  have e:Extern.Atomic.loadT (.int .u32) #[.pointer (some ⟨b,j,none⟩)]=(do let a <-asAddr (.pointer (some ⟨b,j,none⟩));Extern.Atomic.read (.int .u32) a):=rfl
  rw [e]
  simp [Extern.Atomic.read,asAddr,load,Sem.run,h]
theorem run_storeA (h:w.cell? ⟨b,j,none⟩=some (.int .u32 m)) (hz:w.frozen? ⟨b,j,none⟩=false):
    (Extern.Atomic.storeT #[.pointer (some ⟨b,j,none⟩),.int .u32 x]).run P w=.ok (.tuple #[]) (w.setCell ⟨b,j,none⟩ (.int .u32 x)):=by
  have e:Extern.Atomic.storeT #[.pointer (some ⟨b,j,none⟩),.int .u32 x]=(do store (<-asAddr (.pointer (some ⟨b,j,none⟩))) (.int .u32 x) .atomic;pure Extern.Atomic.none_):=rfl
  rw [e]
  simp [asAddr,store,Sem.run,h,hz,Extern.Atomic.none_]
end
theorem Sat.put1 {w:World} {L L':List Res} {b j i:Nat} {c c':List Value} {ty:TypeId} {v:Value} (H:Sat w L) (hf:L[i]? =some (blk b (.cells c.toArray ty))) (hp:j+1<=c.length/\putAt c.toArray j [v]=c'.toArray) (hs:i < L.length/\L.set i (blk b (.cells c'.toArray ty))=L'):
    w.frozen? ⟨b,j,none⟩=false/\Sat (w.setCell ⟨b,j,none⟩ v) L':=by
  have h:=H.fetch hf
  refine ⟨h.thawed j,?_⟩
  have h':=(h.setCell (i:=j) v).back hs.1
  have e:(c.toArray.setIfInBounds j v)=c'.toArray:=hp.2
  rw [e] at h'
  rw [<-hs.2];exact h'
section
variable {P:Program} {L L':List Res} (b j i:Nat) (c c':List Value) (ty:TypeId) (m x:Int)
instance Xd.add [hf:FdR L b (blk b (.cells c.toArray ty)) i] [hv:At c j (.int .i64 m)] [hp:Pu c j [.int .i64 (IntKind.i64.wrap (m+x))] c'] [hs:St L i (blk b (.cells c'.toArray ty)) L']:
    Xd P L (Extern.Atomic.update (Op.intArith .add) .i64 true) [.pointer (some ⟨b,j,none⟩),.int .i64 x] (.int .i64 (IntKind.i64.wrap (m+x))) L':=⟨fun w H=>by
  have hq:=H.put1 hf.h hp.h hs.h
  exact ⟨_,run_add64 (by have:=(H.cellOf hf.h).1 (j:=j);rw [this];simpa using hv.h) hq.1,hq.2⟩⟩
instance Xd.swap [hf:FdR L b (blk b (.cells c.toArray ty)) i] [hv:At c j (.int .u32 m)] [hp:Pu c j [.int .u32 x] c'] [hs:St L i (blk b (.cells c'.toArray ty)) L']:
    Xd P L (Extern.Atomic.swapT (.int .u32)) [.pointer (some ⟨b,j,none⟩),.int .u32 x] (.int .u32 m) L':=⟨fun w H=>by
  have hq:=H.put1 hf.h hp.h hs.h
  exact ⟨_,run_swap (by have:=(H.cellOf hf.h).1 (j:=j);rw [this];simpa using hv.h) hq.1,hq.2⟩⟩
instance Xd.store [hf:FdR L b (blk b (.cells c.toArray ty)) i] [hv:At c j (.int .u32 m)] [hp:Pu c j [.int .u32 x] c'] [hs:St L i (blk b (.cells c'.toArray ty)) L']:
    Xd P L Extern.Atomic.storeT [.pointer (some ⟨b,j,none⟩),.int .u32 x] (.tuple #[]) L':=⟨fun w H=>by
  have hq:=H.put1 hf.h hp.h hs.h
  exact ⟨_,run_storeA (by have:=(H.cellOf hf.h).1 (j:=j);rw [this];simpa using hv.h) hq.1,hq.2⟩⟩
instance Xd.load [hf:FdR L b (blk b (.cells c.toArray ty)) i] [hv:At c j (.int .u32 m)]:Xd P L (Extern.Atomic.loadT (.int .u32)) [.pointer (some ⟨b,j,none⟩)] (.int .u32 m) L:=
  ⟨fun w H=>⟨w,run_loadA (by have:=(H.cellOf hf.h).1 (j:=j);rw [this];simpa using hv.h),H⟩⟩
end
section
variable {P:Program} {ops:List Oper} {L L1 L':List Res} {n:Nat} {E:Env} (k:Nat) (l l':List Oper) (E':Env) (C:Prop) (d:Nat) (v:Value) (ty:TypeId) (pos:String) (af:Array Edge) (g:Option (Nat×Bool)) (f:FuncId) (xs:List Operand) (ts:Array TypeId) (vs:List Value) (e:Array Value->Sem Value)
instance Run.ext [hg:Gd ops E g true] [ha:Evs E xs vs] [hx:Xf P f e] [hs:Xd P L e vs v L1] [hd:LtB d n] [hr:Run P ops n k l ((d,v)::E) L1 l' E' L' C]:
    Run P ops n (k+1) (⟨some d,.call { callee:=.value (.func f),args:=xs.toArray,argTypes:=ts },ty,pos,af,g⟩::l) E L l' E' L' C:=⟨fun hc _ _ w S H K=>by
  obtain ⟨w',hw,H'⟩:=hs.h w H
  refine r_val (v:=v) (w':=w') S ?_ rfl hd.h (hg.h _ rfl) fun a' S'=>hr.h hc S' H' K
  rw [run_callF (args:=vs.toArray) S rfl (by simpa using ha.h) w,hx.h]
  simp only [Sem.run_bind,hw,Result.andThen_ok,Sem.run_pure]⟩
end
section
variable {P:Program} {ops:List Oper} {L L':List Res} {n:Nat} {E E':Env} {C:Prop} {Q:Exit->Act->World->Prop} {a:Act} {w:World}
/-- so many operations of a list -/
theorem rn (k:Nat) {l l':List Oper} (S:Slots a n E) (H:Sat w L) [hr:Run P ops n k l E L l' E' L' C] (hc:C) (K:∀ a w,Slots a n E'->Sat w L'->wpList P ops.toArray Q l' a w):wpList P ops.toArray Q l a w:=hr.h hc S H K
/-- a region, and what follows -/
theorem sr (k:Nat) {id:Nat} {y:Code} (S:Slots a n E) (H:Sat w L) [hr:Run P ops n k ops E L [] E' L' C] (hc:C) (K:∀ a w,Slots a n E'->Sat w L'->y.wp P Q a w):(Code.seq (.region id ops.toArray false) y).wp P Q a w:=
  r_seq (r_region (hr.h hc S H fun a w S H=>r_nil (x_then (K a w S H))))
/-- .. at the end of a sequence -/
theorem er (k:Nat) {id:Nat} (S:Slots a n E) (H:Sat w L) [hr:Run P ops n k ops E L [] E' L' C] (hc:C) (K:∀ a w,Slots a n E'->Sat w L'->Q .normal a w):(Code.region id ops.toArray false).wp P Q a w:=
  r_region (hr.h hc S H fun a w S H=>r_nil (K a w S H))
/-- the rest of a region -/
theorem rs (k:Nat) {y:Act->World->Prop} {l:List Oper} (S:Slots a n E) (H:Sat w L) [hr:Run P ops n k l E L [] E' L' C] (hc:C) (K:∀ a w,Slots a n E'->Sat w L'->y a w):wpList P ops.toArray (Exit.then y Q) l a w:=hr.h hc S H fun a w S H=>r_nil (x_then (K a w S H))
/-- a region begins, something follows behind it -/
theorem sb {id:Nat} {y:Code} (h:wpList P ops.toArray (Exit.then (y.wp P Q) Q) ops a w):(Code.seq (.region id ops.toArray false) y).wp P Q a w:=r_seq (r_region h)
theorem sn {y:Act->World->Prop} {ops:Array Oper} (h:y a w):wpList P ops (Exit.then y Q) [] a w:=h
end

/-! ### regions in open order that only read -/
class RunQ (P:Program) (ops:List Oper) (L:List Res) (n k:Nat) (l:List Oper) (E:Env) (l':outParam (List Oper)) (E':outParam Env) (C:outParam Prop):Prop where
  h:C->∀ {Q:Act->Prop} {a:Act},Slots a n E->(∀ a',Slots a' n E'->wpQuiet P ops.toArray (fun w=>Sat w L) Q l' a')->wpQuiet P ops.toArray (fun w=>Sat w L) Q l a
section
variable {P:Program} {ops:List Oper} {L:List Res} {n:Nat} {E:Env}
instance RunQ.zero (l:List Oper):RunQ P ops L n 0 l E l E ((0:Int)<=0):=⟨fun _ _ _ S K=>K _ S⟩
variable (k:Nat) (l l':List Oper) (E':Env) (C D:Prop) (d:Nat) (v:Value) (op:Op) (ty:TypeId) (pos:String) (af:Array Edge) (g:Option (Nat×Bool))
instance (priority:=1100) RunQ.pure [hg:Gd ops E g true] [hs:Stp P L E op v] [hd:LtB d n] [hr:RunQ P ops L n k l ((d,v)::E) l' E' C]:RunQ P ops L n (k+1) (⟨some d,op,ty,pos,af,g⟩::l) E l' E' C:=
  ⟨fun hc _ _ S K=>q_y S (hs.h S rfl) rfl hd.h (hg.h _ rfl) fun _ S'=>hr.h hc S' K⟩
instance RunQ.cond [hg:Gd ops E g true] [hs:StpC P L E op v D] [hd:LtB d n] [hr:RunQ P ops L n k l ((d,v)::E) l' E' C]:RunQ P ops L n (k+1) (⟨some d,op,ty,pos,af,g⟩::l) E l' E' (D/\C):=
  ⟨fun hc _ _ S K=>q_y S (hs.h hc.1 S rfl) rfl hd.h (hg.h _ rfl) fun _ S'=>hr.h hc.2 S' K⟩
instance RunQ.skip [hg:Gd ops E g false] [hd:LtB d n] [hr:RunQ P ops L n k l ((d,undef)::E) l' E' C]:RunQ P ops L n (k+1) (⟨some d,op,ty,pos,af,g⟩::l) E l' E' C:=
  ⟨fun hc _ _ S K=>q_skip S rfl hd.h (hg.h _ rfl) fun _ S'=>hr.h hc S' K⟩
variable (f:FuncId) (xs:List Operand) (ts:Array TypeId) (vs:List Value)
instance RunQ.call [hg:Gd ops E g true] [ha:Evs E xs vs] [hs:Cal P L f vs v L D] [hd:LtB d n] [hr:RunQ P ops L n k l ((d,v)::E) l' E' C]:
    RunQ P ops L n (k+1) (⟨some d,.call { callee:=.value (.func f),args:=xs.toArray,argTypes:=ts },ty,pos,af,g⟩::l) E l' E' (D/\C):=
  ⟨fun hc _ _ S K=>q_call (args:=vs.toArray) S rfl (by simpa using ha.h) hs.e (fun w H=>hs.h hc.1 w H) rfl hd.h (hg.h _ rfl) fun _ S'=>hr.h hc.2 S' K⟩
variable {Q:Exit->Act->World->Prop} {a:Act} {w:World}
variable {k l l' E' C D}
/-- a quiet region begins: what it comes to is told at its end -/
theorem qb {id:Nat} {y:Code} (H:Sat w L) (hm:P.follows .mixedOrders=true) (hB:Region.lexB .any ops.toArray=true) (h:wpQuiet P ops.toArray (fun w=>Sat w L) (fun a'=>Slots a' n E') ops a) (K:∀ a w,Slots a n E'->Sat w L->y.wp P Q a w):(Code.seq (.region id ops.toArray true) y).wp P Q a w:=
  r_seq (r_quiet (l:=ops) H hm hB h fun a w S H=>x_then (K a w S H))
/-- ways that meet -/
theorem via {c y:Code} (h:c.wp P (Exit.then (fun a w=>Slots a n E'/\Sat w L) (fun _ _ _=>False)) a w) (K:∀ a w,Slots a n E'->Sat w L->y.wp P Q a w):(Code.seq c y).wp P Q a w:=
  r_mid _ h fun a w hm=>K a w hm.1 hm.2
theorem viaA {c:Code} (h:c.wp P (Exit.then (fun a w=>Slots a n E'/\Sat w L) (fun _ _ _=>False)) a w) (K:∀ a w,Slots a n E'->Sat w L->Q .normal a w):c.wp P Q a w:=
  wp_via h fun a w hm=>K a w hm.1 hm.2
theorem qn (k:Nat) {Q:Act->Prop} {l l':List Oper} (S:Slots a n E) [hr:RunQ P ops L n k l E l' E' C] (hc:C) (K:∀ a,Slots a n E'->wpQuiet P ops.toArray (fun w=>Sat w L) Q l' a):wpQuiet P ops.toArray (fun w=>Sat w L) Q l a:=hr.h hc S K
theorem qr (k:Nat) {id:Nat} {y:Code} (S:Slots a n E) (H:Sat w L) [hr:RunQ P ops L n k ops E [] E' C] (hc:C) (K:∀ a w,Slots a n E'->Sat w L->y.wp P Q a w) (hm:P.follows .mixedOrders=true:=by rfl) (hB:Region.lexB .any ops.toArray=true:=by kernel_rfl):(Code.seq (.region id ops.toArray true) y).wp P Q a w:=
  r_seq (r_quiet (l:=ops) H hm hB (hr.h hc S fun a' S'=>q_nil S') fun a w S H=>x_then (K a w S H))
end

/-! ### tests of which the second is made only behind the first -/
def keyOut (E:Env) (d:Nat):Bool:=E.all fun p=> !Nat.beq p.1 d
def keysOut (E:Env) (ds:List Nat):Bool:=ds.all fun d=>keyOut E d
theorem keyOut_lk {d d':Nat} {v:Value}:∀ {E:Env},keyOut E d=true->lk E d'=some v->Nat.beq d d'=false
  | p::r,h,hl=>by
    simp only [keyOut,List.all_cons,Bool.and_eq_true,Bool.not_eq_true'] at h
    unfold lk at hl
    cases hb:Nat.beq p.1 d' with
    | true=>
      have e:=Nat.eq_of_beq_eq_true hb
      cases hd:Nat.beq d d' with
      | false=>rfl
      | true=>have e':=Nat.eq_of_beq_eq_true hd;rw [e',<-e,Nat.beq_refl] at h;exact absurd h.1 (by decide)
    | false=>rw [hb] at hl;exact keyOut_lk (E:=r) h.2 hl
  | [],_,hl=>by simp [lk] at hl
theorem lk_out {d d':Nat} {u v:Value} {E:Env} (h:keyOut E d=true) (hl:lk E d'=some v):lk ((d,u)::E) d'=some v:=by
  unfold lk;rw [keyOut_lk h hl];exact hl
theorem Slots.hide {a:Act} {n d:Nat} {u:Value} {E:Env} (S:Slots a n ((d,u)::E)) (h:keyOut E d=true):Slots a n E:=S.of fun _ _ hl=>lk_out h hl
/-- so many operations under one guard -/
class SkB (n m:Nat) (l:List Oper) (g:outParam (Option (Nat×Bool))) (l':outParam (List Oper)) (ds:outParam (List Nat)):Prop where
  h:∃bl:List Oper,l=bl++l'/\bl.length=m+1/\bl.map (·.dst)=ds.map some/\(∀ o∈bl,o.guard=g)/\∀ d∈ds,Nat.blt d n=true
instance SkB.one (n:Nat) (g:Option (Nat×Bool)) (l:List Oper) (d:Nat) (op:Op) (ty:TypeId) (pos:String) (af:Array Edge) [hd:LtB d n]:SkB n 0 (⟨some d,op,ty,pos,af,g⟩::l) g l [d]:=
  ⟨[⟨some d,op,ty,pos,af,g⟩],rfl,rfl,rfl,fun o ho=>by rw [List.mem_singleton.1 ho],fun d' hd'=>by rw [List.mem_singleton.1 hd'];exact hd.h⟩
instance SkB.succ (n:Nat) (g:Option (Nat×Bool)) (m:Nat) (l l':List Oper) (ds:List Nat) (d:Nat) (op:Op) (ty:TypeId) (pos:String) (af:Array Edge) [hd:LtB d n] [h:SkB n m l g l' ds]:SkB n (m+1) (⟨some d,op,ty,pos,af,g⟩::l) g l' (d::ds):=⟨by
  obtain ⟨bl,h1,h2,h3,h4,h5⟩:=h.h
  refine ⟨⟨some d,op,ty,pos,af,g⟩::bl,by rw [h1];rfl,by simp [h2],by simp [h3],fun o ho=>?_,fun d' hd'=>?_⟩
  · rcases List.mem_cons.1 ho with rfl | ho
    · rfl
    · exact h4 o ho
  · rcases List.mem_cons.1 hd' with rfl | hd'
    · exact hd.h
    · exact h5 d' hd'⟩
section
variable {P:Program} {ops:List Oper} {n:Nat} {E:Env} {Q:Exit->Act->World->Prop}
theorem skips {j dg:Nat} {want:Bool} (hdg:(ops[j]?).bind (·.dst)=some dg) {l':List Oper} {w:World} (hl:lk E dg=some (.bool (!want))):∀ (bl:List Oper) (ds:List Nat) (a:Act),bl.map (·.dst)=ds.map some->(∀ o∈bl,o.guard=some (j,want))->(∀ d∈ds,Nat.blt d n=true)->keysOut E ds=true->
    Slots a n E->(∀ a,Slots a n E->wpList P ops.toArray Q l' a w)->wpList P ops.toArray Q (bl++l') a w
  | [],ds,a,_,_,_,_,S,K=>K a S
  | o::bl,[],a,h,_,_,_,_,_=>by simp at h
  | o::bl,d::ds,a,h,hg,hn,hk,S,K=>by
    simp only [List.map_cons,List.cons.injEq] at h
    simp only [keysOut,List.all_cons,Bool.and_eq_true] at hk
    refine r_skip (d:=d) S h.1 (hn d List.mem_cons_self) ?_ fun a S=>skips hdg hl bl ds a h.2 (fun o ho=>hg o (List.mem_cons_of_mem _ ho)) (fun d hd=>hn d (List.mem_cons_of_mem _ hd)) hk.2 (S.hide hk.1) K
    have:=gd_some (E:=E) (b:= !want) (want:=want) hdg hl o (hg o List.mem_cons_self)
    rw [this];cases want<;>rfl
theorem skipsQ {L:List Res} {Q:Act->Prop} {j dg:Nat} {want:Bool} (hdg:(ops[j]?).bind (·.dst)=some dg) {l':List Oper} (hl:lk E dg=some (.bool (!want))):∀ (bl:List Oper) (ds:List Nat) (a:Act),bl.map (·.dst)=ds.map some->(∀ o∈bl,o.guard=some (j,want))->(∀ d∈ds,Nat.blt d n=true)->keysOut E ds=true->
    Slots a n E->(∀ a,Slots a n E->wpQuiet P ops.toArray (fun w=>Sat w L) Q l' a)->wpQuiet P ops.toArray (fun w=>Sat w L) Q (bl++l') a
  | [],ds,a,_,_,_,_,S,K=>K a S
  | o::bl,[],a,h,_,_,_,_,_=>by simp at h
  | o::bl,d::ds,a,h,hg,hn,hk,S,K=>by
    simp only [List.map_cons,List.cons.injEq] at h
    simp only [keysOut,List.all_cons,Bool.and_eq_true] at hk
    refine q_skip (d:=d) S h.1 (hn d List.mem_cons_self) ?_ fun a S=>skipsQ hdg hl bl ds a h.2 (fun o ho=>hg o (List.mem_cons_of_mem _ ho)) (fun d hd=>hn d (List.mem_cons_of_mem _ hd)) hk.2 (S.hide hk.1) K
    have:=gd_some (E:=E) (b:= !want) (want:=want) hdg hl o (hg o List.mem_cons_self)
    rw [this];cases want<;>rfl
/-- what was found under the guard is let go -/
theorem Slots.under {a:Act} {dg:Nat} {b want:Bool}:∀ {ds:List Nat} {E1:Env},Slots a n E1->E1.map (·.1)=ds.reverse++dg::E.map (·.1)->E1.drop ds.length=(dg,.bool want)::E->keysOut E ds=true->lk E dg=some (.bool b)->b=want->Slots a n E:=by
  intro ds E1 S hk hd hout hl hb
  subst hb
  refine S.of fun d v h=>?_
  have key:∀ (ds:List Nat) (E1:Env),E1.map (·.1)=ds++dg::E.map (·.1)->E1.drop ds.length=(dg,.bool b)::E->(∀ d∈ds,keyOut E d=true)->lk E1 d=some v:=by
    intro ds
    induction ds with
    | nil=>
      intro E1 _ hd _
      simp only [List.length_nil,List.drop_zero] at hd
      rw [hd]
      unfold lk
      cases hb:Nat.beq dg d with
      | false=>exact h
      | true=>have e:=Nat.eq_of_beq_eq_true hb;subst e;rw [hl] at h;exact h
    | cons x ds ih=>
      intro E1 hk hd ho
      cases E1 with
      | nil=>simp at hk
      | cons p E1=>
        simp only [List.map_cons,List.cons_append,List.cons.injEq] at hk
        simp only [List.length_cons,List.drop_succ_cons] at hd
        have hx:=ho x List.mem_cons_self
        unfold lk
        rw [hk.1,keyOut_lk hx h]
        exact ih E1 hk.2 hd fun d hd=>ho d (List.mem_cons_of_mem _ hd)
  refine key ds.reverse E1 hk (by simpa using hd) fun d hd=>?_
  have:=List.all_eq_true.1 hout d (List.mem_reverse.1 hd)
  exact this
theorem Slots.guardAt {dg:Nat} {b:Bool} {ds:List Nat} {E1:Env} (hk:E1.map (·.1)=ds.reverse++dg::E.map (·.1)) (hd:E1.drop ds.length=(dg,.bool b)::E) (hout:keysOut E ds=true) (hl:lk E dg=some (.bool b)):lk E1 dg=some (.bool b):=by
  have key:∀ (ds:List Nat) (E1:Env),E1.map (·.1)=ds++dg::E.map (·.1)->E1.drop ds.length=(dg,.bool b)::E->(∀ d∈ds,keyOut E d=true)->lk E1 dg=some (.bool b):=by
    intro ds
    induction ds with
    | nil=>
      intro E1 _ hd _
      simp only [List.length_nil,List.drop_zero] at hd
      rw [hd]
      unfold lk
      rw [Nat.beq_refl]
    | cons x ds ih=>
      intro E1 hk hd ho
      cases E1 with
      | nil=>simp at hk
      | cons p E1=>
        simp only [List.map_cons,List.cons_append,List.cons.injEq] at hk
        simp only [List.length_cons,List.drop_succ_cons] at hd
        unfold lk
        rw [hk.1,keyOut_lk (ho x List.mem_cons_self) hl]
        exact ih E1 hk.2 hd fun d hd=>ho d (List.mem_cons_of_mem _ hd)
  refine key ds.reverse E1 hk (by simpa using hd) fun d hd=>?_
  exact List.all_eq_true.1 hout d (List.mem_reverse.1 hd)
variable {a:Act} {w:World} {L:List Res} {C:Prop} {b b2:Bool} {j dg dp:Nat} {l l':List Oper} {ds:List Nat} {E1:Env} {y:Operand} {ty:TypeId} {pos:String} {af:Array Edge}
theorem scA (m:Nat) (S:Slots a n E) (H:Sat w L) [hs:SkB n m l (some (j,true)) (⟨some dp,.pick (.tmp dg) y (.const (.bool false)),ty,pos,af,none⟩::l') ds] [hdg:Dst ops j dg] [hl:Lk E dg (.bool b)]
    [hr:Run P ops n (m+1) l ((dg,.bool true)::E) L (⟨some dp,.pick (.tmp dg) y (.const (.bool false)),ty,pos,af,none⟩::l') E1 L C] [hy:Ev E1 y (.bool b2)] [hp:LtB dp n] (hc:b=true->C)
    (K:∀ a w,Slots a n ((dp,.bool (b&&b2))::E)->Sat w L->wpList P ops.toArray Q l' a w)
    (ho:keysOut E ds=true:=by rfl) (hk:E1.map (·.1)=ds.reverse++dg::E.map (·.1):=by rfl) (hd:E1.drop ds.length=(dg,.bool true)::E:=by rfl):wpList P ops.toArray Q l a w:=by
  have hl':=hl.h
  cases b with
  | true=>
    have S1:Slots a n ((dg,.bool true)::E):=S.retell dg hl' rfl
    refine hr.h (hc rfl) S1 H fun a w S1 H=>?_
    have SE:Slots a n E:=S1.under hk hd ho hl' rfl
    have hyv:=S1.eval hy.h
    refine wpList_wanted (o:=⟨some dp,.pick (.tmp dg) y (.const (.bool false)),ty,pos,af,none⟩) (by simp [Region.wanted]) ?_
    have hx:(execOp a.eval ⟨some dp,.pick (.tmp dg) y (.const (.bool false)),ty,pos,af,none⟩).run P w=.ok (.value (.bool b2)) w:=by
      have e:=S1.eval (x:=.tmp dg) (v:=.bool true) (by show lk E1 dg=_;exact (Slots.guardAt hk hd ho hl'))
      simp only [execOp,e,hyv];rfl
    unfold Oper.wp
    rw [hx]
    simp only [Oper.upon]
    exact K _ _ (by simpa using SE.put hp.h (.bool b2)) H
  | false=>
    obtain ⟨bl,h1,h2,h3,h4,h5⟩:=hs.h
    rw [h1]
    refine skips (want:=true) hdg.h hl' bl ds a h3 h4 h5 ho S fun a S=>?_
    exact r_y S H (y_pickF S rfl hl' rfl) rfl hp.h (by simp [Wt]) fun a S=>K a w S H
theorem scO (m:Nat) (S:Slots a n E) (H:Sat w L) [hs:SkB n m l (some (j,false)) (⟨some dp,.pick (.tmp dg) (.const (.bool true)) y,ty,pos,af,none⟩::l') ds] [hdg:Dst ops j dg] [hl:Lk E dg (.bool b)]
    [hr:Run P ops n (m+1) l ((dg,.bool false)::E) L (⟨some dp,.pick (.tmp dg) (.const (.bool true)) y,ty,pos,af,none⟩::l') E1 L C] [hy:Ev E1 y (.bool b2)] [hp:LtB dp n] (hc:b=false->C)
    (K:∀ a w,Slots a n ((dp,.bool (b||b2))::E)->Sat w L->wpList P ops.toArray Q l' a w)
    (ho:keysOut E ds=true:=by rfl) (hk:E1.map (·.1)=ds.reverse++dg::E.map (·.1):=by rfl) (hd:E1.drop ds.length=(dg,.bool false)::E:=by rfl):wpList P ops.toArray Q l a w:=by
  have hl':=hl.h
  cases b with
  | false=>
    have S1:Slots a n ((dg,.bool false)::E):=S.retell dg hl' rfl
    refine hr.h (hc rfl) S1 H fun a w S1 H=>?_
    have SE:Slots a n E:=S1.under hk hd ho hl' rfl
    have hyv:=S1.eval hy.h
    refine wpList_wanted (o:=⟨some dp,.pick (.tmp dg) (.const (.bool true)) y,ty,pos,af,none⟩) (by simp [Region.wanted]) ?_
    have hx:(execOp a.eval ⟨some dp,.pick (.tmp dg) (.const (.bool true)) y,ty,pos,af,none⟩).run P w=.ok (.value (.bool b2)) w:=by
      have e:=S1.eval (x:=.tmp dg) (v:=.bool false) (by show lk E1 dg=_;exact (Slots.guardAt hk hd ho hl'))
      simp only [execOp,e,hyv];rfl
    unfold Oper.wp
    rw [hx]
    simp only [Oper.upon]
    exact K _ _ (by simpa using SE.put hp.h (.bool b2)) H
  | true=>
    obtain ⟨bl,h1,h2,h3,h4,h5⟩:=hs.h
    rw [h1]
    refine skips (want:=false) hdg.h hl' bl ds a h3 h4 h5 ho S fun a S=>?_
    exact r_y S H (y_pickT S rfl hl' rfl) rfl hp.h (by simp [Wt]) fun a S=>K a w S H
theorem qO (m:Nat) {Q:Act->Prop} (S:Slots a n E) [hs:SkB n m l (some (j,false)) (⟨some dp,.pick (.tmp dg) (.const (.bool true)) y,ty,pos,af,none⟩::l') ds] [hdg:Dst ops j dg] [hl:Lk E dg (.bool b)]
    [hr:RunQ P ops L n (m+1) l ((dg,.bool false)::E) (⟨some dp,.pick (.tmp dg) (.const (.bool true)) y,ty,pos,af,none⟩::l') E1 C] [hy:Ev E1 y (.bool b2)] [hp:LtB dp n] (hc:b=false->C)
    (K:∀ a,Slots a n ((dp,.bool (b||b2))::E)->wpQuiet P ops.toArray (fun w=>Sat w L) Q l' a)
    (ho:keysOut E ds=true:=by rfl) (hk:E1.map (·.1)=ds.reverse++dg::E.map (·.1):=by rfl) (hd:E1.drop ds.length=(dg,.bool false)::E:=by rfl):wpQuiet P ops.toArray (fun w=>Sat w L) Q l a:=by
  have hl':=hl.h
  cases b with
  | false=>
    have S1:Slots a n ((dg,.bool false)::E):=S.retell dg hl' rfl
    refine hr.h (hc rfl) S1 fun a S1=>?_
    have SE:Slots a n E:=S1.under hk hd ho hl' rfl
    have hyv:=S1.eval hy.h
    have e:=S1.eval (x:=.tmp dg) (v:=.bool false) (by show lk E1 dg=_;exact (Slots.guardAt hk hd ho hl'))
    unfold wpQuiet
    rw [if_pos (by simp [Region.wanted])]
    refine ⟨.bool b2,fun w _=>?_,K _ (by simpa using SE.put hp.h (.bool b2))⟩
    unfold Oper.quietAt
    have hx:(execOp a.eval ⟨some dp,.pick (.tmp dg) (.const (.bool true)) y,ty,pos,af,none⟩).run P w=.ok (.value (.bool b2)) w:=by
      simp only [execOp,e,hyv];rfl
    rw [hx]
    exact ⟨rfl,rfl⟩
  | true=>
    obtain ⟨bl,h1,h2,h3,h4,h5⟩:=hs.h
    rw [h1]
    refine skipsQ (want:=false) hdg.h hl' bl ds a h3 h4 h5 ho S fun a S=>?_
    exact q_y S (y_pickT S rfl hl' rfl) rfl hp.h (by simp [Wt]) fun a S=>K a S
end

/-! ### regions in open order that act -/
section
variable {P:Program} {ops:List Oper} {n:Nat} {E:Env} {Q:Exit->Act->World->Prop} {a:Act} {w:World} {L LS:List Res} {ls:List Bool} {fuel:Nat}
theorem ha (is:List Nat) (k:Nat) {id:Nat} (H:Sat w L) [hp:Pk L is k LS] (h:∀ w,Sat w L->Sat w LS->wpAnyH P .any ops.toArray Q (fun w=>Sat w LS) ops.length (List.replicate ops.length false).toArray a w)
    (ok:pickOk is k=true:=by rfl) (hm:P.follows .mixedOrders=true:=by rfl):(Code.region id ops.toArray true).wp P Q a w:=
  h_start (l:=ops) LS H hm (by simp) fun w H=>h w H (pk is k H ok)
theorem ha0 {id:Nat} (H:Sat w L) (h:∀ w,Sat w L->Sat w []->wpAnyH P .any ops.toArray Q (fun w=>Sat w []) ops.length (List.replicate ops.length false).toArray a w) (hm:P.follows .mixedOrders=true:=by rfl):(Code.region id ops.toArray true).wp P Q a w:=
  h_start (l:=ops) [] H hm (by simp) fun w H=>h w H (Sat.nil w)
theorem tk (i:Nat) {d:Nat} {v:Value} {op:Op} {ty:TypeId} {pos:String} {af:Array Edge} {g:Option (Nat×Bool)} (S:Slots a n E) (HS:Sat w LS) [ho:At ops i ⟨some d,op,ty,pos,af,g⟩] [hg:Gd ops E g true] [hy:Stp P LS E op v] [hd:LtB d n]
    (K:∀ a,Slots a n ((d,v)::E)->wpAnyH P .any ops.toArray Q (fun w=>Sat w LS) fuel (ls.set i true).toArray a w)
    (hs:Region.noSelect ops.toArray=true:=by kernel_rfl) (hf:Region.free .any ops.toArray ls.toArray i=true:=by kernel_rfl) (hr:(Region.ready .any ops.toArray ls.toArray).contains i=true:=by kernel_rfl)
    (hQ:∀ c a w,Q (.panic c) (a.put (some d) v) w->Q (.panic c) a w:=by exact fun _ _ _ h=>h):wpAnyH P .any ops.toArray Q (fun w=>Sat w LS) (fuel+1) ls.toArray a w:=
  h_y i S HS (by simpa using ho.h) (hy.h S rfl) rfl hd.h (hg.h _ rfl) hs hf hr rfl hQ K
theorem tkC (i:Nat) {d:Nat} {v:Value} {op:Op} {ty:TypeId} {pos:String} {af:Array Edge} {g:Option (Nat×Bool)} {C:Prop} (S:Slots a n E) (HS:Sat w LS) [ho:At ops i ⟨some d,op,ty,pos,af,g⟩] [hg:Gd ops E g true] [hy:StpC P LS E op v C] [hd:LtB d n] (hc:C)
    (K:∀ a,Slots a n ((d,v)::E)->wpAnyH P .any ops.toArray Q (fun w=>Sat w LS) fuel (ls.set i true).toArray a w)
    (hs:Region.noSelect ops.toArray=true:=by kernel_rfl) (hf:Region.free .any ops.toArray ls.toArray i=true:=by kernel_rfl) (hr:(Region.ready .any ops.toArray ls.toArray).contains i=true:=by kernel_rfl)
    (hQ:∀ c a w,Q (.panic c) (a.put (some d) v) w->Q (.panic c) a w:=by exact fun _ _ _ h=>h):wpAnyH P .any ops.toArray Q (fun w=>Sat w LS) (fuel+1) ls.toArray a w:=
  h_y i S HS (by simpa using ho.h) (hy.h hc S rfl) rfl hd.h (hg.h _ rfl) hs hf hr rfl hQ K
theorem tkS (i:Nat) {d:Nat} {op:Op} {ty:TypeId} {pos:String} {af:Array Edge} {g:Option (Nat×Bool)} (S:Slots a n E) (HS:Sat w LS) [ho:At ops i ⟨some d,op,ty,pos,af,g⟩] [hg:Gd ops E g false] [hd:LtB d n]
    (K:∀ a,Slots a n ((d,undef)::E)->wpAnyH P .any ops.toArray Q (fun w=>Sat w LS) fuel (ls.set i true).toArray a w)
    (hs:Region.noSelect ops.toArray=true:=by kernel_rfl) (hf:Region.free .any ops.toArray ls.toArray i=true:=by kernel_rfl) (hr:(Region.ready .any ops.toArray ls.toArray).contains i=true:=by kernel_rfl)
    (hQ:∀ c a w,Q (.panic c) (a.put (some d) undef) w->Q (.panic c) a w:=by exact fun _ _ _ h=>h):wpAnyH P .any ops.toArray Q (fun w=>Sat w LS) (fuel+1) ls.toArray a w:=
  h_skip i S HS (by simpa using ho.h) rfl hd.h (hg.h _ rfl) hs hf hr rfl hQ K
theorem tkY (i:Nat) {d:Nat} {v:Value} {o:Oper} (S:Slots a n E) (HS:Sat w LS) (ho:ops.toArray[i]? =some o) (hy:Yl P LS o a v) (hd:o.dst=some d) (hn:Nat.blt d n=true) (hw:Wt ops.toArray E o=some true)
    (K:∀ a,Slots a n ((d,v)::E)->wpAnyH P .any ops.toArray Q (fun w=>Sat w LS) fuel (ls.set i true).toArray a w)
    (hs:Region.noSelect ops.toArray=true:=by kernel_rfl) (hf:Region.free .any ops.toArray ls.toArray i=true:=by kernel_rfl) (hr:(Region.ready .any ops.toArray ls.toArray).contains i=true:=by kernel_rfl)
    (hQ:∀ c a w,Q (.panic c) (a.put (some d) v) w->Q (.panic c) a w:=by exact fun _ _ _ h=>h):wpAnyH P .any ops.toArray Q (fun w=>Sat w LS) (fuel+1) ls.toArray a w:=
  h_y i S HS ho hy hd hn hw hs hf hr rfl hQ K
theorem hk {X:Prop} (HS:Sat w LS) (K:Sat w LS->X):Sat w LS/\X:=⟨HS,K HS⟩
theorem hz (h:Q .normal a w) (hr:Region.ready .any ops.toArray ls.toArray=[]:=by kernel_rfl):wpAnyH P .any ops.toArray Q (fun w=>Sat w LS) fuel ls.toArray a w:=h_done hr h
/-- one that acts, where no other may come -/
theorem h1 (i:Nat) {o:Oper} [ho:At ops i o] (h:wpList P ops.toArray (Exit.then (fun a' w'=>Sat w' LS/\wpAnyH P .any ops.toArray Q (fun w=>Sat w LS) fuel (ls.set i true).toArray a' w') Q) [o] a w)
    (hr:Region.ready .any ops.toArray ls.toArray=[i]:=by kernel_rfl):wpAnyH P .any ops.toArray Q (fun w=>Sat w LS) (fuel+1) ls.toArray a w:=
  h_all hr ⟨h_op rfl (by simpa using ho.h) h,trivial⟩
theorem h2 (i j:Nat) {o p:Oper} [ho:At ops i o] [hp:At ops j p] (h:wpList P ops.toArray (Exit.then (fun a' w'=>Sat w' LS/\wpAnyH P .any ops.toArray Q (fun w=>Sat w LS) fuel (ls.set i true).toArray a' w') Q) [o] a w)
    (h':wpList P ops.toArray (Exit.then (fun a' w'=>Sat w' LS/\wpAnyH P .any ops.toArray Q (fun w=>Sat w LS) fuel (ls.set j true).toArray a' w') Q) [p] a w)
    (hr:Region.ready .any ops.toArray ls.toArray=[i,j]:=by kernel_rfl):wpAnyH P .any ops.toArray Q (fun w=>Sat w LS) (fuel+1) ls.toArray a w:=
  h_all hr ⟨h_op rfl (by simpa using ho.h) h,h_op rfl (by simpa using hp.h) h',trivial⟩
theorem h3 (i j k:Nat) {o p q:Oper} [ho:At ops i o] [hp:At ops j p] [hq:At ops k q] (h:wpList P ops.toArray (Exit.then (fun a' w'=>Sat w' LS/\wpAnyH P .any ops.toArray Q (fun w=>Sat w LS) fuel (ls.set i true).toArray a' w') Q) [o] a w)
    (h':wpList P ops.toArray (Exit.then (fun a' w'=>Sat w' LS/\wpAnyH P .any ops.toArray Q (fun w=>Sat w LS) fuel (ls.set j true).toArray a' w') Q) [p] a w)
    (h'':wpList P ops.toArray (Exit.then (fun a' w'=>Sat w' LS/\wpAnyH P .any ops.toArray Q (fun w=>Sat w LS) fuel (ls.set k true).toArray a' w') Q) [q] a w)
    (hr:Region.ready .any ops.toArray ls.toArray=[i,j,k]:=by kernel_rfl):wpAnyH P .any ops.toArray Q (fun w=>Sat w LS) (fuel+1) ls.toArray a w:=
  h_all hr ⟨h_op rfl (by simpa using ho.h) h,h_op rfl (by simpa using hp.h) h',h_op rfl (by simpa using hq.h) h'',trivial⟩
theorem h4 (i j k m:Nat) {o p q r:Oper} [ho:At ops i o] [hp:At ops j p] [hq:At ops k q] [hr':At ops m r] (h:wpList P ops.toArray (Exit.then (fun a' w'=>Sat w' LS/\wpAnyH P .any ops.toArray Q (fun w=>Sat w LS) fuel (ls.set i true).toArray a' w') Q) [o] a w)
    (h':wpList P ops.toArray (Exit.then (fun a' w'=>Sat w' LS/\wpAnyH P .any ops.toArray Q (fun w=>Sat w LS) fuel (ls.set j true).toArray a' w') Q) [p] a w)
    (h'':wpList P ops.toArray (Exit.then (fun a' w'=>Sat w' LS/\wpAnyH P .any ops.toArray Q (fun w=>Sat w LS) fuel (ls.set k true).toArray a' w') Q) [q] a w)
    (h3:wpList P ops.toArray (Exit.then (fun a' w'=>Sat w' LS/\wpAnyH P .any ops.toArray Q (fun w=>Sat w LS) fuel (ls.set m true).toArray a' w') Q) [r] a w)
    (hr:Region.ready .any ops.toArray ls.toArray=[i,j,k,m]:=by kernel_rfl):wpAnyH P .any ops.toArray Q (fun w=>Sat w LS) (fuel+1) ls.toArray a w:=
  h_all hr ⟨h_op rfl (by simpa using ho.h) h,h_op rfl (by simpa using hp.h) h',h_op rfl (by simpa using hq.h) h'',h_op rfl (by simpa using hr'.h) h3,trivial⟩
/-- what several orders come to, once -/
theorem hmemo (ls':List Bool) (fuel':Nat) (J:Act->World->Prop) (K:∀ a w,J a w->wpAnyH P .any ops.toArray Q (fun w=>Sat w LS) fuel' ls'.toArray a w)
    (h:(∀ a w,J a w->wpAnyH P .any ops.toArray Q (fun w=>Sat w LS) fuel' ls'.toArray a w)->wpAnyH P .any ops.toArray Q (fun w=>Sat w LS) fuel ls.toArray a w):wpAnyH P .any ops.toArray Q (fun w=>Sat w LS) fuel ls.toArray a w:=h K
end
/-! ### entering -/
section
variable {P:Program} {f:FuncId} {fn:Func} {c:Code} {n:Nat} {w:World} {R:Value->World->Prop}
theorem en0 (hf:P.funcs[f]? =some fn) (hb:fn.body=some c) (hn:fn.ntmps=n) (ha:Nat.ble 0 n=true) (K:∀ a,Slots a n [(n,undef)]->c.wp P (bodyPost P fn fun e w'=>∃v,e=.returned v/\R v w') a w):Rt P f #[] w R:=rt_enter hf hb hn ha K
theorem en1 {v0:Value} (hf:P.funcs[f]? =some fn) (hb:fn.body=some c) (hn:fn.ntmps=n) (ha:Nat.ble 1 n=true) (K:∀ a,Slots a n [(0,v0),(n,undef)]->c.wp P (bodyPost P fn fun e w'=>∃v,e=.returned v/\R v w') a w):Rt P f #[v0] w R:=rt_enter hf hb hn ha K
theorem en2 {v0 v1:Value} (hf:P.funcs[f]? =some fn) (hb:fn.body=some c) (hn:fn.ntmps=n) (ha:Nat.ble 2 n=true) (K:∀ a,Slots a n [(0,v0),(1,v1),(n,undef)]->c.wp P (bodyPost P fn fun e w'=>∃v,e=.returned v/\R v w') a w):Rt P f #[v0,v1] w R:=rt_enter hf hb hn ha K
theorem en3 {v0 v1 v2:Value} (hf:P.funcs[f]? =some fn) (hb:fn.body=some c) (hn:fn.ntmps=n) (ha:Nat.ble 3 n=true) (K:∀ a,Slots a n [(0,v0),(1,v1),(2,v2),(n,undef)]->c.wp P (bodyPost P fn fun e w'=>∃v,e=.returned v/\R v w') a w):Rt P f #[v0,v1,v2] w R:=rt_enter hf hb hn ha K
theorem en4 {v0 v1 v2 v3:Value} (hf:P.funcs[f]? =some fn) (hb:fn.body=some c) (hn:fn.ntmps=n) (ha:Nat.ble 4 n=true) (K:∀ a,Slots a n [(0,v0),(1,v1),(2,v2),(3,v3),(n,undef)]->c.wp P (bodyPost P fn fun e w'=>∃v,e=.returned v/\R v w') a w):Rt P f #[v0,v1,v2,v3] w R:=rt_enter hf hb hn ha K
theorem en5 {v0 v1 v2 v3 v4:Value} (hf:P.funcs[f]? =some fn) (hb:fn.body=some c) (hn:fn.ntmps=n) (ha:Nat.ble 5 n=true) (K:∀ a,Slots a n [(0,v0),(1,v1),(2,v2),(3,v3),(4,v4),(n,undef)]->c.wp P (bodyPost P fn fun e w'=>∃v,e=.returned v/\R v w') a w):Rt P f #[v0,v1,v2,v3,v4] w R:=rt_enter hf hb hn ha K
theorem en7 {v0 v1 v2 v3 v4 v5 v6:Value} (hf:P.funcs[f]? =some fn) (hb:fn.body=some c) (hn:fn.ntmps=n) (ha:Nat.ble 7 n=true) (K:∀ a,Slots a n [(0,v0),(1,v1),(2,v2),(3,v3),(4,v4),(5,v5),(6,v6),(n,undef)]->c.wp P (bodyPost P fn fun e w'=>∃v,e=.returned v/\R v w') a w):Rt P f #[v0,v1,v2,v3,v4,v5,v6] w R:=rt_enter hf hb hn ha K
end
end Go.Cg
end
