/- Laws of the model, walks of functions of the program, and what they rest on. No condition. -/
import Derived.Test.YtoffbmhmocfmnaaGreatDoorKVaf
import Derived.WalkKit
import Derived.ProofKit
import Derived.OpenShut
import Derived.ShutString
import Derived.ChangeOld
import Derived.Below
import Derived.SizedLaws
import Derived.Carry
import Derived.Deep.Slices
import Derived.Lib.SmallJoins
namespace Go.Cg
set_option linter.unusedVariables false
set_option linter.unusedSimpArgs false
open Go.ChangeShapes Go.WideShapes Go.ChangeAt Go.RowKit Go.Lib Go.WideElems Go.Deep Go.Joins Go.Maps

theorem wf_u32 {n:Int} (h:(Lit.int .u32 n).wf=true):∃m:Nat,n=m/\m < 4294967296:=by
  simp [Lit.wf,IntKind.min,IntKind.max,IntKind.bits,IntKind.signed] at h
  exact ⟨n.toNat,by omega,by omega⟩
theorem wf_i64 {n:Int} (h:(Lit.int .i64 n).wf=true): -9223372036854775808<=n/\n<=9223372036854775807:=by
  simp [Lit.wf,IntKind.min,IntKind.max,IntKind.bits,IntKind.signed] at h
  exact ⟨by omega,by omega⟩
section
variable {H:Type} {enc:TypeId×Value->H} {P:Program} {W:World} {base:Nat} {spare:Nat->Bool} {held:Bool}

theorem choose_list {α:Type} {p:Nat->α->Prop}:∀ n:Nat,(∀ i,i < n->∃x,p i x)->∃l:List α,l.length=n/\∀ i x,l[i]? =some x->p i x
  | 0,_=>⟨[],rfl,fun i x h=>by simp at h⟩
  | n+1,h=>by
    obtain ⟨l,hl,hp⟩:=choose_list n fun i hi=>h i (by omega)
    obtain ⟨x,hx⟩:=h n (by omega)
    refine ⟨l++[x],by simp [hl],fun i y hy=>?_⟩
    rw [List.getElem?_append] at hy
    split at hy
    · exact hp i y hy
    · have hi:i - l.length=0:=by
        have:=(List.getElem?_eq_some_iff.1 hy).1
        simp at this;omega
      rw [hi] at hy
      simp only [List.getElem?_cons_zero,Option.some.injEq] at hy
      subst hy
      rw [show i=n from by omega];exact hx

/-- elements of one cell: what they are is told by 'R' -/
theorem open_row1 {t e:TypeId} {fuel:Nat} {v:Value} {x:DataW H×List MemPlace} {α:Type} {R:α->Value->Prop} {mk:α->Value} (hmk:∀ a v,R a v->v=mk a) (ht:P.underlying t=some (.slice e)) (hc:P.cellsOf e=1)
    (he:∀ n v y,DataW.trod enc P W base spare held n e [v]=some y->∃a,R a v) (h:DataW.trod enc P W base spare held fuel t [v]=some x):
    ∃(A:Option Addr) (c:Nat) (l:List α),v=.slice A l.length c/\SlOk [old W] 1 A l.length c (l.map mk)/\∀ a∈l,∃u,R a u:=by
  rcases open_slice1 ht hc h with ⟨hcs,_⟩ | ⟨a,len,cap,m,n,V,D,Pl,hcs,_,hl,hm,hmm,_,hx⟩
  · simp only [List.cons.injEq,and_true] at hcs
    subst hcs
    exact ⟨none,0,[],rfl,⟨fun _=>rfl,Nat.le_refl _,Nat.zero_le _,rfl,Rd.nil _ _⟩,fun a h=>by cases h⟩
  · simp only [List.cons.injEq,and_true] at hcs
    subst hcs
    have hlm:len<=m:=by rw [hmm];split<;>omega
    obtain ⟨l,hll,hlp⟩:=choose_list (p:=fun i a=>R a (V i)) len fun i hi=>he n (V i) _ (hx i (by omega)).2
    refine ⟨some a,cap,l,by rw [hll],⟨fun h=>(by cases h),by omega,hm,by simp,?_⟩,fun u hu=>?_⟩
    · intro w Hs j v hj
      rw [List.getElem?_map] at hj
      cases hlj:l[j]? with
      | none=>simp [hlj] at hj
      | some u=>
        simp only [hlj,Option.map_some,Option.some.injEq] at hj
        have hjl:j < len:=by rw [<-hll];exact (List.getElem?_eq_some_iff.1 hlj).1
        have hcell:=(hx j (by omega)).1
        have hv:=hmk _ _ (hlp j u hlj)
        obtain ⟨F,_,hown⟩:=Hs.head
        have hblk:a.block < W.heap.size:=by
          have h0:=(hx j (by omega)).1
          have:(a.add j).block=a.block:=by unfold Addr.add;split<;>rfl
          unfold World.cell? at h0
          rw [this] at h0
          cases hb:W.heap[a.block]? with
          | none=>simp [hb] at h0
          | some _=>exact (Array.getElem?_eq_some_iff.1 hb).1
        have hsp:a.spot=none:=by
          have h0:=(hx 0 (by omega)).1
          have:a.add 0=a:=rfl
          rw [this] at h0
          unfold World.cell? at h0
          cases hs:a.spot with
          | none=>rfl
          | some _=>rw [hs] at h0;revert h0;cases W.heap[a.block]? with
            | none=>simp
            | some o=>cases o<;>simp
        refine ⟨a.block,a.off,by cases a;simp_all,?_⟩
        have e1:a.add j=⟨a.block,a.off+j,none⟩:=by
          cases a with | mk b o s=>simp at hsp;subst hsp;exact add_lit b o j
        rw [e1] at hcell
        have e2:w.cell? ⟨a.block,a.off+j,none⟩=W.cell? ⟨a.block,a.off+j,none⟩:=World.cell?_of_block (hown.2.2 a.block hblk)
        rw [e2,hcell,hv,hj]
    · obtain ⟨i,hi⟩:=List.getElem?_of_mem hu
      exact ⟨_,hlp i u hi⟩

theorem open_bools {t e:TypeId} {fuel:Nat} {v:Value} {x:DataW H×List MemPlace} (ht:P.underlying t=some (.slice e)) (he:P.underlying e=some .bool) (hc:P.cellsOf e=1) (h:DataW.trod enc P W base spare held fuel t [v]=some x):
    ∃(A:Option Addr) (c:Nat) (l:List Bool),v=.slice A l.length c/\SlOk [old W] 1 A l.length c (bools l):=by
  obtain ⟨A,c,l,h1,h2,h3⟩:=open_row1 (R:=fun (a:Bool) v=>v=.bool a) (mk:=Value.bool) (fun a v h=>h) ht hc (fun n v y hy=>by
    obtain ⟨z,hz,_⟩:=DataW.trod_bool he hy
    simp only [List.cons.injEq,and_true] at hz
    exact ⟨z,hz⟩) h
  exact ⟨A,c,l,h1,h2⟩
theorem old_cell {w:World} {a:Addr} {v:Value} (Hs:Sat w [old W]) (h:W.cell? a=some v):a.spot=none/\w.cell? a=some v:=by
  obtain ⟨F,_,hown⟩:=Hs.head
  have hblk:a.block < W.heap.size:=by
    unfold World.cell? at h
    cases hb:W.heap[a.block]? with
    | none=>simp [hb] at h
    | some _=>exact (Array.getElem?_eq_some_iff.1 hb).1
  refine ⟨?_,?_⟩
  · unfold World.cell? at h
    cases hs:a.spot with
    | none=>rfl
    | some _=>rw [hs] at h;revert h;cases W.heap[a.block]? with
      | none=>simp
      | some o=>cases o<;>simp
  · rw [World.cell?_of_block (hown.2.2 a.block hblk)];exact h

theorem open_edges {t e:TypeId} {f0 f1 f2:Field} {fuel:Nat} {v:Value} {x:DataW H×List MemPlace} (ht:P.underlying t=some (.slice e)) (he:P.underlying e=some (.struct #[f0,f1,f2])) (hone:oneCellFields P #[f0,f1,f2]=true) (hc:P.cellsOf e=3)
    (hu0:P.underlying f0.type=some (.int .u32)) (hu1:P.underlying f1.type=some (.int .u32)) (hu2:P.underlying f2.type=some (.int .u32)) (h:DataW.trod enc P W base spare held fuel t [v]=some x):
    ∃(A:Option Addr) (c:Nat) (l:List Tr.E),v=.slice A l.length c/\SlOk [old W] 3 A l.length c (ecells l)/\∀ z∈l,z.f < 4294967296/\z.t < 4294967296/\z.w < 4294967296:=by
  rcases open_slice ht h with ⟨hcs,_⟩ | ⟨a,len,cap,m,n,D,Pl,hcs,_,hl,hm,hmm,_,hx⟩
  · simp only [List.cons.injEq,and_true] at hcs
    subst hcs
    exact ⟨none,0,[],rfl,⟨fun _=>rfl,Nat.le_refl _,Nat.zero_le _,rfl,Rd.nil _ _⟩,fun a h=>by cases h⟩
  · simp only [List.cons.injEq,and_true] at hcs
    subst hcs
    have hlm:len<=m:=by rw [hmm];split<;>omega
    rw [hc] at hx
    obtain ⟨l,hll,hlp⟩:=choose_list (p:=fun i (z:Tr.E)=>(∀ k v,(ecell z)[k]? =some v->W.cell? ((a.add (i*3)).add k)=some v)/\z.f < 4294967296/\z.t < 4294967296/\z.w < 4294967296) len fun i hi=>by
      obtain ⟨cs',hcs,htr⟩:=hx i (by omega)
      obtain ⟨_,hlen,hcells⟩:=World.cells?_some hcs
      obtain ⟨y0,y1,y2,n',_,_,h0,h1,h2⟩:=trod_struct3 he htr
      obtain ⟨o0,k0⟩:=hone_of hone 0 f0 rfl
      obtain ⟨o1,k1⟩:=hone_of hone 1 f1 rfl
      obtain ⟨o2,k2⟩:=hone_of hone 2 f2 rfl
      match cs',hlen with
      | [c0,c1,c2],_=>
        rw [o0,k0] at h0;rw [o1,k1] at h1;rw [o2,k2] at h2
        obtain ⟨z0,e0',_,w0⟩:=DataW.trod_int hu0 h0
        obtain ⟨z1,e1',_,w1⟩:=DataW.trod_int hu1 h1
        obtain ⟨z2,e2',_,w2⟩:=DataW.trod_int hu2 h2
        obtain ⟨m0,rfl,b0⟩:=wf_u32 w0
        obtain ⟨m1,rfl,b1⟩:=wf_u32 w1
        obtain ⟨m2,rfl,b2⟩:=wf_u32 w2
        simp at e0' e1' e2'
        subst e0' e1' e2'
        refine ⟨⟨m0,m1,m2⟩,fun k v hk=>?_,b0,b1,b2⟩
        have hk3:k < 3:=(List.getElem?_eq_some_iff.1 hk).1
        rw [hcells k (by omega)]
        exact hk
    refine ⟨some a,cap,l,by rw [hll],⟨fun h=>(by cases h),by omega,hm,by simp,?_⟩,fun z hz=>?_⟩
    · intro w Hs j v hj
      have hjl:j < l.length*3:=by have:=(List.getElem?_eq_some_iff.1 hj).1;simpa using this
      have hi:j / 3 < l.length:=by omega
      have hji:j / 3*3+j%3=j:=by omega
      have hz:l[j / 3]? =some (l.getD (j / 3) e0):=by rw [List.getD_eq_getElem?_getD,List.getElem?_eq_getElem hi];rfl
      have hlt:j%3 < (ecell (l.getD (j / 3) e0)).length:=by simp only [ecell,List.length_cons,List.length_nil];omega
      have hv:(ecell (l.getD (j / 3) e0))[j%3]? =some v:=by
        have:=ecells_from hi (j%3) _ (List.getElem?_eq_getElem hlt)
        rw [hji,hj] at this
        rw [List.getElem?_eq_getElem hlt];exact this.symm
      have hcell:=(hlp _ _ hz).1 (j%3) v hv
      have hadd:(a.add (j / 3*3)).add (j%3)=a.add j:=by
        have key:∀ p q,(a.add p).add q=a.add (p+q):=by
          intro p q
          unfold Addr.add
          by_cases hp:p=0
          · subst hp;simp
          · by_cases hq:q=0
            · subst hq;simp [hp]
            · have:¬ p+q=0:=by omega
              simp [hp,hq,Nat.add_assoc]
        rw [key,hji]
      rw [hadd] at hcell
      have h0:=(hlp 0 _ (show l[0]? =some (l.getD 0 e0) by rw [List.getD_eq_getElem?_getD,List.getElem?_eq_getElem (by omega)];rfl)).1 0 _ rfl
      have hsp:a.spot=none:=(old_cell Hs h0).1
      obtain ⟨b,o,sp⟩:=a
      simp at hsp;subst hsp
      refine ⟨b,o,rfl,?_⟩
      have:=(old_cell Hs hcell).2
      rwa [add_lit] at this
    · obtain ⟨i,hi⟩:=List.getElem?_of_mem hz
      exact (hlp i z hi).2
end
end Go.Cg
