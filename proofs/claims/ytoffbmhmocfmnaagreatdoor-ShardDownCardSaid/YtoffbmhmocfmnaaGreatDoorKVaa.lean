/- Laws of the model, walks of functions of the program, and what they rest on. No condition. -/
import Derived.WalkKit
import Derived.Laws.OwnMore
import Derived.Laws.MakeOwn
import Derived.Below
section
namespace Go.Cg
set_option linter.unusedVariables false
set_option linter.unusedSimpArgs false
open Go.RowKit

/-- only memory has grown or turned -/
structure Hp (w w':World):Prop where
  os:w'.os=w.os
  tape:w'.tape=w.tape
  output:w'.output=w.output
  size:w.heap.size<=w'.heap.size

theorem Hp.refl (w:World):Hp w w:=⟨rfl,rfl,rfl,Nat.le_refl _⟩
theorem Hp.trans {a b c:World} (h:Hp a b) (k:Hp b c):Hp a c:=⟨k.os.trans h.os,k.tape.trans h.tape,k.output.trans h.output,Nat.le_trans h.size k.size⟩

structure Res where
  own:World->(Nat->Prop)->Prop
  stable:∀ {w w':World} {F:Nat->Prop},Hp w w'->(∀ k,F k->w'.heap[k]? =w.heap[k]?)->own w F->own w' F
  /-- what the walk may read off it -/
  says:World->Prop:=fun _=>True
  tells:∀ {w:World} {F:Nat->Prop},own w F->says w:=by intros;trivial

def SatIn (w:World):(Nat->Prop)->List Res->Prop
  | _,[]=>True
  | A,P::L=>∃F,(∀ k,F k->A k)/\P.own w F/\SatIn w (fun k=>A k/\¬ F k) L

theorem SatIn.mono {w:World}:∀ {L:List Res} {A B:Nat->Prop},(∀ k,A k->B k)->SatIn w A L->SatIn w B L
  | [],_,_,_,_=>trivial
  | _::_,_,_,h,⟨F,h1,h2,h3⟩=>⟨F,fun k hk=>h k (h1 k hk),h2,SatIn.mono (fun k hk=>⟨h k hk.1,hk.2⟩) h3⟩

theorem SatIn.swap {w:World} {A:Nat->Prop} {P Q:Res} {L:List Res} (h:SatIn w A (P::Q::L)):SatIn w A (Q::P::L):=by
  obtain ⟨F,h1,h2,G,g1,g2,g3⟩:=h
  exact ⟨G,fun k hk=>(g1 k hk).1,g2,F,fun k hk=>⟨h1 k hk,fun hg=>(g1 k hg).2 hk⟩,h2,SatIn.mono (fun k hk=>⟨⟨hk.1.1,hk.2⟩,hk.1.2⟩) g3⟩

theorem SatIn.perm {w:World} {L L':List Res} (h:L.Perm L'):∀ {A:Nat->Prop},SatIn w A L->SatIn w A L':=by
  induction h with
  | nil=>exact fun h=>h
  | cons x _ ih=>exact fun ⟨F,h1,h2,h3⟩=>⟨F,h1,h2,ih h3⟩
  | swap x y l=>exact SatIn.swap
  | trans _ _ ih1 ih2=>exact fun h=>ih2 (ih1 h)

theorem SatIn.keep {w w':World} (hh:Hp w w'):∀ {L:List Res} {A:Nat->Prop},(∀ k,A k->w'.heap[k]? =w.heap[k]?)->SatIn w A L->SatIn w' A L
  | [],_,_,_=>trivial
  | P::_,_,h,⟨F,h1,h2,h3⟩=>⟨F,h1,P.stable hh (fun k hk=>h k (h1 k hk)) h2,SatIn.keep hh (fun k hk=>h k hk.1) h3⟩

def Sat (w:World) (L:List Res):Prop:=SatIn w (fun k=>k < w.heap.size) L

theorem Sat.perm {w:World} {L L':List Res} (H:Sat w L) (h:L.Perm L'):Sat w L':=SatIn.perm h H

theorem Sat.grow {w w':World} {L:List Res} (H:Sat w L) (hh:Hp w w') (h:∀ k,k < w.heap.size->w'.heap[k]? =w.heap[k]?):Sat w' L:=
  SatIn.mono (fun _ hk=>Nat.lt_of_lt_of_le hk hh.size) (SatIn.keep hh h H)

/-- one resource turns; the others stay -/
theorem Sat.turn {w w':World} {P P':Res} {L:List Res} (H:Sat w (P::L)) (hh:Hp w w')
    (h:∀ F,(∀ k,F k->k < w.heap.size)->P.own w F->∃F',(∀ k,F' k->k < w'.heap.size/\(F k\/w.heap.size<=k))/\P'.own w' F'/\∀ k,k < w.heap.size->¬ F k->w'.heap[k]? =w.heap[k]?):Sat w' (P'::L):=by
  obtain ⟨F,h1,h2,h3⟩:=H
  obtain ⟨F',g1,g2,g3⟩:=h F h1 h2
  exact ⟨F',fun k hk=>(g1 k hk).1,g2,SatIn.mono (fun k hk=>⟨Nat.lt_of_lt_of_le hk.1 hh.size,fun hf=>((g1 k hf).2.elim hk.2 fun hge=>absurd hk.1 (Nat.not_lt.2 hge))⟩)
    (SatIn.keep hh (fun k hk=>g3 k hk.1 hk.2) h3)⟩

/-- a new resource in new blocks -/
theorem Sat.add {w w':World} {P:Res} {L:List Res} (H:Sat w L) (hh:Hp w w') (h:∀ k,k < w.heap.size->w'.heap[k]? =w.heap[k]?)
    (F:Nat->Prop) (hF:∀ k,F k->w.heap.size<=k/\k < w'.heap.size) (hP:P.own w' F):Sat w' (P::L):=
  ⟨F,fun k hk=>(hF k hk).2,hP,SatIn.mono (fun _ hk=>⟨Nat.lt_of_lt_of_le hk hh.size,fun hf=>absurd hk (Nat.not_lt.2 (hF _ hf).1)⟩) (SatIn.keep hh h H)⟩

theorem Sat.drop {w:World} {P:Res} {L:List Res} (H:Sat w (P::L)):Sat w L:=by
  obtain ⟨F,_,_,h⟩:=H
  exact SatIn.mono (fun _ hk=>hk.1) h

theorem Sat.head {w:World} {P:Res} {L:List Res} (H:Sat w (P::L)):∃F,(∀ k,F k->k < w.heap.size)/\P.own w F:=by
  obtain ⟨F,h1,h2,_⟩:=H
  exact ⟨F,h1,h2⟩

theorem Sat.nil (w:World):Sat w []:=trivial

/-- a resource may be told in other words -/
theorem Sat.weaken {w:World} {P P':Res} {L:List Res} (H:Sat w (P::L)) (h:∀ F,P.own w F->P'.own w F):Sat w (P'::L):=by
  obtain ⟨F,h1,h2,h3⟩:=H
  exact ⟨F,h1,h F h2,h3⟩

/-! ### the resources -/
def emp:Res:={ own:=fun _ F=>∀ k,¬ F k,stable:=fun _ _ h=>h }

/-- what is read off a block's object -/
def objSays (w:World) (b:Nat):Obj->Prop
  | .cells c _ fr=>(∀ j,w.cell? ⟨b,j,none⟩=c[j]?)/\(fr=(0,0)->∀ j,w.frozen? ⟨b,j,none⟩=false)
  | o=>w.heap[b]? =some o

/-- a block -/
def blk (b:Nat) (o:Obj):Res where
  own w F:=w.heap[b]? =some o/\∀ k,F k↔k=b
  stable _ h h':=⟨(h _ ((h'.2 _).2 rfl)).trans h'.1,h'.2⟩
  says w:=objSays w b o
  tells {w F} h:=by
    have hb:=h.1
    unfold objSays
    split
    · exact ⟨fun j=>by simp [World.cell?,hb],fun e j=>by subst e;simp [World.frozen?,hb]⟩
    · exact hb

/-- a row that is owned: a slice's value, how many elements, their cells -/
def row (e:TypeId) (size:Nat) (v:Value) (n:Nat) (xs:List Value):Res:=
  { own:=fun w F=>w.ownsRow 0 e size v n xs/\∀ k,F k↔v.ownBlock=some k
    stable:=fun {w w' F} hh h h'=>⟨by
      refine ⟨h'.1.1,?_⟩
      rcases h'.1.2 with hn | ⟨g,cap,cur,hv,h0,hg,r⟩
      · exact .inl hn
      · exact .inr ⟨g,cap,cur,hv,h0,(h g ((h'.2 g).2 (by rw [hv];rfl))).trans hg,r⟩,h'.2⟩ }

/-- what was there when the call began -/
def old (W:World):Res:=
  { own:=fun w F=>Hp W w/\(∀ k,F k↔k < W.heap.size)/\∀ k,k < W.heap.size->w.heap[k]? =W.heap[k]?
    stable:=fun hh h h'=>⟨h'.1.trans hh,h'.2.1,fun k hk=>(h k ((h'.2.1 k).2 hk)).trans (h'.2.2 k hk)⟩
    says:=fun w=>(∀ b j,b < W.heap.size->w.cell? ⟨b,j,none⟩=W.cell? ⟨b,j,none⟩)/\∀ b j,b < W.heap.size->w.frozen? ⟨b,j,none⟩=W.frozen? ⟨b,j,none⟩
    tells:=fun h=>⟨fun b _ hb=>World.cell?_of_block (h.2.2 b hb),fun b _ hb=>World.frozen?_of_block (h.2.2 b hb)⟩ }

theorem Sat.start (W:World):Sat W [old W]:=⟨fun k=>k < W.heap.size,fun _ h=>h,⟨Hp.refl _,fun _=>Iff.rfl,fun _ _=>rfl⟩,trivial⟩

theorem Sat.below {W w:World} {L:List Res} (H:Sat w (old W::L)):Below W.heap.size W w:=by
  obtain ⟨_,_,h,_,g⟩:=H.head
  exact ⟨h.os,h.tape,h.output,h.size,g⟩

/-! ### fetching one out of the list -/
theorem perm_front:∀ (L:List Res) (i:Nat),i < L.length->L.Perm (L.getD i emp::L.eraseIdx i)
  | _::_,0,_=>List.Perm.refl _
  | x::L,i+1,h=>((perm_front L i (by simpa using h)).cons x).trans (List.Perm.swap _ _ _)

theorem lt_of_at {L:List Res} {i:Nat} {P:Res} (h:L[i]? =some P):i < L.length:=(List.getElem?_eq_some_iff.1 h).1
theorem Sat.fetch {w:World} {L:List Res} (H:Sat w L) {i:Nat} {P:Res} (h:L[i]? =some P):Sat w (P::L.eraseIdx i):=by
  have hp:=perm_front L i (lt_of_at h)
  rw [show L.getD i emp=P from by simp [h]] at hp
  exact H.perm hp
theorem perm_back:∀ (L:List Res) (i:Nat) (P:Res),i < L.length->(P::L.eraseIdx i).Perm (L.set i P)
  | _::_,0,_,_=>List.Perm.refl _
  | x::L,i+1,P,h=>(List.Perm.swap x P (L.eraseIdx i)).trans ((perm_back L i P (by simpa using h)).cons x)

/-- the first goes to place i -/
theorem Sat.back {w:World} {L:List Res} {i:Nat} {P:Res} (H:Sat w (P::L.eraseIdx i)) (h:i < L.length):Sat w (L.set i P):=H.perm (perm_back L i P h)

/-- all that may be read off -/
def Says (w:World) (L:List Res):Prop:=∀ P∈L,P.says w
theorem SatIn.says {w:World}:∀ {L:List Res} {A:Nat->Prop},SatIn w A L->Says w L
  | [],_,_=>by intro P h;cases h
  | P::L,_,⟨F,_,h2,h3⟩=>by
    intro Q h
    rcases List.mem_cons.1 h with rfl | h
    · exact Q.tells h2
    · exact SatIn.says h3 Q h
theorem Sat.says {w:World} {L:List Res} (H:Sat w L):Says w L:=SatIn.says H
/-! ### worlds -/
theorem Hp.alloc (w:World) (o:Obj):Hp w (w.alloc o):=⟨rfl,rfl,rfl,by simp⟩
theorem Hp.drew (w:World):Hp w w.drew:=⟨rfl,rfl,rfl,Nat.le_refl _⟩
theorem Hp.setCell (w:World) (a:Addr) (v:Value):Hp w (w.setCell a v):=⟨rfl,rfl,rfl,by simp [World.setCell]⟩
theorem Hp.grown {w w':World} {r:Option Nat} (h:w.grownBy w' r):Hp w w':=⟨h.os,h.tape,h.output,h.size⟩

theorem Sat.alloc {w:World} {L:List Res} (H:Sat w L) (o:Obj):Sat (w.alloc o) (blk w.heap.size o::L):=
  H.add (Hp.alloc w o) (fun k hk=>Below.heap_alloc w o k hk) (fun k=>k=w.heap.size) (fun k hk=>by subst hk;simp) ⟨heap_alloc_new w o,fun _=>Iff.rfl⟩

theorem Sat.drew {w:World} {L:List Res} (H:Sat w L):Sat w.drew L:=H.grow (Hp.drew w) fun _ _=>rfl

theorem Sat.blk_lt {w:World} {b:Nat} {o:Obj} {L:List Res} (H:Sat w (blk b o::L)):w.heap[b]? =some o:=by
  obtain ⟨_,_,h,_⟩:=H.head
  exact h

theorem Sat.setBlk {w w':World} {b:Nat} {o o':Obj} {L:List Res} (H:Sat w (blk b o::L)) (hh:Hp w w') (hb:w'.heap[b]? =some o') (h:∀ k,k≠b->k < w.heap.size->w'.heap[k]? =w.heap[k]?):
    Sat w' (blk b o'::L):=
  H.turn hh fun F hF hP=>⟨F,fun k hk=>⟨Nat.lt_of_lt_of_le (hF k hk) hh.size,.inl hk⟩,⟨hb,hP.2⟩,fun k hk hf=>h k (fun e=>hf ((hP.2 k).2 e)) hk⟩

/-- a store into a block of one's own -/
theorem Sat.setCell {w:World} {b i:Nat} {c:Array Value} {t:TypeId} {fr:Nat×Nat} {L:List Res} (H:Sat w (blk b (.cells c t fr)::L)) (v:Value):
    Sat (w.setCell ⟨b,i,none⟩ v) (blk b (.cells (c.setIfInBounds i v) t fr)::L):=by
  have hb:=H.blk_lt
  refine H.setBlk (Hp.setCell _ _ _) ?_ fun k hk _=>Below.heap_setCell _ _ _ _ hk
  simp only [World.setCell,Array.getElem?_modify]
  simp [hb]

theorem Sat.cellAt {w:World} {b:Nat} {c:Array Value} {t:TypeId} {fr:Nat×Nat} {L:List Res} (H:Sat w (blk b (.cells c t fr)::L)) (i:Nat):w.cell? ⟨b,i,none⟩=c[i]? :=by
  have hb:=H.blk_lt
  simp [World.cell?,hb]

theorem Sat.thawed {w:World} {b:Nat} {c:Array Value} {t:TypeId} {L:List Res} (H:Sat w (blk b (.cells c t)::L)) (i:Nat):w.frozen? ⟨b,i,none⟩=false:=by
  have hb:=H.blk_lt
  simp [World.frozen?,hb]

/-! ### what the walk leaves is taken in -/
/-- what a block of the list has -/
theorem Sat.cellOf {w:World} {L:List Res} {i b:Nat} {c:Array Value} {t:TypeId} (H:Sat w L) (hL:L[i]? =some (blk b (.cells c t))):(∀ j,w.cell? ⟨b,j,none⟩=c[j]?)/\∀ j,w.frozen? ⟨b,j,none⟩=false:=
  ⟨(H.fetch hL).cellAt,(H.fetch hL).thawed⟩

end Go.Cg
end
section
namespace Go.Cg
set_option linter.unusedVariables false
set_option linter.unusedSimpArgs false
open Go.RowKit
section
variable {P:Program} {ops:Array Oper} {Q:Exit->Act->World->Prop} {a:Act} {w:World} {rest:List Oper} {o:Oper} {L:List Res}

theorem run_box (elem:TypeId) (v:Value):(Instr.box elem v).run P w=.ok (.pointer (some ⟨w.heap.size,0,none⟩)) (w.alloc (.cells v.cells elem)):=by simp [go_sem]

/-- cells put in, from place j on -/
def putAt (c:Array Value) (j:Nat):List Value->Array Value
  | []=>c
  | v::vs=>putAt (c.setIfInBounds j v) (j+1) vs

theorem sat_storeCells {b:Nat} {t:TypeId} {L:List Res} (j:Nat):∀ (vs:List Value) (c:Array Value) (i:Nat) (w:World),Sat w (blk b (.cells c t)::L)->j+i+vs.length<=c.size->(∀ u∈vs,u.oneCell'=true)->
    ∃w',(storeCells ⟨b,j,none⟩ vs i).run P w=.ok () w'/\Sat w' (blk b (.cells (putAt c (j+i) vs) t)::L)
  | [],c,i,w,H,_,_=>⟨w,by simp [storeCells],H⟩
  | v::vs,c,i,w,H,h,h1=>by
    have hl:j+i < c.size:=by simp only [List.length_cons] at h;omega
    have hc:w.cell? ⟨b,j+i,none⟩=some c[j+i]:=by rw [H.cellAt];simp [hl]
    have hf:=H.thawed (j+i)
    have hadd:(⟨b,j,none⟩:Addr).add i=⟨b,j+i,none⟩:=by unfold Addr.add;split<;>simp_all
    have hv:v.oneCell'=true:=h1 v (by simp)
    obtain ⟨w',hr,H'⟩:=sat_storeCells j vs (c.setIfInBounds (j+i) v) (i+1) _ (H.setCell (i:=j+i) v) (by simp only [List.length_cons] at h;simp;omega) (fun u hu=>h1 u (by simp [hu]))
    refine ⟨w',?_,by rw [putAt,Nat.add_assoc];exact H'⟩
    rw [storeCells,hadd]
    simp only [Sem.run_bind]
    have hst:(store ⟨b,j+i,none⟩ v).run P w=.ok () (w.setCell ⟨b,j+i,none⟩ v):=by
      cases v<;>first | (simp [store,Sem.run,hc,hf];done) | (simp [Value.oneCell'] at hv)
    rw [hst]
    exact hr

/-- a slice type, its element type, the element's cells, bytes and zero -/
structure Elem (P:Program) (t e:TypeId) (size bytes:Nat) (z:Value):Prop where
  sl:P.underlying t=some (.slice e)
  info:(P.info? e).map (fun i=>(i.zero,i.size,i.bytes))=some (some z,size,bytes)
  zs:z.cells.size=size
  pos:0 < size

theorem Elem.parts {t e:TypeId} {size bytes:Nat} {z:Value} (E:Elem P t e size bytes z):∃i,P.info? e=some i/\i.zero=some z/\i.size=size/\i.bytes=bytes:=by
  have h:=E.info
  cases hi:P.info? e with
  | none=>simp [hi] at h
  | some i=>simp only [hi,Option.map_some,Option.some.injEq,Prod.mk.injEq] at h;exact ⟨i,rfl,h.1,h.2.1,h.2.2⟩

/-- what a slice that is read has: its cells, wherever they lie, as long as the resources stand -/
def Rd (L:List Res) (A:Option Addr) (xs:List Value):Prop:=∀ w,Sat w L->∀ j v,xs[j]? =some v->∃b o,A=some ⟨b,o,none⟩/\w.cell? ⟨b,o+j,none⟩=some v

theorem Rd.more {L:List Res} {A:Option Addr} {xs:List Value} (h:Rd L A xs) (P:Res):Rd (P::L) A xs:=fun w H=>h w H.drop
theorem Rd.perm {L L':List Res} {A:Option Addr} {xs:List Value} (h:Rd L A xs) (p:L'.Perm L):Rd L' A xs:=fun w H=>h w (H.perm p)
theorem Rd.nil (L:List Res) (A:Option Addr):Rd L A []:=fun _ _ _ _ h=>by cases h

theorem add_lit (b o j:Nat):(⟨b,o,none⟩:Addr).add j=⟨b,o+j,none⟩:=by unfold Addr.add;split<;>simp_all

theorem rd_adds {w:World} {A:Option Addr} {xs:List Value} (h:∀ j v,xs[j]? =some v->∃b o,A=some ⟨b,o,none⟩/\w.cell? ⟨b,o+j,none⟩=some v) {ad:Addr} (hA:A=some ad):
    ∀ j u,xs[j]? =some u->w.cell? (ad.add j)=some u:=fun j u hu=>by
  obtain ⟨b,o,e,hc⟩:=h j u hu
  rw [hA] at e;cases e
  rw [add_lit];exact hc

theorem ownsRow_base {w:World} {base:Nat} {e:TypeId} {size:Nat} {v:Value} {n:Nat} {xs:List Value} (h:w.ownsRow base e size v n xs):w.ownsRow 0 e size v n xs:=
  ⟨h.1,h.2.imp id fun ⟨g,cap,cur,hv,_,r⟩=>⟨g,cap,cur,hv,Nat.zero_le _,r⟩⟩

/-- a row in a block that was just made -/
theorem Sat.newRow {w w':World} {L:List Res} (H:Sat w L) {e:TypeId} {size:Nat} {v:Value} {n:Nat} {xs:List Value} (h:w'.ownsRow w.heap.size e size v n xs) (hg:w.grownBy w' none):Sat w' (row e size v n xs::L):=
  H.add (Hp.grown hg) (fun k hk=>hg.block k hk (by simp)) (fun k=>v.ownBlock=some k) (fun k hk=>h.lt k hk) ⟨ownsRow_base h,fun _=>Iff.rfl⟩

theorem Sat.turnRow {w w':World} {L:List Res} {e:TypeId} {size:Nat} {v v':Value} {n n':Nat} {xs xs':List Value} (H:Sat w (row e size v n xs::L)) (h:w'.ownsRow 0 e size v' n' xs') (hg:w.grownBy w' v.ownBlock)
    (hb:v'.ownBlock=v.ownBlock\/∀ k,v'.ownBlock=some k->w.heap.size<=k):Sat w' (row e size v' n' xs'::L):=
  H.turn (Hp.grown hg) fun F hF hP=>⟨fun k=>v'.ownBlock=some k,fun k hk=>⟨(h.lt k hk).2,hb.elim (fun e=>.inl ((hP.2 k).2 (e▸hk))) fun e=>.inr (e k hk)⟩,⟨h,fun _=>Iff.rfl⟩,
    fun k hk hf=>hg.block k hk fun e=>hf ((hP.2 k).2 e.symm)⟩

/-- .. of an append: the row is the old one, or a new one -/
theorem run_append_own' (w:World) (t ty e:TypeId) (size bytes:Nat) (z:Value) (E:Elem P t e size bytes z) (v:Value) (n:Nat) (xs:List Value) (hown:w.ownsRow 0 e size v n xs)
    (a:Option Addr) (m c:Nat) (news:List Value) (hl:news.length=m*size) (hnews:∀ j u,news[j]? =some u->∃b o,a=some ⟨b,o,none⟩/\w.cell? ⟨b,o+j,none⟩=some u) (h1:∀ u∈news,u.oneCell'=true)
    (ha:a=none->c=0) (h63:n+m<=maxLen) (hbytes:(n+m)*bytes<=140737488355328):
    ∃v' w',(Builtin.append_ #[t,t] ty #[v,.slice a m c]).run P w=.ok v' w'/\w'.ownsRow 0 e size v' (n+m) (xs++news)/\w.grownBy w' v.ownBlock/\(v'.ownBlock=v.ownBlock\/∀ k,v'.ownBlock=some k->w.heap.size<=k)/\
      (v'=.slice none 0 0↔v=.slice none 0 0/\m=0):=by
  obtain ⟨i,hi,hz,hs,hby⟩:=E.parts
  cases a with
  | none=>
    have hm:m=0:=by
      cases news with
      | nil => have := E.pos; rcases Nat.eq_zero_or_pos m with h | h
               · exact h
               · have:=Nat.mul_pos h E.pos;simp at hl;omega
      | cons x r=>obtain ⟨_,_,h,_⟩:=hnews 0 x rfl;cases h
    subst hm
    have hn:news=[]:=List.eq_nil_of_length_eq_zero (by simpa using hl)
    subst hn
    rw [ha rfl]
    refine ⟨v,w,run_append_owned_none w 0 t ty e i size E.sl hi v n xs hown,by simpa using hown,⟨rfl,rfl,rfl,Nat.le_refl _,fun _ _ _=>rfl⟩,.inl rfl,by simp⟩
  | some ad=>
    have hcells:=rd_adds hnews rfl
    rcases hown.2 with ⟨rfl,rfl⟩ | ⟨g,cap,cur,rfl,hbg,hg,hnc,hcm,hcs,htake⟩
    · obtain ⟨v',w',hr,ho,hgr,hnil⟩:=run_append_own w w.heap.size t ty e i z size bytes E.sl hi hz hs hby E.zs E.pos _ 0 xs ⟨hown.1,.inl ⟨rfl,rfl⟩⟩ ad m c news hl hcells h1 h63 hbytes (Nat.le_refl _)
      exact ⟨v',w',hr,ownsRow_base ho,hgr,.inr fun k hk=>(ho.lt k hk).1,hnil⟩
    · by_cases hroom:n+m<=cap
      · subst hs
        have hfit:n*i.size+news.length<=cur.size:=by rw [hl,hcs,<-Nat.add_mul];exact Nat.mul_le_mul_right _ hroom
        have hr:=run_append_room (P:=P) w t ty e i E.sl hi g n cap cur hg ad m c news hl hcells h1 hroom hfit
        have hlen:(xs++news).length=(n+m)*i.size:=by rw [List.length_append,hown.1,hl,Nat.add_mul]
        refine ⟨_,_,hr,⟨hlen,.inr ⟨g,cap,_,rfl,Nat.zero_le _,setRow_heap w g cur _ e _ hg,hroom,hcm,?_,?_⟩⟩,⟨rfl,rfl,rfl,by simp,fun k _ hk=>setRow_other w g k _ (fun e=>hk (by simp [Value.ownBlock,e]))⟩,.inl rfl,by simp⟩
        · simp only [List.size_toArray,List.length_append,List.length_take,List.length_drop,Array.length_toList]
          omega
        · rw [htake,<-hlen]
          exact List.take_left
      · subst hs;subst hby
        have holds:∀ j u,xs[j]? =some u->w.cell? ((⟨g,0,none⟩:Addr).add j)=some u:=hown.cells (g:=g) rfl
        have hsmall:n+m<=9223372036854775807:=by simp only [maxLen] at h63;omega
        have hr:=run_append_grow (P:=P) w t ty e i z E.sl hi hz ⟨g,0,none⟩ n cap xs hown.1 holds ad m c news hl hcells (by omega) (by omega) (growslice_fits (by omega) hbytes)
        have hge:=grownCap_ge w (n+m) cap e
        have hcm':grownCap w (n+m) cap e<=maxLen:=grownCap_le_maxLen w (n+m) cap e h63
        have hlen:(xs++news).length=(n+m)*i.size:=by rw [List.length_append,hown.1,hl,Nat.add_mul]
        refine ⟨_,_,hr,⟨hlen,.inr ⟨w.heap.size,_,_,rfl,Nat.zero_le _,heap_alloc_new w.drew _,hge,hcm',?_,?_⟩⟩,⟨rfl,rfl,rfl,by simp,fun k hk _=>Below.heap_alloc w.drew _ k hk⟩,.inr fun k hk=>?_,by simp⟩
        · simp only [Array.size_append,List.size_toArray,size_zeroCells,E.zs,hown.1,hl,<-Nat.add_mul]
          congr 1
          omega
        · simp only [Array.toList_append,List.append_assoc]
          rw [<-List.append_assoc,<-hlen]
          exact List.take_left
        · simp only [Value.ownBlock,Option.some.injEq] at hk;omega

/-- a slice's value that may be read: its elements' cells -/
def RdV (L:List Res) (size:Nat) (v:Value) (n:Nat) (xs:List Value):Prop:=∃A c,v=.slice A n c/\(A=none->c=0)/\n<=c/\c<=maxLen/\xs.length=n*size/\Rd L A xs
theorem RdV.more {L:List Res} {size n:Nat} {v:Value} {xs:List Value} (h:RdV L size v n xs) (P:Res):RdV (P::L) size v n xs:=by
  obtain ⟨A,c,h1,h2,h3,h4,h5,h6⟩:=h
  exact ⟨A,c,h1,h2,h3,h4,h5,h6.more P⟩

end
end Go.Cg
end
