/- Laws of the model, walks of functions of the program, and what they rest on. No condition. -/
import Derived.Test.YtoffbmhmocfmnaaGreatDoorKVaf
import Derived.Test.YtoffbmhmocfmnaaGreatDoorKVai
import Derived.Test.YtoffbmhmocfmnaaGreatDoorKVah
import Derived.Lib.ItoaNum
import Derived.Test.YtoffbmhmocfmnaaGreatDoorKVac
section
namespace Go.Cg
set_option linter.unusedVariables false
set_option linter.unusedSimpArgs false
open Go.RowKit

/-! ### resources made of resources -/
section
variable {w:World}
theorem SatIn.app:∀ (M:List Res) {L:List Res} {A F:Nat->Prop},(∀ k,F k->A k)->SatIn w F M->SatIn w (fun k=>A k/\¬ F k) L->SatIn w A (M++L)
  | [],_,_,_,_,_,h=>SatIn.mono (fun _ hk=>hk.1) h
  | P::M,L,A,F,hF,⟨G,h1,h2,h3⟩,h=>by
    refine ⟨G,fun k hk=>hF k (h1 k hk),h2,SatIn.app M (F:=fun k=>F k/\¬ G k) (fun k hk=>⟨hF k hk.1,hk.2⟩) h3 ?_⟩
    refine SatIn.mono (fun k hk=>?_) h
    exact ⟨⟨hk.1,fun hg=>hk.2 (h1 k hg)⟩,fun hk'=>hk.2 hk'.1⟩
theorem SatIn.split:∀ (M:List Res) {L:List Res} {A:Nat->Prop},SatIn w A (M++L)->∃F,(∀ k,F k->A k)/\SatIn w F M/\SatIn w (fun k=>A k/\¬ F k) L
  | [],_,_,h=>⟨fun _=>False,fun _ h=>h.elim,trivial,SatIn.mono (fun _ hk=>⟨hk,id⟩) h⟩
  | P::M,L,A,⟨G,h1,h2,h3⟩=>by
    obtain ⟨F,g1,g2,g3⟩:=SatIn.split M h3
    refine ⟨fun k=>G k\/F k,fun k hk=>hk.elim (h1 k) fun hf=>(g1 k hf).1,⟨G,fun k hk=>.inl hk,h2,SatIn.mono (fun k hk=>⟨.inr hk,(g1 k hk).2⟩) g2⟩,SatIn.mono (fun k hk=>?_) g3⟩
    exact ⟨hk.1.1,fun hgf=>hgf.elim hk.1.2 hk.2⟩
def star (M:List Res):Res where
  own w F:=SatIn w F M
  stable hh h h':=SatIn.keep hh h h'
def ex {ι:Type} (R:ι->Res):Res where
  own w F:=∃i,(R i).own w F
  stable hh h h':=h'.elim fun i hi=>⟨i,(R i).stable hh h hi⟩
def fact (p:Prop):Res where
  own _ F:=p/\∀ k,¬ F k
  stable _ _ h':=h'
variable {L:List Res}
theorem sat_star {M:List Res}:Sat w (star M::L)↔Sat w (M++L):=
  ⟨fun ⟨_,h1,h2,h3⟩=>SatIn.app M h1 h2 h3,fun h=>by
    obtain ⟨F,h1,h2,h3⟩:=SatIn.split M h
    exact ⟨F,h1,h2,h3⟩⟩
theorem sat_ex {ι:Type} {R:ι->Res}:Sat w (ex R::L)↔∃i,Sat w (R i::L):=
  ⟨fun ⟨F,h1,⟨i,h2⟩,h3⟩=>⟨i,F,h1,h2,h3⟩,fun ⟨i,F,h1,h2,h3⟩=>⟨F,h1,⟨i,h2⟩,h3⟩⟩
theorem sat_fact {p:Prop}:Sat w (fact p::L)↔p/\Sat w L:=
  ⟨fun ⟨_,_,h2,h3⟩=>⟨h2.1,SatIn.mono (fun _ hk=>hk.1) h3⟩,fun h=>⟨fun _=>False,fun _ h=>h.elim,⟨h.1,fun _ h=>h⟩,SatIn.mono (fun _ hk=>⟨hk,id⟩) h.2⟩⟩
end

/-! ### strings and bytes -/
abbrev nms (n:List UInt8):Value:=.string ⟨n.toArray⟩
theorem str_inj {a b:List UInt8}:(⟨a.toArray⟩:ByteArray)=⟨b.toArray⟩↔a=b:=by
  constructor
  · intro h;injection h with h;simpa using h
  · intro h;rw [h]
theorem KeyOk.nm {P:Program} {t k e:TypeId} (hm:P.underlying t=some (.map k e)) (hk:P.underlying k=some .string):KeyOk P t k e nms where
  mt:=hm
  same:=⟨_,hk,fun a b=>by
    simp only [nms,Instr.sameNow,Option.some.injEq,ba_beq]
    rw [decide_eq_decide];exact str_inj⟩
  check b a w:=check_lit hk (by intro x h;cases h) (by intro x y h;cases h) (by intro x h;cases h) b _ w 9999
  bits a:=by simp [nms,Instr.sameBits,ba_beq]
def u8s (l:List UInt8):List Value:=l.map fun x=>.int .u8 (x.toNat:Int)
@[simp] theorem len_u8s (l:List UInt8):(u8s l).length=l.length:=by simp [u8s]
@[simp] theorem u8s_nil:u8s []=[]:=rfl
theorem u8s_app (l l':List UInt8):u8s l++u8s l'=u8s (l++l'):=by simp [u8s]
theorem one_u8s (l:List UInt8):∀ u∈u8s l,u.oneCell'=true:=by intro u hu;simp only [u8s,List.mem_map] at hu;obtain ⟨x,_,rfl⟩:=hu;rfl
theorem u8s_take (l:List UInt8) (k:Nat):(u8s l).take (k*1)=u8s (l.take k):=by simp [u8s,List.map_take]
theorem u8s_drop (l:List UInt8) (k:Nat):(u8s l).drop (k*1)=u8s (l.drop k):=by simp [u8s,List.map_drop]
theorem u8s_at {l:List UInt8} {i:Nat} (h:i < l.length):(u8s l)[i*1]? =some (.int .u8 ((l.getD i 0).toNat:Int)):=by
  rw [Nat.mul_one,u8s,List.getElem?_map,List.getD_eq_getElem?_getD,List.getElem?_eq_getElem h];rfl

/-! ### the disk -/
open Dk (Nm By Fl Fs fget fput fdel rising)
def mkP (o:Option Nat):Value:=.pointer (o.map fun b=>⟨b,0,none⟩)
abbrev Tbl:=List (Nm×Nat)
def tdel (t:Tbl) (n:Nm):Tbl:=t.filter fun p=>p.1≠n
def tmap (t:Tbl):List (Nm×Option Nat):=t.map fun p=>(p.1,some p.2)
def fl0:Fl:=⟨[],[]⟩
abbrev byR (A:Option Addr) (c:Nat) (l:By):Res:=row 5 1 (.slice A l.length c) l.length (u8s l)
abbrev fiB (fb:Nat) (f:Fl) (A:Option Addr) (c:Nat) (B:Option Addr) (e:Nat):Res:=blk fb (.cells #[.slice A f.now.length c,.slice B f.syn.length e] 105)
def fileR (fb:Nat) (f:Fl):Res:=ex fun g:Option Addr×Nat×Option Addr×Nat=>star [fiB fb f g.1 g.2.1 g.2.2.1 g.2.2.2,byR g.1 g.2.1 f.now,byR g.2.2.1 g.2.2.2 f.syn]
def filesL (t:Tbl) (fs:Fs):List Res:=t.map fun p=>fileR p.2 ((fget fs p.1).getD fl0)
def filesR (t:Tbl) (fs:Fs):Res:=star (filesL t fs)
def dnI (b:Bool):Int:=if b then 1 else 0
abbrev dkB (db mb:Nat) (d:Dk.Disk) (kA:Option Addr) (kc:Nat):Res:=
  blk db (.cells #[.map (some mb),.int .i64 (d.room:Int),.int .i64 (d.used:Int),.int .i64 d.ops,.int .i64 (d.armed:Int),.slice kA d.keep.length kc,.int .u32 (dnI d.down)] 71)
abbrev kpR (kA:Option Addr) (kc:Nat) (k:List Bool):Res:=row 4 1 (.slice kA k.length kc) k.length (bools k)
abbrev tbR (mb:Nat) (t:Tbl):Res:=mp nms mkP mb (tmap t)
/-- the names of a table are the files' -/
def Tied (t:Tbl) (fs:Fs):Prop:=(fs.map (·.1)).Perm (t.map (·.1))
def diskR (db:Nat) (d:Dk.Disk):Res:=ex fun g:Nat×Tbl×Option Addr×Nat=>star [fact (d.Ok/\Tied g.2.1 d.files),dkB db g.1 d g.2.2.1 g.2.2.2,tbR g.1 g.2.1,filesR g.2.1 d.files,kpR g.2.2.1 g.2.2.2 d.keep]
section
variable {w:World} {L:List Res}
theorem Sat.openDisk {db:Nat} {d:Dk.Disk} (H:Sat w (diskR db d::L)):∃mb t kA kc,d.Ok/\Tied t d.files/\Sat w (dkB db mb d kA kc::tbR mb t::filesR t d.files::kpR kA kc d.keep::L):=by
  obtain ⟨⟨mb,t,kA,kc⟩,H⟩:=sat_ex.1 H
  obtain ⟨h,H⟩:=sat_fact.1 (sat_star.1 H)
  exact ⟨mb,t,kA,kc,h.1,h.2,H⟩
theorem Sat.shutDisk {db mb:Nat} {t:Tbl} {kA:Option Addr} {kc:Nat} (d:Dk.Disk) (h1:d.Ok) (h2:Tied t d.files) (H:Sat w (dkB db mb d kA kc::tbR mb t::filesR t d.files::kpR kA kc d.keep::L)):Sat w (diskR db d::L):=
  sat_ex.2 ⟨(mb,t,kA,kc),sat_star.2 (sat_fact.2 ⟨⟨h1,h2⟩,H⟩)⟩
theorem Sat.shutU {db mb:Nat} {t:Tbl} {kA:Option Addr} {kc:Nat} (d:Dk.Disk) (h1:d.Ok) (h2:Tied t d.files) {u:Nat} (hu:u=d.used) (H:Sat w (blk db (.cells #[.map (some mb),.int .i64 (d.room:Int),.int .i64 (u:Int),.int .i64 d.ops,.int .i64 (d.armed:Int),.slice kA d.keep.length kc,.int .u32 (dnI d.down)] 71)::tbR mb t::filesR t d.files::kpR kA kc d.keep::L)):Sat w (diskR db d::L):=by
  subst hu;exact H.shutDisk d h1 h2
theorem Sat.diskOk {db:Nat} {d:Dk.Disk} (H:Sat w (diskR db d::L)):d.Ok:=by
  obtain ⟨_,_,_,_,h,_⟩:=H.openDisk;exact h
theorem tlook_mem {t:Tbl} {n:Nm} {fb:Nat} (h:tlook t n=some fb):(n,fb)∈t:=by
  induction t with
  | nil=>simp [tlook] at h
  | cons p r ih=>
    unfold tlook at h
    split at h
    · rename_i e;simp only [Option.some.injEq] at h;rw [<-h,e];exact List.mem_cons_self
    · exact List.mem_cons_of_mem _ (ih h)
theorem tlook_none {t:Tbl} {n:Nm} (h:tlook t n=none):∀ p∈t,p.1≠n:=by
  induction t with
  | nil=>exact fun p hp=>(List.not_mem_nil hp).elim
  | cons q r ih=>
    unfold tlook at h
    split at h
    · cases h
    · rename_i e
      intro p hp
      rcases List.mem_cons.1 hp with rfl | hp
      · exact fun e'=>e e'.symm
      · exact ih h p hp
theorem Tied.nodup {t:Tbl} {fs:Fs} (h:Tied t fs) (hr:rising fs):(t.map (·.1)).Nodup:=by
  refine (List.Perm.nodup_iff h).1 ?_
  have:(fs.map (·.1)).Pairwise (· < ·):=by rw [List.pairwise_map];exact hr
  refine List.Pairwise.imp ?_ this
  intro a b hab e;subst e;exact Dk.lt_irrefl _ hab
theorem Tied.look {t:Tbl} {fs:Fs} (h:Tied t fs) {n:Nm} {f:Fl} (hf:fget fs n=some f):∃fb,tlook t n=some fb:=by
  cases ht:tlook t n with
  | some fb=>exact ⟨fb,rfl⟩
  | none=>
    exfalso
    have h1:n∈t.map (·.1):=h.mem_iff.1 (List.mem_map.2 ⟨_,Dk.mem_of_fget hf,rfl⟩)
    obtain ⟨p,hp,e⟩:=List.mem_map.1 h1
    exact tlook_none ht p hp e
theorem Tied.lookN {t:Tbl} {fs:Fs} (h:Tied t fs) {n:Nm} (hf:fget fs n=none):tlook t n=none:=by
  cases ht:tlook t n with
  | none=>rfl
  | some fb=>
    exfalso
    have h1:n∈fs.map (·.1):=h.mem_iff.2 (List.mem_map.2 ⟨_,tlook_mem ht,rfl⟩)
    obtain ⟨p,hp,e⟩:=List.mem_map.1 h1
    exact Dk.fget_none hf p hp e
theorem tlook_tmap (n:Nm):∀ t:Tbl,tlook (tmap t) n=(tlook t n).map some
  | []=>rfl
  | p::r=>by
    have ih:=tlook_tmap n r
    show (if n=p.1 then some (some p.2) else tlook (tmap r) n)=(if n=p.1 then some p.2 else tlook r n).map some
    rw [ih]
    split<;>rfl
theorem tdel_perm {t:Tbl} {n:Nm} {fb:Nat} (hn:(t.map (·.1)).Nodup) (h:tlook t n=some fb):t.Perm ((n,fb)::tdel t n):=by
  induction t with
  | nil=>simp [tlook] at h
  | cons p r ih=>
    simp only [List.map_cons,List.nodup_cons] at hn
    unfold tlook at h
    split at h
    · rename_i e
      simp only [Option.some.injEq] at h
      have hr:tdel r n=r:=by
        unfold tdel;rw [List.filter_eq_self]
        intro q hq
        simp only [decide_eq_true_eq]
        intro e'
        exact hn.1 (by rw [<-e,<-e'];exact List.mem_map.2 ⟨q,hq,rfl⟩)
      have:tdel (p::r) n=r:=by
        show List.filter _ _=_
        rw [List.filter_cons,if_neg (by simp [e])];exact hr
      rw [this,<-h,e]
    · rename_i e
      have:tdel (p::r) n=p::tdel r n:=by
        show List.filter _ _=_
        rw [List.filter_cons,if_pos (by simpa using fun e'=>e e'.symm)];rfl
      rw [this]
      exact ((ih hn.2 h).cons p).trans (List.Perm.swap _ _ _)
theorem tdel_none {t:Tbl} {n:Nm} (h:tlook t n=none):tdel t n=t:=by
  unfold tdel;rw [List.filter_eq_self]
  intro p hp
  have:=tlook_none h p hp
  simpa using this
theorem filesL_same {t:Tbl} {fs fs':Fs} (h:∀ p∈t,fget fs p.1=fget fs' p.1):filesL t fs=filesL t fs':=by
  unfold filesL
  exact List.map_congr_left fun p hp=>by rw [h p hp]
theorem sat_files_perm {t t':Tbl} {fs:Fs} (h:t.Perm t') (H:Sat w (filesR t fs::L)):Sat w (filesR t' fs::L):=
  sat_star.2 ((sat_star.1 H).perm ((h.map _).append_right L))
theorem sat_files_cons {p:Nm×Nat} {t:Tbl} {fs:Fs}:Sat w (filesR (p::t) fs::L)↔Sat w (fileR p.2 ((fget fs p.1).getD fl0)::filesR t fs::L):=by
  unfold filesR
  rw [sat_star]
  show Sat w (fileR p.2 ((fget fs p.1).getD fl0)::(filesL t fs++L))↔_
  constructor
  · rintro ⟨F,h1,h2,h3⟩
    obtain ⟨G,g1,g2,g3⟩:=SatIn.split _ h3
    exact ⟨F,h1,h2,G,g1,g2,g3⟩
  · rintro ⟨F,h1,h2,G,g1,g2,g3⟩
    exact ⟨F,h1,h2,SatIn.app _ g1 g2 g3⟩
theorem Sat.openFile {fb:Nat} {f:Fl} (H:Sat w (fileR fb f::L)):∃A c B e,Sat w (fiB fb f A c B e::byR A c f.now::byR B e f.syn::L):=by
  obtain ⟨⟨A,c,B,e⟩,H⟩:=sat_ex.1 H
  exact ⟨A,c,B,e,sat_star.1 H⟩
theorem Sat.shutFile {fb:Nat} {A B:Option Addr} {c e:Nat} (f:Fl) (H:Sat w (fiB fb f A c B e::byR A c f.now::byR B e f.syn::L)):Sat w (fileR fb f::L):=
  sat_ex.2 ⟨(A,c,B,e),sat_star.2 H⟩
/-- a file is taken out -/
theorem Sat.fileOut {t:Tbl} {fs:Fs} {n:Nm} {f:Fl} {fb:Nat} (hn:(t.map (·.1)).Nodup) (hf:fget fs n=some f) (ht:tlook t n=some fb) (H:Sat w (filesR t fs::L)):Sat w (fileR fb f::filesR (tdel t n) fs::L):=by
  have H1:=sat_files_cons.1 (sat_files_perm (tdel_perm hn ht) H)
  simpa [hf] using H1
theorem tdel_ne {t:Tbl} {n:Nm}:∀ p∈tdel t n,p.1≠n:=fun p hp=>by
  have:=(List.mem_filter.1 hp).2;simpa using this
/-- .. and put in -/
theorem Sat.fileIn {t:Tbl} {fs:Fs} {n:Nm} {f:Fl} {fb:Nat} (hn:(t.map (·.1)).Nodup) (ht:tlook t n=some fb) (H:Sat w (fileR fb f::filesR (tdel t n) fs::L)):Sat w (filesR t (fput fs n f)::L):=by
  refine sat_files_perm (tdel_perm hn ht).symm (sat_files_cons.2 ?_)
  have e1:fget (fput fs n f) n=some f:=by rw [Dk.fget_fput,if_pos rfl]
  have e2:filesR (tdel t n) (fput fs n f)=filesR (tdel t n) fs:=congrArg star (filesL_same fun p hp=>by rw [Dk.fget_fput,if_neg (tdel_ne p hp)])
  simp only [e1,e2,Option.getD_some]
  exact H
/-- .. and left out -/
theorem Sat.fileGone {t:Tbl} {fs:Fs} {n:Nm} (H:Sat w (filesR (tdel t n) fs::L)):Sat w (filesR (tdel t n) (fdel fs n)::L):=by
  have e2:filesR (tdel t n) (fdel fs n)=filesR (tdel t n) fs:=congrArg star (filesL_same fun p hp=>by rw [Dk.fget_fdel,if_neg (tdel_ne p hp)])
  rw [e2];exact H
/-- a new one -/
theorem Sat.fileNew {t:Tbl} {fs:Fs} {n:Nm} {f:Fl} {fb:Nat} (ht:tlook t n=none) (H:Sat w (fileR fb f::filesR t fs::L)):Sat w (filesR (t++[(n,fb)]) (fput fs n f)::L):=by
  refine sat_files_perm (List.perm_append_comm (l₁:=[(n,fb)])) (sat_files_cons (p:=(n,fb)) (t:=t).2 ?_)
  have e1:fget (fput fs n f) n=some f:=by rw [Dk.fget_fput,if_pos rfl]
  have e2:filesR t (fput fs n f)=filesR t fs:=congrArg star (filesL_same fun p hp=>by rw [Dk.fget_fput,if_neg (tlook_none ht p hp)])
  simp only [e1,e2,Option.getD_some]
  exact H
theorem Tied.put {t:Tbl} {fs:Fs} (h:Tied t fs) (hr:rising fs) {n:Nm} {f g:Fl} (hf:fget fs n=some f):Tied t (fput fs n g):=by
  have e:(fput fs n g).map (·.1)=fs.map (·.1):=by
    have h1:((fput fs n g).map (·.1)).Perm (fs.map (·.1)):=by
      refine ((Dk.perm_fins n g _).map _).trans ?_
      refine (List.perm_ext_iff_of_nodup ?_ ?_).2 fun m=>?_
      · simp only [List.map_cons,List.nodup_cons]
        refine ⟨fun hm=>?_,?_⟩
        · obtain ⟨p,hp,e⟩:=List.mem_map.1 hm
          exact Dk.fdel_ne p hp e
        · have:((fdel fs n).map (·.1)).Pairwise (· < ·):=by rw [List.pairwise_map];exact Dk.rising_fdel hr n
          exact List.Pairwise.imp (fun {a b} hab e=>by subst e;exact Dk.lt_irrefl _ hab) this
      · have:(fs.map (·.1)).Pairwise (· < ·):=by rw [List.pairwise_map];exact hr
        exact List.Pairwise.imp (fun {a b} hab e=>by subst e;exact Dk.lt_irrefl _ hab) this
      · simp only [List.map_cons,List.mem_cons,List.mem_map]
        constructor
        · rintro (rfl | ⟨p,hp,rfl⟩)
          · exact ⟨_,Dk.mem_of_fget hf,rfl⟩
          · exact ⟨p,(List.mem_filter.1 hp).1,rfl⟩
        · rintro ⟨p,hp,rfl⟩
          by_cases e:p.1=n
          · exact .inl e
          · exact .inr ⟨p,List.mem_filter.2 ⟨hp,by simpa using e⟩,rfl⟩
    have p1:((fput fs n g).map (·.1)).Pairwise (· < ·):=by rw [List.pairwise_map];exact Dk.rising_fput hr n g
    have p2:(fs.map (·.1)).Pairwise (· < ·):=by rw [List.pairwise_map];exact hr
    exact h1.eq_of_pairwise (fun a b _ _ hab hba=>absurd (Dk.lt_trans hab hba) (Dk.lt_irrefl _)) p1 p2
  unfold Tied;rw [e];exact h
theorem Tied.new {t:Tbl} {fs:Fs} (h:Tied t fs) {n:Nm} {g:Fl} {fb:Nat} (hf:fget fs n=none):Tied (t++[(n,fb)]) (fput fs n g):=by
  unfold Tied
  refine ((Dk.perm_fins n g _).map _).trans ?_
  rw [Dk.fdel_none hf,List.map_append]
  simp only [List.map_cons,List.map_nil]
  exact (h.cons n).trans (List.perm_append_comm (l₁:=[n]))
theorem Tied.del {t:Tbl} {fs:Fs} (h:Tied t fs) (n:Nm):Tied (tdel t n) (fdel fs n):=by
  unfold Tied tdel fdel
  have e1:(fs.filter fun p=>decide (p.1≠n)).map (·.1)=(fs.map (·.1)).filter fun m=>decide (m≠n):=by rw [List.filter_map];rfl
  have e2:(t.filter fun p=>decide (p.1≠n)).map (·.1)=(t.map (·.1)).filter fun m=>decide (m≠n):=by rw [List.filter_map];rfl
  rw [e1,e2];exact h.filter _
end

/-- what the look for a file says -/
def OnSays (d:Dk.Disk) (n:Nm) (t:Tbl) (p:Option Nat) (e:Nat):Prop:=
  (d.down=true/\p=none/\e=7)\/(d.down=false/\fget d.files n=none/\tlook t n=none/\p=none/\e=4)\/(d.down=false/\∃f fb,fget d.files n=some f/\tlook t n=some fb/\p=some fb/\e=0)
theorem tlook_getD (t:Tbl) (n:Nm):(tlook (tmap t) n).getD none=tlook t n:=by
  rw [tlook_tmap];cases tlook t n<;>rfl
theorem nodup_tmap {t:Tbl} (h:(t.map (·.1)).Nodup):((tmap t).map (·.1)).Nodup:=by
  unfold tmap;rw [List.map_map];exact h
theorem tmap_del (t:Tbl) (n:Nm):((tmap t).filter fun p=>decide (p.1≠n))=tmap (tdel t n):=by
  unfold tmap tdel;rw [List.filter_map];rfl
theorem tupd_tmap {t:Tbl} {n:Nm} (h:tlook t n=none) (fb:Nat):tupd (tmap t) n (some fb)=tmap (t++[(n,fb)]):=by
  have h1:posn (tmap t) n=none:=by
    have e:=tlook_posn n (tmap t)
    rw [tlook_tmap,h] at e
    cases hp:posn (tmap t) n with
    | none=>rfl
    | some q=>rw [hp] at e;cases e
  rw [tupd_none _ _ _ h1];simp [tmap]
theorem tlook_tdel (t:Tbl) (n m:Nm):tlook (tdel t n) m=if m=n then none else tlook t m:=by
  induction t with
  | nil=>simp [tdel,tlook]
  | cons p r ih=>
    unfold tdel at ih ⊢
    rw [List.filter_cons]
    split
    · rename_i h
      simp only [decide_eq_true_eq] at h
      unfold tlook
      split
      · rename_i e;rw [if_neg (by rw [e];exact h)]
      · exact ih
    · rename_i h
      simp only [decide_eq_true_eq,Decidable.not_not] at h
      rw [ih]
      split
      · rfl
      · rename_i e
        conv=>rhs;unfold tlook
        rw [if_neg (by rw [h];exact e)]
/-- a disk among the resources -/
class FdD (L:List Res) (db:Nat) (d:outParam Dk.Disk) (i:outParam Nat):Prop where
  h:L[i]? =some (diskR db d)
instance (priority:=1100) FdD.hit (db:Nat) (d:Dk.Disk) (L:List Res):FdD (diskR db d::L) db d 0:=⟨rfl⟩
instance FdD.skip (R:Res) (L:List Res) (db:Nat) (d:Dk.Disk) (i:Nat) [h:FdD L db d i]:FdD (R::L) db d (i+1):=⟨by simpa using h.h⟩
theorem disk_at {P:Program} {f:FuncId} {args:Array Value} {w:World} {v:Value} {L L':List Res} {db i:Nat} {d d':Dk.Disk} [hf:FdD L db d i] [hs:St L i (diskR db d') L']
    (K:∀ fr,Sat w (diskR db d::fr)->Rt P f args w fun u w'=>u=v/\Sat w' (diskR db d'::fr)) (H:Sat w L):Rt P f args w fun u w'=>u=v/\Sat w' L':=by
  have hl:=hf.h
  refine (K _ (H.fetch hl)).mono ?_
  rintro u w' ⟨rfl,H'⟩
  refine ⟨rfl,?_⟩
  have:=H'.back (lt_of_at hl)
  rwa [hs.h.2] at this
end Go.Cg
end
section
namespace Go.Cg.Rn
set_option linter.unusedVariables false
set_option linter.unusedSimpArgs false
open Go.Cg.Dk Go.Cg.Oc

structure Bx where
  name:Nm
  budget:Nat
  how:Int
  now:List R
  files:List Nm
  next:Nat
namespace Bx
set_option linter.unusedVariables false
set_option linter.unusedSimpArgs false
def new (name:Nm) (budget:Nat) (how:Int):Bx:=⟨name,budget,how,[],[],0⟩
def file (x:Bx) (i:Nat):Nm:=(x.name++[46])++Go.Lib.itoa ((i:Nat):Int)
def spill (x:Bx) (d:Disk):Disk×Bx×Nat:=
  if (Rn.write (x.file (x.next+1)) (Rn.sort x.now) d).2≠0 then
    (if (Rn.write (x.file (x.next+1)) (Rn.sort x.now) d).2≠5 then ((Rn.write (x.file (x.next+1)) (Rn.sort x.now) d).1.remove (x.file (x.next+1))).1 else (Rn.write (x.file (x.next+1)) (Rn.sort x.now) d).1,x,(Rn.write (x.file (x.next+1)) (Rn.sort x.now) d).2)
  else ((Rn.write (x.file (x.next+1)) (Rn.sort x.now) d).1,{ x with now:=[],files:=x.files++[x.file (x.next+1)],next:=x.next+1 },0)
def into (x:Bx) (k v:Nat):Bx:={ x with now:=tupd x.now k v }
def put (x:Bx) (r:R) (d:Disk):Disk×Bx×Nat:=
  match tlook x.now r.1 with
  | some v=>(d,x.into r.1 (comb x.how v r.2),0)
  | none=>if x.budget<=x.now.length then (if (x.spill d).2.2≠0 then x.spill d else ((x.spill d).1,(x.spill d).2.1.into r.1 r.2,0)) else (d,x.into r.1 r.2,0)
/-- all files read, behind what there is -/
def reads:List Nm->List (List R)->Disk->Disk×List (List R)×Nat
  | [],ls,d=>(d,ls,0)
  | n::ns,ls,d=>if (Rn.read n d).2.2≠0 then ((Rn.read n d).1,ls,(Rn.read n d).2.2) else reads ns (ls++[(Rn.read n d).2.1]) (Rn.read n d).1
def all (x:Bx) (d:Disk):Disk×List R×Nat:=
  if (reads x.files [Rn.sort x.now] d).2.2≠0 then ((reads x.files [Rn.sort x.now] d).1,[],(reads x.files [Rn.sort x.now] d).2.2)
  else ((reads x.files [Rn.sort x.now] d).1,(Rn.merge x.how (reads x.files [Rn.sort x.now] d).2.1).1,(Rn.merge x.how (reads x.files [Rn.sort x.now] d).2.1).2)
def clears:List Nm->Disk->Disk×List Nm×Nat
  | [],d=>(d,[],0)
  | n::ns,d=>if (d.remove n).2≠0 then ((d.remove n).1,n::ns,(d.remove n).2) else clears ns (d.remove n).1
def clear (x:Bx) (d:Disk):Disk×Bx×Nat:=((clears x.files d).1,{ x with now:=[],files:=(clears x.files d).2.1 },(clears x.files d).2.2)
/-- what a box may be, by some bound -/
structure Fit (k:Nat) (x:Bx):Prop where
  now:x.now.length<=k
  files:x.files.length<=k
  next:x.next<=k
  name:x.name.length<=1000
  bd:Bd x.now
  budget:x.budget<=4611686018427387904
theorem Fit.new {name:Nm} {budget:Nat} {how:Int} (h:name.length<=1000) (hb:budget<=4611686018427387904):Fit 0 (new name budget how):=⟨Nat.le_refl _,Nat.le_refl _,Nat.le_refl _,h,Bd.nil,hb⟩
theorem tupd_len (k v:Nat):∀ l:List R,(tupd l k v).length<=l.length+1
  | []=>by simp [tupd]
  | p::l=>by unfold tupd;split<;>simp;have:=tupd_len k v l;omega
theorem tupd_bd {k v:Nat} (hk:k < 18446744073709551616) (hv:v < 18446744073709551616):∀ {l:List R},Bd l->Bd (tupd l k v)
  | [],_=>fun z hz=>by rw [List.mem_singleton.1 hz];exact ⟨hk,hv⟩
  | p::l,h=>by
    unfold tupd;split
    · exact fun z hz=>by
        rcases List.mem_cons.1 hz with rfl | hz
        · exact ⟨hk,hv⟩
        · exact h z (List.mem_cons_of_mem _ hz)
    · exact fun z hz=>by
        rcases List.mem_cons.1 hz with rfl | hz
        · exact h _ List.mem_cons_self
        · exact tupd_bd hk hv (fun y hy=>h y (List.mem_cons_of_mem _ hy)) z hz
theorem tlook_lt {k v:Nat}:∀ {l:List R},Bd l->tlook l k=some v->v < 18446744073709551616
  | [],_,h=>by simp [tlook] at h
  | p::l,hb,h=>by
    unfold tlook at h;split at h
    · have:=Option.some.inj h;rw [<-this];exact (hb p List.mem_cons_self).2
    · exact tlook_lt (fun y hy=>hb y (List.mem_cons_of_mem _ hy)) h
theorem Fit.into {k:Nat} {x:Bx} (h:Fit k x) {a b:Nat} (ha:a < 18446744073709551616) (hb:b < 18446744073709551616):Fit (k+1) (x.into a b):=
  ⟨Nat.le_trans (tupd_len _ _ _) (Nat.succ_le_succ h.now),Nat.le_succ_of_le h.files,Nat.le_succ_of_le h.next,h.name,tupd_bd ha hb h.bd,h.budget⟩
theorem Fit.more {k j:Nat} {x:Bx} (h:Fit k x) (hj:k<=j):Fit j x:=⟨Nat.le_trans h.now hj,Nat.le_trans h.files hj,Nat.le_trans h.next hj,h.name,h.bd,h.budget⟩
theorem Fit.spill {k:Nat} {x:Bx} (h:Fit k x) (d:Disk):Fit (k+1) (x.spill d).2.1:=by
  unfold Bx.spill
  split
  · exact h.more (Nat.le_succ _)
  · exact ⟨Nat.zero_le _,by simp;exact h.files,Nat.succ_le_succ h.next,h.name,Bd.nil,h.budget⟩
theorem spill_now {x:Bx} {d:Disk} (h:(x.spill d).2.2=0):(x.spill d).2.1.now=[]:=by
  unfold Bx.spill at h ⊢
  split at h
  · rename_i h1;exact absurd h h1
  · rename_i h1;rw [if_neg h1]
theorem Fit.put {k:Nat} {x:Bx} (h:Fit k x) {r:R} (hr:r.1 < 18446744073709551616/\r.2 < 18446744073709551616) (d:Disk):Fit (k+1) (x.put r d).2.1:=by
  unfold Bx.put
  split
  · rename_i v hv
    exact h.into hr.1 (comb_lt (tlook_lt h.bd hv) hr.2)
  · split
    · split
      · exact h.spill d
      · rename_i h0
        have h1:=h.spill d
        have h2:=spill_now (x:=x) (d:=d) (by omega)
        refine ⟨?_,h1.files,h1.next,h1.name,tupd_bd hr.1 hr.2 h1.bd,h1.budget⟩
        show (tupd (x.spill d).2.1.now r.1 r.2).length<=k+1
        rw [h2];simp [tupd]
    · exact h.into hr.1 hr.2
theorem reads_cnt:∀ (ns:List Nm) (ls:List (List R)) (d:Disk),(reads ns ls d).1.files.length=d.files.length
  | [],_,_=>rfl
  | n::ns,ls,d=>by
    unfold reads;split
    · exact read_cnt _ _
    · rw [reads_cnt ns];exact read_cnt _ _
theorem all_cnt (x:Bx) (d:Disk):(x.all d).1.files.length=d.files.length:=by
  unfold Bx.all;split<;>exact reads_cnt _ _ _
end Bx
end Go.Cg.Rn
end
section
namespace Go.Cg.Rn
set_option linter.unusedVariables false
set_option linter.unusedSimpArgs false
open Go.Cg.Dk Go.Cg.Oc Go.Cg.Cl

/-! ### one block -/
theorem rtext_cons (r:R) (l:List R):rtext (r::l)=rb r++rtext l:=by simp [rtext]
theorem rtext_app (l m:List R):rtext (l++m)=rtext l++rtext m:=by simp [rtext]
@[simp] theorem rtext_len:∀ l:List R,(rtext l).length=16*l.length
  | []=>rfl
  | r::l=>by rw [rtext_cons,List.length_append,rtext_len l,rb_len];simp;omega
theorem recOf_rb {r:R} (h:r.1 < 18446744073709551616/\r.2 < 18446744073709551616) (t:By):recOf (rb r++t)=r:=by
  unfold recOf rb
  rw [List.append_assoc,unle_take_le 8 r.1 _ h.1,List.drop_left' (le_len 8 r.1),unle_take_le 8 r.2 _ h.2]
theorem drop_rb (r:R) (t:By):(rb r++t).drop 16=t:=List.drop_left' (rb_len r)
/-- a file of records that fill no more than one block -/
def F1 (l:List R):By:=(enc (rtext l)).1
theorem F1_len {l:List R} (h:l.length<=50):(F1 l).length=16*l.length+6:=by
  unfold F1;rw [enc_len (by rw [rtext_len];omega),rtext_len]
section
variable {d:Disk} (hu:d.down=false) (o:Int) (a:Nat) (fs:Fs)
include hu
end
/-! ### read again -/
end Go.Cg.Rn
end
section
namespace Go.Cg.Rn
set_option linter.unusedVariables false
set_option linter.unusedSimpArgs false
open Go.Cg.Dk Go.Cg.Oc Go.Cg.Cl

/-! ### the text of a file -/
/-- whole blocks, and what is left behind them -/
def full (l:List R):By:=if 50<=l.length then F1 (l.take 50)++full (l.drop 50) else []
termination_by l.length
decreasing_by simp;omega
def rest (l:List R):List R:=if 50<=l.length then rest (l.drop 50) else l
termination_by l.length
decreasing_by simp;omega
def FB (l:List R):By:=full l++(if rest l=[] then [] else F1 (rest l))
theorem full_lt {l:List R} (h:l.length < 50):full l=[]:=by rw [full,if_neg (by omega)]
theorem rest_lt {l:List R} (h:l.length < 50):rest l=l:=by rw [rest,if_neg (by omega)]
theorem full_ge {l:List R} (h:50<=l.length):full l=F1 (l.take 50)++full (l.drop 50):=by rw [full,if_pos h]
theorem rest_ge {l:List R} (h:50<=l.length):rest l=rest (l.drop 50):=by rw [rest,if_pos h]
theorem FB_ge {l:List R} (h:50<=l.length):FB l=F1 (l.take 50)++FB (l.drop 50):=by
  unfold FB;rw [full_ge h,rest_ge h,List.append_assoc]
theorem FB_lt {l:List R} (h:l.length < 50) (h0:l≠[]):FB l=F1 l:=by
  unfold FB;rw [full_lt h,rest_lt h,if_neg h0];rfl
@[simp] theorem FB_nil:FB []=[]:=by unfold FB;rw [full_lt (by simp),rest_lt (by simp),if_pos rfl];rfl
@[simp] theorem full_nil:full []=[]:=full_lt (by simp)
@[simp] theorem rest_nil:rest []=[]:=rest_lt (by simp)
theorem ind50 {p:List R->Prop} (h1:∀ l:List R,l.length < 50->p l) (h2:∀ l:List R,50<=l.length->p (l.drop 50)->p l):∀ l,p l:=by
  intro l
  obtain ⟨k,hk⟩:∃k,k=l.length:=⟨_,rfl⟩
  induction k using Nat.strongRecOn generalizing l with
  | ind k ih=>
    by_cases h:l.length < 50
    · exact h1 l h
    · exact h2 l (by omega) (ih (l.length - 50) (by omega) (l.drop 50) (by simp))
theorem rest_len (l:List R):(rest l).length=l.length%50:=by
  induction l using ind50 with
  | h1 l h=>rw [rest_lt h,Nat.mod_eq_of_lt h]
  | h2 l h ih=>rw [rest_ge h,ih,List.length_drop];omega
theorem full_len (l:List R):(full l).length=806*(l.length / 50):=by
  induction l using ind50 with
  | h1 l h=>rw [full_lt h,Nat.div_eq_of_lt h];rfl
  | h2 l h ih=>rw [full_ge h,List.length_append,ih,F1_len (by simp;omega),List.length_take,List.length_drop];omega
theorem FB_len (l:List R):(FB l).length=806*(l.length / 50)+(if l.length%50=0 then 0 else 16*(l.length%50)+6):=by
  have h1:=rest_len l
  unfold FB
  rw [List.length_append,full_len]
  by_cases h:rest l=[]
  · rw [if_pos h,if_pos (by rw [<-h1,h];rfl)];rfl
  · have h0:l.length%50≠0:=by rw [<-h1];exact fun e=>h (List.eq_nil_of_length_eq_zero e)
    rw [if_neg h,if_neg h0,F1_len (by omega),h1]
/-- few sectors -/
theorem sec_FB (l:List R):sectors (FB l).length<=2*l.length:=by
  rw [FB_len];unfold sectors;split<;>omega
theorem snoc_lt {l:List R} {r:R} (h:(rest l).length < 49):full (l++[r])=full l/\rest (l++[r])=rest l++[r]:=by
  induction l using ind50 with
  | h1 l hl=>
    rw [rest_lt hl] at h ⊢
    rw [full_lt hl,full_lt (by simp;omega),rest_lt (by simp;omega)];exact ⟨rfl,rfl⟩
  | h2 l hl ih=>
    rw [rest_ge hl] at h
    obtain ⟨e1,e2⟩:=ih h
    have ed:(l++[r]).drop 50=l.drop 50++[r]:=List.drop_append_of_le_length hl
    have et:(l++[r]).take 50=l.take 50:=List.take_append_of_le_length hl
    rw [full_ge (l:=l++[r]) (by rw [List.length_append];omega),rest_ge (l:=l++[r]) (by rw [List.length_append];omega),ed,et,e1,e2,full_ge hl,rest_ge hl];exact ⟨rfl,rfl⟩
theorem snoc_eq {l:List R} {r:R} (h:(rest l).length=49):full (l++[r])=full l++F1 (rest l++[r])/\rest (l++[r])=[]:=by
  induction l using ind50 with
  | h1 l hl=>
    rw [rest_lt hl] at h ⊢
    have h5:(l++[r]).length=50:=by simp;omega
    rw [full_lt hl,full_ge (by omega),rest_ge (by omega),List.take_of_length_le (by omega),List.drop_of_length_le (by omega),full_nil,rest_nil];simp
  | h2 l hl ih=>
    rw [rest_ge hl] at h
    obtain ⟨e1,e2⟩:=ih h
    have ed:(l++[r]).drop 50=l.drop 50++[r]:=List.drop_append_of_le_length hl
    have et:(l++[r]).take 50=l.take 50:=List.take_append_of_le_length hl
    rw [full_ge (l:=l++[r]) (by rw [List.length_append];omega),rest_ge (l:=l++[r]) (by rw [List.length_append];omega),ed,et,e1,e2,full_ge hl,rest_ge hl,List.append_assoc];exact ⟨rfl,rfl⟩
/-! ### written, record by record -/
/-- a file on its way -/
structure Wr (fs:Fs) (n:Nm) (l:List R) (t:By):Prop where
  get:fget fs n=some ⟨full l,[]⟩
  text:t=rtext (rest l)
/-- what a crash leaves of a file on its way -/
structure Part (n:Nm) (c:Nat) (fs fs':Fs):Prop where
  off:∀ m,m≠n->fget fs' m=fget fs m
  ris:rising fs'
  few:∀ f,fget fs' n=some f->f.syn=[]/\sectors f.now.length<=c
theorem Wr.part {fs:Fs} {n:Nm} {l:List R} {t:By} {c:Nat} (h:Wr fs n l t) (hr:rising fs) (hc:sectors (full l).length<=c):Part n c fs fs:=⟨fun _ _=>rfl,hr,fun f hf=>by rw [h.get] at hf;cases hf;exact ⟨rfl,hc⟩⟩
theorem Part.vac {fs:Fs} {n:Nm} {c:Nat} (hr:rising fs) (h:fget fs n=none):Part n c fs fs:=⟨fun _ _=>rfl,hr,fun f hf=>by rw [h] at hf;cases hf⟩
theorem Part.back {fs f1 f2:Fs} {n:Nm} {c:Nat} (h:Part n c f1 f2) (hf:∀ m,m≠n->fget f1 m=fget fs m):Part n c fs f2:=⟨fun m hm=>by rw [h.off m hm,hf m hm],h.ris,h.few⟩
theorem Part.le {fs f2:Fs} {n:Nm} {c c':Nat} (h:Part n c fs f2) (hc:c<=c'):Part n c' fs f2:=⟨h.off,h.ris,fun f hf=>⟨(h.few f hf).1,Nat.le_trans (h.few f hf).2 hc⟩⟩
theorem sec_fF (l m:List R):sectors (full l).length<=sectors (FB (l++m)).length:=by
  rw [full_len,FB_len];unfold sectors;simp only [List.length_append];split<;>omega
section
variable {d:Disk} (hu:d.down=false) (o:Int) (a:Nat) {fs:Fs}
include hu
theorem append_full (ha:a≠1) {n:Nm} {f:Fl} (b:By) (hn:fget fs n=some f) (hr:d.room < used fs+(sectors (f.now.length+b.length) - sectors f.now.length)):(dk d o a fs).append n b=(dk d (nx o) (a - 1) fs,6):=by
  unfold Disk.append;simp only;rw [mk_begin hu _ _ _ ha]
  rw [if_neg (by rw [mk_down hu];decide),show fget (dk d (nx o) (a - 1) fs).files n=some f from hn]
  simp only
  rw [if_pos (by show d.room < used fs+_;exact hr)]
/-- one more: the disk falls; there is no room; it is there -/
theorem wput_go (hris:rising fs) {n:Nm} {l:List R} {t:By} (h:Wr fs n l t) (r:R):
    (1<=a/\∃o',wput n r t (dk d o a fs)=(dn d o' (tornAll fs d.keep),[],7))\/
    (∃o' a',wput n r t (dk d o a fs)=(dk d o' a' fs,[],6)/\(a=0->a'=0)/\d.room < used fs+sectors (full (l++[r])).length - sectors (full l).length)\/
    ∃o' a' fs',wput n r t (dk d o a fs)=(dk d o' a' fs',rtext (rest (l++[r])),0)/\(a=0->a'=0)/\rising fs'/\Wr fs' n (l++[r]) (rtext (rest (l++[r])))/\(∀ m,m≠n->fget fs' m=fget fs m)/\used fs'+sectors (full l).length=used fs+sectors (full (l++[r])).length/\fs'.length<=fs.length:=by
  have hl:=rest_len l
  have ht:t++rb r=rtext (rest l++[r]):=by rw [h.text,rtext_app];simp [rtext]
  by_cases h9:(rest l).length < 49
  · right;right
    obtain ⟨e1,e2⟩:=snoc_lt (r:=r) h9
    refine ⟨o,a,fs,?_,id,hris,⟨by rw [e1];exact h.get,rfl⟩,fun _ _=>rfl,by rw [e1],Nat.le_refl _⟩
    rw [wput_lt (by rw [ht,rtext_len];simp;omega),ht,e2]
  · have h9:(rest l).length=49:=by omega
    obtain ⟨e1,e2⟩:=snoc_eq (r:=r) h9
    have hne:rtext (rest l++[r])≠[]:=by intro e;have:=congrArg List.length e;rw [rtext_len] at this;simp at this
    have hw:wput n r t (dk d o a fs)=(((dk d o a fs).append n (F1 (rest l++[r]))).1,[],((dk d o a fs).append n (F1 (rest l++[r]))).2):=by
      rw [wput_ge (by rw [ht,rtext_len];simp;omega),ht]
      unfold wout;rw [if_neg hne];rfl
    rw [hw]
    have hfl:(full (l++[r])).length=(full l).length+(F1 (rest l++[r])).length:=by rw [e1];simp
    have hsm:sectors (full l).length<=sectors ((full l).length+(F1 (rest l++[r])).length):=by unfold sectors;omega
    by_cases a1:a=1
    · subst a1
      left
      rw [append_fall hu]
      exact ⟨by omega,_,rfl⟩
    by_cases hroom:d.room < used fs+(sectors ((full l).length+(F1 (rest l++[r])).length) - sectors (full l).length)
    · right;left
      rw [append_full hu _ _ a1 _ h.get hroom]
      refine ⟨_,a - 1,rfl,by omega,?_⟩
      rw [hfl];omega
    · right;right
      rw [append_up hu _ _ _ a1 _ h.get (by simp only;omega)]
      refine ⟨_,a - 1,Dk.fput fs n ⟨full l++F1 (rest l++[r]),[]⟩,by rw [e2];rfl,by omega,rising_fput hris _ _,⟨by rw [fget_fput,if_pos rfl,e1],rfl⟩,fun m hm=>by rw [fget_fput,if_neg hm],?_,len_fput_old h.get⟩
      have:=used_fput_old (g:=⟨full l++F1 (rest l++[r]),[]⟩) hris h.get
      simp only at this
      rw [e1];exact this
/-- shut -/
theorem wclose_go (hris:rising fs) {n:Nm} {l:List R} {t:By} (h:Wr fs n l t):
    (1<=a/\∃o' fs',wclose n t (dk d o a fs)=(dn d o' (tornAll fs' d.keep),7)/\Part n (sectors (FB l).length) fs fs')\/
    (∃o' a',wclose n t (dk d o a fs)=(dk d o' a' fs,6)/\(a=0->a'=0)/\d.room < used fs+sectors (FB l).length - sectors (full l).length)\/
    ∃o' a' fs',wclose n t (dk d o a fs)=(dk d o' a' fs',0)/\(a=0->a'=0)/\rising fs'/\(∀ m,fget fs' m=if m=n then some ⟨FB l,FB l⟩ else fget fs m)/\used fs'+sectors (full l).length=used fs+sectors (FB l).length/\fs'.length<=fs.length:=by
  have sync:∀ (o:Int) (a:Nat) (f2:Fs),rising f2->fget f2 n=some ⟨FB l,[]⟩->(∀ m,m≠n->fget f2 m=fget fs m)->used f2+sectors (full l).length=used fs+sectors (FB l).length->f2.length<=fs.length->
      (a=1/\∃o' fs',(dk d o a f2).sync n=(dn d o' (tornAll fs' d.keep),7)/\Part n (sectors (FB l).length) fs fs')\/
      ∃o' fs',(dk d o a f2).sync n=(dk d o' (a - 1) fs',0)/\rising fs'/\(∀ m,fget fs' m=if m=n then some ⟨FB l,FB l⟩ else fget fs m)/\used fs'+sectors (full l).length=used fs+sectors (FB l).length/\fs'.length<=fs.length:=by
    intro o a f2 r2 g2 k2 u2 c2
    by_cases a1:a=1
    · subst a1;left
      rw [sync_fall hu];exact ⟨rfl,_,f2,rfl,k2,r2,fun f hf=>by rw [g2] at hf;cases hf;exact ⟨rfl,Nat.le_refl _⟩⟩
    · right
      rw [sync_up hu _ _ _ a1 g2]
      refine ⟨_,Dk.fput f2 n ⟨FB l,FB l⟩,rfl,rising_fput r2 _ _,fun m=>?_,?_,Nat.le_trans (len_fput_old g2) c2⟩
      · rw [fget_fput]
        by_cases e:m=n
        · rw [if_pos e,if_pos e]
        · rw [if_neg e,if_neg e,k2 m e]
      · have:=used_fput_old (g:=⟨FB l,FB l⟩) r2 g2
        simp only [] at this;omega
  by_cases hr:rest l=[]
  · have ht:t=[]:=by rw [h.text,hr];rfl
    have e:FB l=full l:=by unfold FB;rw [if_pos hr,List.append_nil]
    have hw:wclose n t (dk d o a fs)=(dk d o a fs).sync n:=by unfold wclose;rw [if_pos ht]
    rw [hw]
    rcases sync o a fs hris (by rw [e];exact h.get) (fun _ _=>rfl) (by rw [e]) (Nat.le_refl _) with ⟨h1,o',fs',h2,h3⟩ | ⟨o',fs',h2,h3,h4,h5,h6⟩
    · exact .inl ⟨by omega,o',fs',h2,h3⟩
    · exact .inr (.inr ⟨o',a - 1,fs',h2,by omega,h3,h4,h5,h6⟩)
  · have hl:=rest_len l
    have hne:t≠[]:=by
      rw [h.text];intro e;have:=congrArg List.length e;rw [rtext_len] at this
      have h0:(rest l).length≠0:=fun e=>hr (List.eq_nil_of_length_eq_zero e)
      rw [List.length_nil] at this;omega
    have e:FB l=full l++F1 (rest l):=by unfold FB;rw [if_neg hr]
    have hw:wclose n t (dk d o a fs)=if ((dk d o a fs).append n (F1 (rest l))).2≠0 then (dk d o a fs).append n (F1 (rest l)) else ((dk d o a fs).append n (F1 (rest l))).1.sync n:=by
      unfold wclose;rw [if_neg hne,h.text];rfl
    have hfl:(FB l).length=(full l).length+(F1 (rest l)).length:=by rw [e];simp
    have hsm:sectors (full l).length<=sectors ((full l).length+(F1 (rest l)).length):=by unfold sectors;omega
    rw [hw]
    by_cases a1:a=1
    · subst a1;left
      rw [append_fall hu,if_pos (by simp)]
      exact ⟨by omega,_,fs,rfl,h.part hris (by have:=sec_fF l [];rwa [List.append_nil] at this)⟩
    by_cases hroom:d.room < used fs+(sectors ((full l).length+(F1 (rest l)).length) - sectors (full l).length)
    · right;left
      rw [append_full hu _ _ a1 _ h.get hroom,if_pos (by simp)]
      refine ⟨_,a - 1,rfl,by omega,?_⟩
      rw [hfl];omega
    · rw [append_up hu _ _ _ a1 _ h.get (by simp only;omega),if_neg (by simp)]
      simp only
      have hus:=used_fput_old (g:=⟨full l++F1 (rest l),[]⟩) hris h.get
      simp only at hus
      rcases sync (nx o) (a - 1) (Dk.fput fs n ⟨full l++F1 (rest l),[]⟩) (rising_fput hris _ _) (by rw [fget_fput,if_pos rfl,e]) (fun m hm=>by rw [fget_fput,if_neg hm]) (by rw [e];exact hus) (len_fput_old h.get) with ⟨h1,o',fs',h2,h3⟩ | ⟨o',fs',h2,h3,h4,h5,h6⟩
      · exact .inl ⟨by omega,o',fs',h2,h3⟩
      · exact .inr (.inr ⟨o',a - 1 - 1,fs',h2,by omega,h3,h4,h5,h6⟩)
/-- many of them -/
theorem wputs_go (U:Nat) {n:Nm}:∀ (l p:List R) (o:Int) (a:Nat) (fs:Fs) (t:By),rising fs->Wr fs n p t->used fs=U+sectors (full p).length->
    (1<=a/\∃o' fs' t',wputs n l t (dk d o a fs)=(dn d o' (tornAll fs' d.keep),t',7)/\Part n (sectors (FB (p++l)).length) fs fs')\/
    (∃o' a' fs' t',wputs n l t (dk d o a fs)=(dk d o' a' fs',t',6)/\(a=0->a'=0)/\rising fs'/\(∃f,fget fs' n=some f)/\(∀ m,m≠n->fget fs' m=fget fs m)/\fs'.length<=fs.length/\d.room < U+sectors (FB (p++l)).length)\/
    ∃o' a' fs' t',wputs n l t (dk d o a fs)=(dk d o' a' fs',t',0)/\(a=0->a'=0)/\rising fs'/\Wr fs' n (p++l) t'/\(∀ m,m≠n->fget fs' m=fget fs m)/\used fs'=U+sectors (full (p++l)).length/\fs'.length<=fs.length
  | [],p,o,a,fs,t,hr,h,hU=>.inr (.inr ⟨o,a,fs,t,rfl,id,hr,by rw [List.append_nil];exact h,fun _ _=>rfl,by rw [List.append_nil];exact hU,Nat.le_refl _⟩)
  | r::l,p,o,a,fs,t,hr,h,hU=>by
    rw [wputs]
    rcases wput_go hu o a hr h r with ⟨h1,o',h2⟩ | ⟨o',a',h2,h3,h4⟩ | ⟨o',a',fs',h2,h3,h4,h5,h6,h7,h8⟩
    · left;rw [h2,if_pos (by simp)];exact ⟨h1,o',fs,[],rfl,h.part hr (sec_fF _ _)⟩
    · right;left;rw [h2,if_pos (by simp)]
      refine ⟨o',a',fs,[],rfl,h3,hr,⟨_,h.get⟩,fun _ _=>rfl,Nat.le_refl _,?_⟩
      have e1:sectors (full (p++[r])).length<=sectors (FB (p++r::l)).length:=by
        rw [full_len,FB_len];unfold sectors;simp only [List.length_append,List.length_cons,List.length_nil];split<;>omega
      omega
    · rw [h2,if_neg (by simp)]
      have ea:p++r::l=p++[r]++l:=by simp
      rw [ea]
      rcases wputs_go U l (p++[r]) o' a' fs' _ h4 h5 (by omega) with ⟨k1,o2,f2,t2,k2,k3⟩ | ⟨o2,a2,f2,t2,k2,k3,k4,k5,k6,k7,k8⟩ | ⟨o2,a2,f2,t2,k2,k3,k4,k5,k6,k7,k8⟩
      · exact .inl ⟨by omega,o2,f2,t2,k2,k3.back h6⟩
      · exact .inr (.inl ⟨o2,a2,f2,t2,k2,fun e=>k3 (h3 e),k4,k5,fun m hm=>by rw [k6 m hm,h6 m hm],by omega,k8⟩)
      · exact .inr (.inr ⟨o2,a2,f2,t2,k2,fun e=>k3 (h3 e),k4,k5,fun m hm=>by rw [k6 m hm,h6 m hm],k7,by omega⟩)
/-- a file -/
theorem write_all {fs:Fs} (o:Int) (a:Nat) (hris:rising fs) {n:Nm} (hm:may n=true) (hn:fget fs n=none) (l:List R):
    (1<=a/\∃o' fs',write n l (dk d o a fs)=(dn d o' (tornAll fs' d.keep),7)/\Part n (sectors (FB l).length) fs fs')\/
    (∃o' a' fs',write n l (dk d o a fs)=(dk d o' a' fs',6)/\(a=0->a'=0)/\rising fs'/\(∃f,fget fs' n=some f)/\(∀ m,m≠n->fget fs' m=fget fs m)/\fs'.length<=fs.length+1/\d.room < used fs+sectors (FB l).length)\/
    ∃o' a' fs',write n l (dk d o a fs)=(dk d o' a' fs',0)/\(a=0->a'=0)/\rising fs'/\(∀ m,fget fs' m=if m=n then some ⟨FB l,FB l⟩ else fget fs m)/\used fs'=used fs+sectors (FB l).length/\fs'.length<=fs.length+1:=by
  by_cases a1:a=1
  · subst a1;left
    rw [write_bad (by rw [create_fall hu];simp),create_fall hu]
    exact ⟨by omega,_,fs,rfl,.vac hris hn⟩
  have hc:=create_up hu o a fs a1 hm hn
  obtain ⟨f2,hf2⟩:∃f2,f2=Dk.fput fs n ⟨[],[]⟩:=⟨_,rfl⟩
  rw [<-hf2] at hc
  have g2:fget f2 n=some ⟨[],[]⟩:=by rw [hf2,fget_fput,if_pos rfl]
  have k2:∀ m,m≠n->fget f2 m=fget fs m:=fun m hm=>by rw [hf2,fget_fput,if_neg hm]
  have u2:used f2=used fs:=by rw [hf2,used_fput_new hn];simp [sectors]
  have r2:rising f2:=by rw [hf2];exact rising_fput hris _ _
  have c2:f2.length<=fs.length+1:=by rw [hf2];exact len_fput _ _ _
  have s0:sectors 0=0:=rfl
  rcases wputs_go hu (used fs) (n:=n) l [] (nx o) (a - 1) f2 [] r2 ⟨by rw [g2,full_nil],by simp [rtext]⟩ (by rw [u2];simp [sectors]) with ⟨k1,o3,f3,t3,k3,k4⟩ | ⟨o3,a3,f3,t3,k3,k4,k5,k6,k7,k8,k9⟩ | ⟨o3,a3,f3,t3,k3,k4,k5,k6,k7,k8,k9⟩
  · left
    rw [write_stop (by rw [hc]) (by rw [hc,k3];simp),hc,k3]
    exact ⟨by omega,o3,f3,rfl,k4.back k2⟩
  · right;left
    rw [write_stop (by rw [hc]) (by rw [hc,k3];simp),hc,k3]
    exact ⟨o3,a3,f3,rfl,fun e=>k4 (by omega),k5,k6,fun m hm=>by rw [k7 m hm,k2 m hm],by omega,by simpa using k9⟩
  · rw [List.nil_append] at k6 k8
    rw [write_done (by rw [hc]) (by rw [hc,k3]),hc,k3]
    simp only
    rcases wclose_go hu o3 a3 k5 k6 with ⟨j1,o4,f4,j2,j3⟩ | ⟨o4,a4,j2,j3,j4⟩ | ⟨o4,a4,f4,j2,j3,j4,j5,j6,j7⟩
    · exact .inl ⟨by omega,o4,f4,j2,j3.back fun m hm=>by rw [k7 m hm,k2 m hm]⟩
    · exact .inr (.inl ⟨o4,a4,f3,j2,fun e=>j3 (k4 (by omega)),k5,⟨_,k6.get⟩,fun m hm=>by rw [k7 m hm,k2 m hm],by omega,by omega⟩)
    · refine .inr (.inr ⟨o4,a4,f4,j2,fun e=>j3 (k4 (by omega)),j4,fun m=>?_,by omega,by omega⟩)
      rw [j5]
      by_cases e:m=n
      · rw [if_pos e,if_pos e]
      · rw [if_neg e,if_neg e,k7 m e,k2 m e]
end
end Go.Cg.Rn
end
section
namespace Go.Cg.Rn
set_option linter.unusedVariables false
set_option linter.unusedSimpArgs false
open Go.Cg.Dk Go.Cg.Oc Go.Cg.Cl

/-! ### what bytes tell -/
def pin (b:By) (p:Nat) (sh:Bool):(By×Nat×Bool)×Nat:=
  let x:=dec ((b.drop p).take (min 1006 (b.length - p)))
  if x.2.2≠0 then (([],p,sh),x.2.2) else
  if x.1.length=0\/x.1.length%16≠0\/800 < x.1.length\/sh=true then (([],p,sh),2) else ((x.1,p+x.2.1,decide (x.1.length < 800)),0)
def pnext (b:By) (s:Rs):Rs×Option R×Nat:=
  if s.2.1=[]/\s.1 < b.length then
    if (pin b s.1 s.2.2).2≠0 then (s,none,(pin b s.1 s.2.2).2)
    else (((pin b s.1 s.2.2).1.2.1,(pin b s.1 s.2.2).1.1.drop 16,(pin b s.1 s.2.2).1.2.2),some (recOf (pin b s.1 s.2.2).1.1),0)
  else if s.2.1=[] then (s,none,0) else ((s.1,s.2.1.drop 16,s.2.2),some (recOf s.2.1),0)
theorem rnext_pure {d:Disk} (hu:d.down=false) (o:Int) (a:Nat) {fs:Fs} {n:Nm} {f:Fl} (hn:fget fs n=some f) (s:Rs):
    (1<=a/\∃o',rnext n f.now.length s (dk d o a fs)=(dn d o' (tornAll fs d.keep),s,none,7))\/∃o' a',rnext n f.now.length s (dk d o a fs)=(dk d o' a' fs,pnext f.now s)/\(a=0->a'=0):=by
  by_cases hc:s.2.1=[]/\s.1 < f.now.length
  · by_cases a1:a=1
    · subst a1;left
      have h1:(dk d o 1 fs).readAt n s.1 (min 1006 ((f.now.length:Int) - s.1))=(dn d (nx o) (tornAll fs d.keep),[],7):=by
        unfold Disk.readAt;simp only;rw [mk_fall hu,if_pos dn_down]
      have h2:=rin_e1 (n:=n) (sz:=f.now.length) (p:=s.1) (sh:=s.2.2) (d:=dk d o 1 fs) (by rw [h1];simp)
      rw [h1] at h2
      rw [rnext_C hc.1 hc.2 (by rw [h2];simp),h2]
      exact ⟨Nat.le_refl _,_,rfl⟩
    · right
      have h1:(dk d o a fs).readAt n s.1 (min 1006 ((f.now.length:Int) - s.1))=(dk d (nx o) (a - 1) fs,(f.now.drop s.1).take (min 1006 (f.now.length - s.1)),0):=by
        have hc2:=hc.2
        unfold Disk.readAt;simp only;rw [mk_begin hu _ _ _ a1]
        rw [if_neg (by rw [mk_down hu];decide),show fget (dk d (nx o) (a - 1) fs).files n=some f from hn]
        simp only
        rw [if_pos (by omega)]
        congr 3
        omega
      refine ⟨nx o,a - 1,?_,by omega⟩
      have hr:rin n f.now.length s.1 s.2.2 (dk d o a fs)=(dk d (nx o) (a - 1) fs,pin f.now s.1 s.2.2):=by
        unfold rin pin;simp only;rw [h1];simp only
        rw [if_neg (by simp)]
        split
        · rfl
        · split<;>rfl
      unfold rnext pnext
      rw [if_pos hc,if_pos hc,hr]
      simp only
      split<;>rfl
  · right
    refine ⟨o,a,?_,id⟩
    unfold rnext pnext
    rw [if_neg hc,if_neg hc]
    split<;>rfl
/-- what comes from here: records, and what ends them -/
def Rds (b:By):Rs->List R->Nat->Prop
  | s,[],e=>pnext b s=(s,none,e)
  | s,r::l,e=>∃s',pnext b s=(s',some r,0)/\Rds b s' l e
theorem FB_cons {l:List R} (h:l≠[]):FB l=F1 (l.take 50)++FB (l.drop 50):=by
  by_cases h5:50<=l.length
  · exact FB_ge h5
  · rw [FB_lt (by omega) h,List.take_of_length_le (by omega),List.drop_of_length_le (by omega),FB_nil,List.append_nil]
theorem pin_ok {b:By} {p:Nat} {l:List R} (hp:p < b.length) (hb:b.drop p=FB l) (hl:l≠[]):pin b p false=((rtext (l.take 50),p+(F1 (l.take 50)).length,decide (l.length < 50)),0):=by
  have h1:1<=(l.take 50).length/\(l.take 50).length<=50:=by
    have:=List.length_pos_iff.2 hl
    simp;omega
  have hlen:=F1_len h1.2
  have hFB:(FB l).length=b.length - p:=by rw [<-hb];simp
  have hx:dec ((b.drop p).take (min 1006 (b.length - p)))=(rtext (l.take 50),16*(l.take 50).length+6,0):=by
    rw [hb,FB_cons hl,List.take_append]
    rw [FB_cons hl,List.length_append] at hFB
    rw [List.take_of_length_le (by omega)]
    have:=dec_enc (t:=rtext (l.take 50)) (by rw [rtext_len];omega) ((FB (l.drop 50)).take (min 1006 (b.length - p) - (F1 (l.take 50)).length))
    rw [rtext_len] at this;exact this
  unfold pin
  simp only
  rw [hx,if_neg (by simp),if_neg (by rw [rtext_len];rintro (hh | hh | hh | hh)<;>first | omega | cases hh),hlen]
  simp only [rtext_len]
  congr 3
  exact decide_eq_decide.2 (by simp;omega)
/-- a reader over a file of records -/
structure RdAt (b:By) (s:Rs) (m r:List R):Prop where
  text:s.2.1=rtext m
  drop:b.drop s.1=FB r
  le:s.1<=b.length
  short:s.2.2=true->r=[]
theorem FB_pos {l:List R} (h:l≠[]):0 < (FB l).length:=by
  rw [FB_cons h,List.length_append,F1_len (by simp;omega)];omega
theorem rds_at {b:By}:∀ (l m r:List R) (s:Rs),l=m++r->Bd l->RdAt b s m r->Rds b s l 0
  | [],m,r,s,e,_,h=>by
    obtain ⟨rfl,rfl⟩:m=[]/\r=[]:=by simpa using e.symm
    show pnext b s=(s,none,0)
    have h1:=congrArg List.length h.drop
    rw [FB_nil,List.length_drop,List.length_nil] at h1
    unfold pnext
    have ht:s.2.1=[]:=h.text
    rw [if_neg (by omega),if_pos ht]
  | x::l,[],r,s,e,hb,h=>by
    rw [List.nil_append] at e;subst e
    have hlen:=FB_pos (l:=x::l) (by simp)
    have hp:s.1 < b.length:=by
      have h1:=congrArg List.length h.drop
      rw [List.length_drop] at h1;omega
    have hs:s.2.2=false:=by
      cases hh:s.2.2 with
      | false=>rfl
      | true=>exact absurd (h.short hh) (by simp)
    have ht:s.2.1=[]:=h.text
    have hi:=pin_ok hp h.drop (by simp)
    have hx:=hb x List.mem_cons_self
    have etk:(x::l).take 50=x::l.take 49:=rfl
    have edr:(x::l).drop 50=l.drop 49:=rfl
    refine ⟨(s.1+(F1 ((x::l).take 50)).length,rtext (l.take 49),decide ((x::l).length < 50)),?_,?_⟩
    · unfold pnext
      rw [if_pos ⟨ht,hp⟩,hs,hi,if_neg (by simp)]
      simp only [etk,rtext_cons]
      rw [recOf_rb hx,drop_rb]
    · refine rds_at l (l.take 49) (l.drop 49) _ (List.take_append_drop 49 l).symm (fun z hz=>hb z (List.mem_cons_of_mem _ hz)) ⟨rfl,?_,?_,fun hh=>?_⟩
      · show b.drop (s.1+_)=_
        rw [<-List.drop_drop,h.drop,FB_cons (by simp),edr,List.drop_left' rfl]
      · show s.1+_<=_
        have h1:=congrArg List.length h.drop
        rw [FB_cons (by simp),List.length_drop,List.length_append] at h1;omega
      · have:(x::l).length < 50:=by simpa using hh
        exact List.drop_of_length_le (by simp at this;omega)
  | x::l,y::m,r,s,e,hb,h=>by
    rw [List.cons_append,List.cons.injEq] at e
    obtain ⟨rfl,e⟩:=e
    have hx:=hb x List.mem_cons_self
    have hne:s.2.1≠[]:=by rw [h.text,rtext_cons];intro e;have:=congrArg List.length e;simp at this
    refine ⟨(s.1,rtext m,s.2.2),?_,rds_at l m r _ e (fun z hz=>hb z (List.mem_cons_of_mem _ hz)) ⟨rfl,h.drop,h.le,h.short⟩⟩
    unfold pnext
    rw [if_neg (fun hh=>hne hh.1),if_neg hne,h.text,rtext_cons,recOf_rb hx,drop_rb]
theorem rds_FB {l:List R} (hb:Bd l):Rds (FB l) (0,[],false) l 0:=rds_at l [] l _ rfl hb ⟨rfl,rfl,Nat.zero_le _,fun h=>by cases h⟩
/-! ### all of them -/
theorem rloop_all {d:Disk} (hu:d.down=false) {fs:Fs} {n:Nm} {f:Fl} (hn:fget fs n=some f) {e:Nat}:∀ (l acc:List R) (k:Nat) (s:Rs) (o:Int) (a:Nat),Rds f.now s l e->l.length < k->
    (1<=a/\∃o',rloop n f.now.length k s acc (dk d o a fs)=(dn d o' (tornAll fs d.keep),[],7))\/∃o' a',rloop n f.now.length k s acc (dk d o a fs)=(dk d o' a' fs,if e=0 then acc++l else [],e)/\(a=0->a'=0)
  | [],acc,0,s,o,a,_,hk=>absurd hk (Nat.not_lt_zero _)
  | x::l,acc,0,s,o,a,_,hk=>absurd hk (Nat.not_lt_zero _)
  | [],acc,k+1,s,o,a,h,_=>by
    have h:pnext f.now s=(s,none,e):=h
    rw [rloop]
    rcases rnext_pure hu o a hn s with ⟨h1,o',h2⟩ | ⟨o',a',h2,h3⟩
    · left;rw [h2,if_pos (by simp)];exact ⟨h1,o',rfl⟩
    · right
      rw [h2,h]
      by_cases he:e=0
      · subst he;rw [if_neg (by simp),if_pos rfl,List.append_nil];exact ⟨o',a',rfl,h3⟩
      · rw [if_pos (by simpa using he),if_neg he];exact ⟨o',a',rfl,h3⟩
  | x::l,acc,k+1,s,o,a,h,hk=>by
    obtain ⟨s',h,hh⟩:=h
    rw [rloop]
    rcases rnext_pure hu o a hn s with ⟨h1,o',h2⟩ | ⟨o',a',h2,h3⟩
    · left;rw [h2,if_pos (by simp)];exact ⟨h1,o',rfl⟩
    · rw [h2,h,if_neg (by simp)]
      simp only
      rcases rloop_all hu hn l (acc++[x]) k s' o' a' hh (by simpa using hk) with ⟨k1,o2,k2⟩ | ⟨o2,a2,k2,k3⟩
      · exact .inl ⟨by omega,o2,k2⟩
      · exact .inr ⟨o2,a2,by rw [k2];simp,fun e=>k3 (h3 e)⟩
theorem read_all {d:Disk} (hu:d.down=false) (o:Int) (a:Nat) {fs:Fs} {n:Nm} {f:Fl} (hn:fget fs n=some f) {l:List R} (hf:f.now=FB l) (hb:Bd l):
    (1<=a/\∃o',read n (dk d o a fs)=(dn d o' (tornAll fs d.keep),[],7))\/∃o' a',read n (dk d o a fs)=(dk d o' a' fs,l,0)/\(a=0->a'=0):=by
  by_cases a1:a=1
  · subst a1;left
    have h1:(dk d o 1 fs).size n=(dn d (nx o) (tornAll fs d.keep),0,7):=by unfold Disk.size;simp only;rw [mk_fall hu,if_pos dn_down]
    rw [read_bad (by rw [h1];simp),h1]
    exact ⟨Nat.le_refl _,_,rfl⟩
  · have h1:=size_up hu o a fs a1 hn
    rw [read_go (by rw [h1]),h1]
    simp only
    have hk:l.length < rleft f.now.length (0,[],false)+1:=by
      unfold rleft;simp only [List.length_nil];rw [hf,FB_len];split<;>omega
    rcases rloop_all hu hn l [] _ (0,[],false) (nx o) (a - 1) (by rw [hf];exact rds_FB hb) hk with ⟨k1,o2,k2⟩ | ⟨o2,a2,k2,k3⟩
    · exact .inl ⟨by omega,o2,k2⟩
    · exact .inr ⟨o2,a2,by rw [k2];simp,fun e=>k3 (by omega)⟩
end Go.Cg.Rn
end
section
namespace Go.Cg.Xs
set_option linter.unusedVariables false
set_option linter.unusedSimpArgs false
open Go.Cg.Dk Go.Cg.Oc Go.Cg.Rn Go.Cg.Sn

/-! ### how often rows are merged -/
def pgo (f rows:Nat):Nat:=if h:1 < rows/\2<=f then pgo f ((rows - 1) / f+1)+1 else 0
termination_by rows
decreasing_by
  have h1:(rows - 1) / f<=(rows - 1) / 2:=Nat.div_le_div_left h.2 (by omega)
  omega
def passes (n b f:Int):Nat:=if n < 1\/b < 1\/f < 2 then 0 else pgo f.toNat ((n - 1) / b+1).toNat
/-! ### files on the way -/
/-- how many names there were; which files there are -/
abbrev Tm:=Nat×List Nm
def tname (temp:Nm) (k:Nat):Nm:=(temp++[46])++Go.Lib.itoa ((k:Nat):Int)
def gones:List Nm->List Nm->Disk->Disk×List Nm×Nat
  | [],made,d=>(d,made,0)
  | n::l,made,d=>if (d.remove n).2≠0/\(d.remove n).2≠4 then ((d.remove n).1,made,(d.remove n).2) else gones l (made.filter fun m=> !decide (m=n)) (d.remove n).1
def run (temp:Nm) (how:Int) (l:List R) (tm:Tm) (d:Disk):Disk×Tm×Nat:=
  ((write (tname temp (tm.1+1)) (fold how (sort l)) d).1,(tm.1+1,tm.2++[tname temp (tm.1+1)]),(write (tname temp (tm.1+1)) (fold how (sort l)) d).2)
/-- runs of at most so many records -/
def cut (nin:Nm) (sz:Nat) (temp:Nm) (how:Int) (budget:Nat):Nat->Rs->List R->List Nm->Nat->Tm->Disk->Disk×Tm×List Nm×Nat×Nat
  | 0,_,_,names,n,tm,d=>(d,tm,names,n,0)
  | k+1,s,l,names,n,tm,d=>
    if (rnext nin sz s d).2.2.2≠0 then ((rnext nin sz s d).1,tm,[],0,(rnext nin sz s d).2.2.2) else
    match (rnext nin sz s d).2.2.1 with
    | some r=>
      if l.length+1=budget then
        if (run temp how (l++[r]) tm (rnext nin sz s d).1).2.2≠0 then ((run temp how (l++[r]) tm (rnext nin sz s d).1).1,(run temp how (l++[r]) tm (rnext nin sz s d).1).2.1,[],0,(run temp how (l++[r]) tm (rnext nin sz s d).1).2.2)
        else cut nin sz temp how budget k (rnext nin sz s d).2.1 [] (names++[tname temp (tm.1+1)]) (n+1) (run temp how (l++[r]) tm (rnext nin sz s d).1).2.1 (run temp how (l++[r]) tm (rnext nin sz s d).1).1
      else cut nin sz temp how budget k (rnext nin sz s d).2.1 (l++[r]) names (n+1) tm (rnext nin sz s d).1
    | none=>
      if l=[] then ((rnext nin sz s d).1,tm,names,n,0)
      else if (run temp how l tm (rnext nin sz s d).1).2.2≠0 then ((run temp how l tm (rnext nin sz s d).1).1,(run temp how l tm (rnext nin sz s d).1).2.1,[],0,(run temp how l tm (rnext nin sz s d).1).2.2)
      else ((run temp how l tm (rnext nin sz s d).1).1,(run temp how l tm (rnext nin sz s d).1).2.1,names++[tname temp (tm.1+1)],n,0)
/-! ### a merge -/
/-- a reader: the file, its size, where it stands -/
abbrev Rd:=Nm×Nat×Rs
def rd0:Rd:=([],0,(0,[],false))
/-- the next of reader i (from 1 on) goes to the heap -/
def mpush (rs:List Rd) (i:Nat) (hs:List Hd) (d:Disk):Disk×(List Rd×List Hd)×Nat:=
  ((rnext (rs.getD (i - 1) rd0).1 (rs.getD (i - 1) rd0).2.1 (rs.getD (i - 1) rd0).2.2 d).1,
    (rs.set (i - 1) ((rs.getD (i - 1) rd0).1,(rs.getD (i - 1) rd0).2.1,(rnext (rs.getD (i - 1) rd0).1 (rs.getD (i - 1) rd0).2.1 (rs.getD (i - 1) rd0).2.2 d).2.1),
      match (rnext (rs.getD (i - 1) rd0).1 (rs.getD (i - 1) rd0).2.1 (rs.getD (i - 1) rd0).2.2 d).2.2.1 with
      | some r=>hpush hs (r,i)
      | none=>hs),
    (rnext (rs.getD (i - 1) rd0).1 (rs.getD (i - 1) rd0).2.1 (rs.getD (i - 1) rd0).2.2 d).2.2.2)
def mopen:List Nm->List Rd->List Hd->Disk->Disk×(List Rd×List Hd)×Nat
  | [],rs,hs,d=>(d,(rs,hs),0)
  | n::ns,rs,hs,d=>
    if (d.size n).2.2≠0 then ((d.size n).1,(rs,hs),(d.size n).2.2) else
    if (mpush (rs++[(n,(d.size n).2.1,(0,[],false))]) (rs.length+1) hs (d.size n).1).2.2≠0 then mpush (rs++[(n,(d.size n).2.1,(0,[],false))]) (rs.length+1) hs (d.size n).1
    else mopen ns (mpush (rs++[(n,(d.size n).2.1,(0,[],false))]) (rs.length+1) hs (d.size n).1).2.1.1 (mpush (rs++[(n,(d.size n).2.1,(0,[],false))]) (rs.length+1) hs (d.size n).1).2.1.2 (mpush (rs++[(n,(d.size n).2.1,(0,[],false))]) (rs.length+1) hs (d.size n).1).1
/-- the last one goes out, and the file is shut -/
def mend (out:Nm) (last:Option R) (t:By) (d:Disk):Disk×Nat:=
  match last with
  | none=>wclose out t d
  | some z=>if (wput out z t d).2.2≠0 then ((wput out z t d).1,(wput out z t d).2.2) else wclose out (wput out z t d).2.1 (wput out z t d).1
def mloop (how:Int) (out:Nm):Nat->List Rd->List Hd->Option R->By->Disk->Disk×Nat
  | 0,_,_,_,_,d=>(d,0)
  | k+1,rs,hs,last,t,d=>
    if hs=[] then mend out last t d else
    if (mpush rs (hg hs 0).2 (hpop hs) d).2.2≠0 then ((mpush rs (hg hs 0).2 (hpop hs) d).1,(mpush rs (hg hs 0).2 (hpop hs) d).2.2) else
    match last with
    | none=>mloop how out k (mpush rs (hg hs 0).2 (hpop hs) d).2.1.1 (mpush rs (hg hs 0).2 (hpop hs) d).2.1.2 (some (hg hs 0).1) t (mpush rs (hg hs 0).2 (hpop hs) d).1
    | some z=>
      if how≠0/\z.1=(hg hs 0).1.1 then mloop how out k (mpush rs (hg hs 0).2 (hpop hs) d).2.1.1 (mpush rs (hg hs 0).2 (hpop hs) d).2.1.2 (some (z.1,comb how z.2 (hg hs 0).1.2)) t (mpush rs (hg hs 0).2 (hpop hs) d).1 else
      if (wput out z t (mpush rs (hg hs 0).2 (hpop hs) d).1).2.2≠0 then ((wput out z t (mpush rs (hg hs 0).2 (hpop hs) d).1).1,(wput out z t (mpush rs (hg hs 0).2 (hpop hs) d).1).2.2) else
      mloop how out k (mpush rs (hg hs 0).2 (hpop hs) d).2.1.1 (mpush rs (hg hs 0).2 (hpop hs) d).2.1.2 (some (hg hs 0).1) (wput out z t (mpush rs (hg hs 0).2 (hpop hs) d).1).2.1 (wput out z t (mpush rs (hg hs 0).2 (hpop hs) d).1).1
section
variable {how:Int} {out:Nm} {k:Nat} {rs:List Rd} {hs:List Hd} {last:Option R} {z:R} {t:By} {d:Disk}
theorem mloop_end (h:hs=[]):mloop how out (k+1) rs hs last t d=mend out last t d:=by cases last<;>exact if_pos h
theorem mloop_bad (h:hs≠[]) (e:(mpush rs (hg hs 0).2 (hpop hs) d).2.2≠0):mloop how out (k+1) rs hs last t d=((mpush rs (hg hs 0).2 (hpop hs) d).1,(mpush rs (hg hs 0).2 (hpop hs) d).2.2):=by cases last<;>exact (if_neg h).trans (if_pos e)
theorem mloop_first (h:hs≠[]) (e:(mpush rs (hg hs 0).2 (hpop hs) d).2.2=0):mloop how out (k+1) rs hs none t d=mloop how out k (mpush rs (hg hs 0).2 (hpop hs) d).2.1.1 (mpush rs (hg hs 0).2 (hpop hs) d).2.1.2 (some (hg hs 0).1) t (mpush rs (hg hs 0).2 (hpop hs) d).1:=(if_neg h).trans (if_neg (fun c=>c e))
theorem mloop_comb (h:hs≠[]) (e:(mpush rs (hg hs 0).2 (hpop hs) d).2.2=0) (c:how≠0/\z.1=(hg hs 0).1.1):mloop how out (k+1) rs hs (some z) t d=mloop how out k (mpush rs (hg hs 0).2 (hpop hs) d).2.1.1 (mpush rs (hg hs 0).2 (hpop hs) d).2.1.2 (some (z.1,comb how z.2 (hg hs 0).1.2)) t (mpush rs (hg hs 0).2 (hpop hs) d).1:=((if_neg h).trans (if_neg (fun c=>c e))).trans (if_pos c)
theorem mloop_wbad (h:hs≠[]) (e:(mpush rs (hg hs 0).2 (hpop hs) d).2.2=0) (c:¬ (how≠0/\z.1=(hg hs 0).1.1)) (b:(wput out z t (mpush rs (hg hs 0).2 (hpop hs) d).1).2.2≠0):mloop how out (k+1) rs hs (some z) t d=((wput out z t (mpush rs (hg hs 0).2 (hpop hs) d).1).1,(wput out z t (mpush rs (hg hs 0).2 (hpop hs) d).1).2.2):=(((if_neg h).trans (if_neg (fun c=>c e))).trans (if_neg c)).trans (if_pos b)
theorem mloop_put (h:hs≠[]) (e:(mpush rs (hg hs 0).2 (hpop hs) d).2.2=0) (c:¬ (how≠0/\z.1=(hg hs 0).1.1)) (b:(wput out z t (mpush rs (hg hs 0).2 (hpop hs) d).1).2.2=0):mloop how out (k+1) rs hs (some z) t d=mloop how out k (mpush rs (hg hs 0).2 (hpop hs) d).2.1.1 (mpush rs (hg hs 0).2 (hpop hs) d).2.1.2 (some (hg hs 0).1) (wput out z t (mpush rs (hg hs 0).2 (hpop hs) d).1).2.1 (wput out z t (mpush rs (hg hs 0).2 (hpop hs) d).1).1:=(((if_neg h).trans (if_neg (fun c=>c e))).trans (if_neg c)).trans (if_neg (fun c=>c b))
end
/-- what is left to be merged, at most -/
def mleft (rs:List Rd) (hs:List Hd):Nat:=(rs.map fun e=>rleft e.2.1 e.2.2).sum+hs.length
def merge (how:Int) (out:Nm) (ns:List Nm) (d:Disk):Disk×Nat:=
  if (mopen ns [] [] d).2.2≠0 then ((mopen ns [] [] d).1,(mopen ns [] [] d).2.2) else
  if ((mopen ns [] [] d).1.create out).2≠0 then (mopen ns [] [] d).1.create out else
  mloop how out (mleft (mopen ns [] [] d).2.1.1 (mopen ns [] [] d).2.1.2+1) (mopen ns [] [] d).2.1.1 (mopen ns [] [] d).2.1.2 none [] ((mopen ns [] [] d).1.create out).1
/-! ### all of it -/
def chunk {α:Type} (f:Nat) (l:List α):List (List α):=if h:l=[]\/f=0 then [] else l.take f::chunk f (l.drop f)
termination_by l.length
decreasing_by
  have:=List.length_pos_iff.2 (fun e=>h (.inl e))
  simp;omega
def pass (how:Int) (temp:Nm):List (List Nm)->List Nm->Tm->Disk->Disk×Tm×List Nm×Nat
  | [],nx,tm,d=>(d,tm,nx,0)
  | p::ps,nx,tm,d=>
    if (merge how (tname temp (tm.1+1)) p d).2≠0 then ((merge how (tname temp (tm.1+1)) p d).1,(tm.1+1,tm.2++[tname temp (tm.1+1)]),nx,(merge how (tname temp (tm.1+1)) p d).2) else
    if (gones p (tm.2++[tname temp (tm.1+1)]) (merge how (tname temp (tm.1+1)) p d).1).2.2≠0 then
      ((gones p (tm.2++[tname temp (tm.1+1)]) (merge how (tname temp (tm.1+1)) p d).1).1,(tm.1+1,(gones p (tm.2++[tname temp (tm.1+1)]) (merge how (tname temp (tm.1+1)) p d).1).2.1),nx,(gones p (tm.2++[tname temp (tm.1+1)]) (merge how (tname temp (tm.1+1)) p d).1).2.2)
    else pass how temp ps (nx++[tname temp (tm.1+1)]) (tm.1+1,(gones p (tm.2++[tname temp (tm.1+1)]) (merge how (tname temp (tm.1+1)) p d).1).2.1) (gones p (tm.2++[tname temp (tm.1+1)]) (merge how (tname temp (tm.1+1)) p d).1).1
def levels (how:Int) (temp:Nm) (fan:Nat):Nat->List Nm->Tm->Disk->Disk×Tm×List Nm×Nat
  | 0,names,tm,d=>(d,tm,names,0)
  | k+1,names,tm,d=>
    if names.length<=1 then (d,tm,names,0) else
    if (pass how temp (chunk fan names) [] tm d).2.2.2≠0 then pass how temp (chunk fan names) [] tm d else
    levels how temp fan k (pass how temp (chunk fan names) [] tm d).2.2.1 (pass how temp (chunk fan names) [] tm d).2.1 (pass how temp (chunk fan names) [] tm d).1
/-- behind the runs -/
def ends (out:Nm) (names:List Nm) (p:Nat) (tm:Tm) (d:Disk):Disk×Tm×Nat×Nat:=
  match names with
  | []=>((write out [] d).1,tm,0,(write out [] d).2)
  | a::_=>if (d.rename a out).2≠0 then ((d.rename a out).1,tm,0,(d.rename a out).2) else ((d.rename a out).1,(tm.1,[]),p,0)
def all (nin:Nm) (sz:Nat) (out temp:Nm) (how:Int) (budget fan:Nat) (d:Disk):Disk×Tm×Nat×Nat:=
  let c:=cut nin sz temp how budget (rleft sz (0,[],false)+1) (0,[],false) [] [] 0 (0,[]) d
  if c.2.2.2.2≠0 then (c.1,c.2.1,0,c.2.2.2.2) else
  let v:=levels how temp fan c.2.2.1.length c.2.2.1 c.2.1 c.1
  if v.2.2.2≠0 then (v.1,v.2.1,0,v.2.2.2) else
  ends out v.2.2.1 (passes c.2.2.2.1 budget fan) v.2.1 v.1
def sortD (nin out temp:Nm) (budget fan how:Int) (d:Disk):Disk×Nat×Nat:=
  if budget < 1\/fan < 2\/how < 0\/2 < how then (d,0,1) else
  if (d.size nin).2.2≠0 then ((d.size nin).1,0,(d.size nin).2.2) else
  let d1:=(d.size nin).1
  if (d1.create out).2≠0 then ((d1.create out).1,0,(d1.create out).2) else
  if ((d1.create out).1.remove out).2≠0 then (((d1.create out).1.remove out).1,0,((d1.create out).1.remove out).2) else
  let x:=all nin (d.size nin).2.1 out temp how budget.toNat fan.toNat ((d1.create out).1.remove out).1
  if x.2.2.2≠0 then ((gones (x.2.1.2++[out]) x.2.1.2 x.1).1,0,x.2.2.2) else (x.1,x.2.2.1,0)
end Go.Cg.Xs
end
section
namespace Go.Cg.Rn
set_option linter.unusedVariables false
set_option linter.unusedSimpArgs false
open Go.Cg.Dk Go.Cg.Oc

theorem comb_comm (how:Int) (a b:Nat):comb how a b=comb how b a:=by unfold comb;split<;>omega
theorem comb_assoc (how:Int) (a b c:Nat):comb how (comb how a b) c=comb how a (comb how b c):=by unfold comb;split<;>omega
def oc (how:Int):Option Nat->Option Nat->Option Nat
  | none,y=>y
  | some a,none=>some a
  | some a,some b=>some (comb how a b)
@[simp] theorem oc_none (how:Int) (x:Option Nat):oc how x none=x:=by cases x<;>rfl
@[simp] theorem none_oc (how:Int) (x:Option Nat):oc how none x=x:=rfl
theorem oc_assoc (how:Int) (x y z:Option Nat):oc how (oc how x y) z=oc how x (oc how y z):=by
  cases x<;>cases y<;>cases z<;>simp [oc,comb_assoc]
theorem oc_comm (how:Int) (x y:Option Nat):oc how x y=oc how y x:=by
  cases x<;>cases y<;>simp [oc,comb_comm]
/-- all values of a key -/
def agg (how:Int):List R->Nat->Option Nat
  | [],_=>none
  | r::l,k=>if r.1=k then oc how (some r.2) (agg how l k) else agg how l k
theorem agg_app (how:Int) (k:Nat):∀ l m:List R,agg how (l++m) k=oc how (agg how l k) (agg how m k)
  | [],m=>rfl
  | r::l,m=>by
    rw [List.cons_append,agg,agg,agg_app how k l m]
    split
    · rw [oc_assoc]
    · rfl
theorem agg_perm {how:Int} {k:Nat} {l m:List R} (h:l.Perm m):agg how l k=agg how m k:=by
  induction h with
  | nil=>rfl
  | cons x _ ih=>rw [agg,agg,ih]
  | swap x y l=>
    rw [agg,agg,agg,agg]
    by_cases h1:x.1=k<;>by_cases h2:y.1=k
    · simp only [if_pos h1,if_pos h2];rw [<-oc_assoc,<-oc_assoc,oc_comm how (some y.2)]
    · simp only [if_pos h1,if_neg h2]
    · simp only [if_neg h1,if_pos h2]
    · simp only [if_neg h1,if_neg h2]
  | trans _ _ h1 h2=>exact h1.trans h2
theorem agg_no {how:Int} {k:Nat}:∀ {l:List R},(∀ z∈l,z.1≠k)->agg how l k=none
  | [],_=>rfl
  | r::l,h=>by rw [agg,if_neg (h r List.mem_cons_self)];exact agg_no fun z hz=>h z (List.mem_cons_of_mem _ hz)
theorem agg_one (how:Int) (r:R) (k:Nat):agg how [r] k=if r.1=k then some r.2 else none:=by
  rw [agg];split<;>rfl
theorem agg_fput {how:Int} (hh:how≠0) (l:List R) (r:R) (k:Nat):agg how (fput how l r) k=agg how (l++[r]) k:=by
  unfold fput
  cases hl:l.getLast? with
  | none=>rw [List.getLast?_eq_none_iff.1 hl];rfl
  | some z=>
    simp only
    obtain ⟨q,rfl⟩:=List.getLast?_eq_some_iff.1 hl
    split
    · rename_i hk
      rw [List.dropLast_concat,agg_app,agg_app,agg_app,agg_one,agg_one,agg_one,oc_assoc,<-hk.2]
      by_cases e:z.1=k
      · rw [if_pos e,if_pos e,if_pos e];rfl
      · rw [if_neg e,if_neg e,if_neg e];rfl
    · rfl
theorem agg_fold {how:Int} (hh:how≠0) (l:List R) (k:Nat):agg how (fold how l) k=agg how l k:=by
  have key:∀ (l m:List R),agg how (l.foldl (fput how) m) k=agg how (m++l) k:=by
    intro l
    induction l with
    | nil=>intro m;simp
    | cons x l ih=>intro m;rw [List.foldl_cons,ih,agg_app,agg_fput hh,<-agg_app,List.append_assoc];rfl
  exact key l []
/-- keys rise -/
abbrev KUp (l:List R):Prop:=l.Pairwise fun a b=>a.1 < b.1
theorem fput_keys {how:Int} {l:List R} {r z:R} (h:z∈fput how l r):z.1=r.1\/∃y∈l,y.1=z.1:=by
  unfold fput at h
  cases hl:l.getLast? with
  | none=>rw [hl] at h;exact .inl (by rw [List.mem_singleton.1 h])
  | some x=>
    rw [hl] at h
    simp only at h
    split at h
    · rename_i hk
      rcases List.mem_append.1 h with h | h
      · exact .inr ⟨z,List.dropLast_subset _ h,rfl⟩
      · rw [List.mem_singleton.1 h];exact .inl hk.2
    · rcases List.mem_append.1 h with h | h
      · exact .inr ⟨z,h,rfl⟩
      · rw [List.mem_singleton.1 h];exact .inl rfl
theorem fput_kup {how:Int} (hh:how≠0) {l:List R} {r:R} (h:KUp l) (hr:∀ z∈l,z.1<=r.1):KUp (fput how l r):=by
  unfold fput
  cases hl:l.getLast? with
  | none=>simp
  | some z=>
    simp only
    obtain ⟨q,rfl⟩:=List.getLast?_eq_some_iff.1 hl
    obtain ⟨h1,_,h3⟩:=List.pairwise_append.1 h
    have hz:z.1<=r.1:=hr z (by simp)
    have hqz:∀ a∈q,a.1 < z.1:=fun a ha=>h3 a ha z (by simp)
    split
    · rw [List.dropLast_concat]
      exact List.pairwise_append.2 ⟨h1,by simp,fun a ha b hb=>by rw [List.mem_singleton.1 hb];exact hqz a ha⟩
    · rename_i hk
      have hlt:z.1 < r.1:=by
        rcases Nat.lt_or_ge z.1 r.1 with h | h
        · exact h
        · exact absurd ⟨hh,by omega⟩ hk
      refine List.pairwise_append.2 ⟨h,by simp,fun a ha b hb=>?_⟩
      rw [List.mem_singleton.1 hb]
      rcases List.mem_append.1 ha with ha | ha
      · exact Nat.lt_trans (hqz a ha) hlt
      · rw [List.mem_singleton.1 ha];exact hlt
theorem fold_kup {how:Int} (hh:how≠0) {l:List R} (h:Up l):KUp (fold how l):=by
  have key:∀ (l m:List R),Up l->KUp m->(∀ a∈m,∀ b∈l,a.1<=b.1)->KUp (l.foldl (fput how) m):=by
    intro l
    induction l with
    | nil=>exact fun m _ h _=>h
    | cons x l ih=>
      intro m hu hm hle
      obtain ⟨h1,h2⟩:=List.pairwise_cons.1 hu
      refine ih _ h2 (fput_kup hh hm fun z hz=>hle z hz x List.mem_cons_self) fun a ha b hb=>?_
      have hxb:x.1<=b.1:=by have:=h1 b hb;rw [ltb_not] at this;omega
      rcases fput_keys ha with e | ⟨y,hy,e⟩
      · rw [e];exact hxb
      · rw [<-e];exact hle y hy b (List.mem_cons_of_mem _ hb)
  exact key l [] h List.Pairwise.nil (fun a ha=>by cases ha)
theorem kup_one {how:Int}:∀ {l m:List R},KUp l->KUp m->(∀ k,agg how l k=agg how m k)->l=m
  | [],[],_,_,_=>rfl
  | x::l,[],_,_,h=>by
    have h2:oc how (some x.2) (agg how l x.1)=none:=by have:=h x.1;simpa [agg] using this
    cases hx:agg how l x.1<;>rw [hx] at h2<;>cases h2
  | [],y::m,_,_,h=>by
    have h2:none=oc how (some y.2) (agg how m y.1):=by have:=h y.1;simpa [agg] using this
    cases hx:agg how m y.1<;>rw [hx] at h2<;>cases h2
  | x::l,y::m,hl,hm,h=>by
    obtain ⟨l1,l2⟩:=List.pairwise_cons.1 hl
    obtain ⟨m1,m2⟩:=List.pairwise_cons.1 hm
    have lx:agg how l x.1=none:=agg_no fun z hz=>by have:=l1 z hz;omega
    have my:agg how m y.1=none:=agg_no fun z hz=>by have:=m1 z hz;omega
    have hxy:x.1=y.1:=by
      rcases Nat.lt_trichotomy x.1 y.1 with hlt | e | hlt
      · have h1:=h x.1
        rw [agg,if_pos rfl,lx,agg_no (l:=y::m) (fun z hz=>by rcases List.mem_cons.1 hz with rfl | hz;(omega);(have:=m1 z hz;omega))] at h1
        cases h1
      · exact e
      · have h1:=h y.1
        rw [agg_no (l:=x::l) (fun z hz=>by rcases List.mem_cons.1 hz with rfl | hz;(omega);(have:=l1 z hz;omega)),agg,if_pos rfl,my] at h1
        cases h1
    have hv:x.2=y.2:=by
      have h1:=h x.1
      rw [agg,if_pos rfl,lx,agg,if_pos hxy.symm,hxy,my] at h1
      exact Option.some.inj h1
    have e:x=y:=Prod.ext hxy hv
    subst e
    have et:l=m:=kup_one l2 m2 fun k=>by
      by_cases e:x.1=k
      · rw [<-e,lx,my]
      · have:=h k;rwa [agg,agg,if_neg e,if_neg e] at this
    rw [et]
theorem fold_eq {how:Int} (hh:how≠0) {l m:List R} (h:∀ k,agg how l k=agg how m k):fold how (sort l)=fold how (sort m):=
  kup_one (how:=how) (fold_kup hh (sort_up l)) (fold_kup hh (sort_up m)) fun k=>by rw [agg_fold hh,agg_fold hh,agg_perm (sort_perm l),agg_perm (sort_perm m),h k]
theorem fold_self {how:Int} (hh:how≠0) {l:List R} (h:KUp l):fold how (sort l)=l:=
  kup_one (how:=how) (fold_kup hh (sort_up l)) h fun k=>by rw [agg_fold hh,agg_perm (sort_perm l)]
/-! ### the table in memory -/
theorem tlook_none {k:Nat}:∀ {l:List R},tlook l k=none->∀ z∈l,z.1≠k
  | [],_,z,hz=>by cases hz
  | p::l,h,z,hz=>by
    unfold tlook at h;split at h
    · cases h
    · rename_i hk
      rcases List.mem_cons.1 hz with rfl | hz
      · exact fun e=>hk e.symm
      · exact tlook_none h z hz
theorem tlook_mem {k v:Nat}:∀ {l:List R},tlook l k=some v->k∈l.map (·.1)
  | [],h=>by simp [tlook] at h
  | p::l,h=>by
    unfold tlook at h;split at h
    · rename_i hk;simp [hk]
    · simp [tlook_mem h]
end Go.Cg.Rn
end
section
namespace Go.Cg.Xs
set_option linter.unusedVariables false
set_option linter.unusedSimpArgs false
open Go.Cg.Dk Go.Cg.Oc Go.Cg.Sn Go.Cg.Cl
open Go.Cg.Rn hiding HeapOk MInv NextP UpEx DnEx lst

/-! ### sizes -/
/-- the sectors of a file of so many records -/
def secN (n:Nat):Nat:=sectors (806*(n / 50)+(if n%50=0 then 0 else 16*(n%50)+6))
theorem sec_FBn (l:List R):sectors (FB l).length=secN l.length:=by rw [FB_len];rfl
theorem secN_mono {a b:Nat} (h:a<=b):secN a<=secN b:=by
  unfold secN sectors
  split<;>split<;>omega
theorem secN_le (n:Nat):secN n<=2*n:=by unfold secN sectors;split<;>omega
theorem sec_full (l:List R):sectors (full l).length<=secN l.length:=by
  rw [full_len];unfold secN sectors;split<;>omega
@[simp] theorem secN_zero:secN 0=0:=rfl
/-! ### what a reader tells -/
theorem pnext_ok {b:By} {s:Rs} (ho:RsOk b.length s):RsOk b.length (pnext b s).1/\((pnext b s).2.1.isSome=true->rleft b.length (pnext b s).1 < rleft b.length s):=by
  have hn:fget (Dk.fput [] [97] ⟨b,b⟩) [97]=some ⟨b,b⟩:=by rw [fget_fput,if_pos rfl]
  rcases rnext_pure (d:=fresh 0) rfl 0 0 hn s with ⟨h1,_⟩ | ⟨o',a',h2,h3⟩
  · omega
  · have hN:=ho.next (n:=[97]) (d:=dk (fresh 0) 0 0 (Dk.fput [] [97] ⟨b,b⟩))
    have h2:rnext [97] b.length s (dk (fresh 0) 0 0 (Dk.fput [] [97] ⟨b,b⟩))=(dk (fresh 0) o' a' (Dk.fput [] [97] ⟨b,b⟩),pnext b s):=h2
    rw [h2] at hN
    simp only at hN
    exact hN
theorem rds_len {b:By} {e:Nat}:∀ (l:List R) (s:Rs),RsOk b.length s->Rds b s l e->l.length<=rleft b.length s
  | [],_,_,_=>Nat.zero_le _
  | r::l,s,ho,h=>by
    obtain ⟨s',h1,h2⟩:=h
    have h3:=pnext_ok ho
    rw [h1] at h3
    have h4:=rds_len l s' h3.1 h2
    have h5:=h3.2 rfl
    simp only [List.length_cons] at *
    omega
/-- readers, and what is left in each -/
structure RR (fs:Fs) (out:Nm) (rs:List Rd) (rq:List (List R)):Prop where
  lt:rs.length < rq.length
  ats:∀ j,j < rs.length->∃f,fget fs (rs.getD j rd0).1=some f/\(rs.getD j rd0).2.1=f.now.length/\Rds f.now (rs.getD j rd0).2.2 (rg rq (j+1)) 0/\RsOk f.now.length (rs.getD j rd0).2.2/\(rs.getD j rd0).1≠out
theorem RR.off {fs fs':Fs} {out:Nm} {rs:List Rd} {rq:List (List R)} (h:RR fs out rs rq) (hf:∀ m,m≠out->fget fs' m=fget fs m):RR fs' out rs rq:=
  ⟨h.lt,fun j hj=>by obtain ⟨f,h1,h2,h3,h4,h5⟩:=h.ats j hj;exact ⟨f,by rw [hf _ h5];exact h1,h2,h3,h4,h5⟩⟩
theorem getD_set {α:Type} {l:List α} {i j:Nat} {x z:α} (h:i < l.length):(l.set i x).getD j z=if j=i then x else l.getD j z:=by
  rw [List.getD_eq_getElem?_getD,List.getD_eq_getElem?_getD,List.getElem?_set]
  by_cases e:i=j
  · subst e;simp [h]
  · rw [if_neg e,if_neg (fun h=>e h.symm)]
theorem getD_snoc {α:Type} {l:List α} {j:Nat} {x z:α}:(l++[x]).getD j z=if j=l.length then x else l.getD j z:=by
  rw [List.getD_eq_getElem?_getD,List.getD_eq_getElem?_getD]
  by_cases e:j=l.length
  · subst e;simp
  · rw [if_neg e]
    by_cases h:j < l.length
    · rw [List.getElem?_append_left h]
    · rw [List.getElem?_append_right (by omega),List.getElem?_eq_none (by simp;omega),List.getElem?_eq_none (by omega)]
theorem RR.left {fs:Fs} {out:Nm} {rs:List Rd} {rq:List (List R)} (h:RR fs out rs rq) (hl:rq.length=rs.length+1) (h0:rg rq 0=[]):rq.flatten.length<=(rs.map fun e=>rleft e.2.1 e.2.2).sum:=by
  have key:∀ (rs:List Rd) (ql:List (List R)),ql.length=rs.length->(∀ j,j < rs.length->(ql.getD j []).length<=rleft (rs.getD j rd0).2.1 (rs.getD j rd0).2.2)->ql.flatten.length<=(rs.map fun e=>rleft e.2.1 e.2.2).sum:=by
    intro rs
    induction rs with
    | nil=>intro ql hq _;rw [List.eq_nil_of_length_eq_zero hq];simp
    | cons e rs ih=>
      intro ql hq hh
      cases ql with
      | nil=>simp at hq
      | cons l ql=>
        have h1:=ih ql (by simpa using hq) (fun j hj=>by have:=hh (j+1) (by simpa using hj);simpa using this)
        have h2:=hh 0 (by simp)
        simp only [List.getD_cons_zero] at h2
        simp only [List.flatten_cons,List.length_append,List.map_cons,List.sum_cons]
        omega
  cases rq with
  | nil=>simp at hl
  | cons q0 ql=>
    have e0:q0=[]:=h0
    subst e0
    rw [List.flatten_cons,List.nil_append]
    refine key rs ql (by simpa using hl) fun j hj=>?_
    obtain ⟨f,h1,h2,h3,h4,h5⟩:=h.ats j hj
    rw [h2]
    exact rds_len _ _ h4 h3
section
variable {d:Disk} (hu:d.down=false)
include hu
theorem mpush_go (o:Int) (a:Nat) {fs:Fs} {out:Nm} {rs:List Rd} {rq:List (List R)} {hs:List Hd} {i:Nat} (h:RR fs out rs rq) (hi:1<=i/\i<=rs.length) (hok:HeapOk hs):
    (1<=a/\∃o' X,mpush rs i hs (dk d o a fs)=(dn d o' (tornAll fs d.keep),X,7))\/
    ∃o' a' rs' hs' rq',mpush rs i hs (dk d o a fs)=(dk d o' a' fs,(rs',hs'),0)/\(a=0->a'=0)/\NextP hs rq i hs' rq'/\RR fs out rs' rq'/\rs'.length=rs.length:=by
  obtain ⟨f,h1,h2,h3,h4,h5⟩:=h.ats (i - 1) (by omega)
  rw [show i - 1+1=i from by omega] at h3
  have hlt:=h.lt
  unfold mpush
  rw [h2]
  generalize hs0:(rs.getD (i - 1) rd0).2.2=s at h3 h4 ⊢
  rcases rnext_pure hu o a h1 s with ⟨k1,o',k2⟩ | ⟨o',a',k2,k3⟩
  · left;rw [k2];exact ⟨k1,o',_,rfl⟩
  · right
    have hoff:∀ (s':Rs) (rq':List (List R)),rq'.length=rq.length->(∀ j,j≠i->rg rq' j=rg rq j)->Rds f.now s' (rg rq' i) 0->RsOk f.now.length s'->RR fs out (rs.set (i - 1) ((rs.getD (i - 1) rd0).1,f.now.length,s')) rq':=by
      intro s' rq' e1 e2 e3 e4
      refine ⟨by simp;omega,fun j hj=>?_⟩
      rw [List.length_set] at hj
      rw [getD_set (by omega)]
      by_cases e:j=i - 1
      · rw [if_pos e]
        exact ⟨f,h1,rfl,by rw [e,show i - 1+1=i from by omega];exact e3,e4,h5⟩
      · rw [if_neg e,e2 _ (by omega)]
        exact h.ats j hj
    have hpk:=pnext_ok h4
    cases hq:rg rq i with
    | nil=>
      rw [hq] at h3
      have h3:pnext f.now s=(s,none,0):=h3
      rw [k2,h3]
      exact ⟨o',a',_,hs,rq,rfl,k3,.inl ⟨hq,rfl,rfl⟩,hoff s rq rfl (fun _ _=>rfl) (by rw [hq];exact h3) h4,by simp⟩
    | cons r q=>
      rw [hq] at h3
      obtain ⟨s',h6,h7⟩:=h3
      rw [h6] at hpk
      rw [k2,h6]
      obtain ⟨p1,p2⟩:=hpush_ok hok (r,i)
      refine ⟨o',a',_,hpush hs (r,i),rq.set i q,rfl,k3,.inr ⟨r,q,hq,p1,p2,rfl⟩,hoff s' _ (by simp) (fun j hj=>by rw [rg_set (by omega),if_neg hj]) (by rw [rg_set (by omega),if_pos rfl];exact h7) hpk.1,by simp⟩
/-- all readers are opened -/
theorem mopen_go {fs:Fs} {out:Nm}:∀ (ns:List Nm) (ls:List (List R)) (o:Int) (a:Nat) (rs:List Rd) (hs:List Hd) (rq:List (List R)) (all:List R),
    ns.length=ls.length->(∀ j,j < ns.length->∃f,fget fs (ns.getD j [])=some f/\f.now=FB (ls.getD j [])/\Bd (ls.getD j [])/\Up (ls.getD j [])/\ns.getD j []≠out)->
    RR fs out rs rq->MInv all [] hs rq rq.length->rq.length=rs.length+ns.length+1->(∀ j,j=0\/rs.length < j->rg rq j=[])->(∀ h∈hs,1<=h.2/\h.2<=rs.length)->
    (1<=a/\∃o' X,mopen ns rs hs (dk d o a fs)=(dn d o' (tornAll fs d.keep),X,7))\/
    ∃o' a' rs' hs' rq',mopen ns rs hs (dk d o a fs)=(dk d o' a' fs,(rs',hs'),0)/\(a=0->a'=0)/\RR fs out rs' rq'/\MInv (all++ls.flatten) [] hs' rq' rq'.length/\rq'.length=rs'.length+1/\(∀ h∈hs',1<=h.2)/\rg rq' 0=[]
  | [],ls,o,a,rs,hs,rq,all,hl,_,hR,hM,hq,hz,hh=>by
    have e:ls=[]:=List.eq_nil_of_length_eq_zero hl.symm
    subst e
    exact .inr ⟨o,a,rs,hs,rq,rfl,id,hR,by simpa using hM,by simpa using hq,fun h hm=>(hh h hm).1,hz 0 (.inl rfl)⟩
  | n::ns,[],_,_,_,_,_,_,hl,_,_,_,_,_,_=>by simp at hl
  | n::ns,l::ls,o,a,rs,hs,rq,all,hl,hf,hR,hM,hq,hz,hh=>by
    obtain ⟨f,h1,h2,h3,h4,h5⟩:=hf 0 (by simp)
    simp only [List.getD_cons_zero] at h1 h2 h3 h4 h5
    rw [mopen]
    by_cases a1:a=1
    · subst a1;left
      have e:(dk d o 1 fs).size n=(dn d (nx o) (tornAll fs d.keep),0,7):=by unfold Disk.size;simp only;rw [mk_fall hu,if_pos dn_down]
      rw [e,if_pos (by simp)]
      exact ⟨Nat.le_refl _,_,_,rfl⟩
    have e:=size_up hu o a fs a1 h1
    rw [e,if_neg (by simp)]
    simp only
    simp only [List.length_cons] at hq
    have hsl:sort l=l:=sort_eq (List.Perm.refl l) h4
    have m1:=hM.run (i:=rs.length+1) (l:=l) (Nat.le_refl _) (by omega) (hz _ (.inr (by omega))) (fun h hm=>by have:=(hh h hm).2;omega)
    rw [hsl] at m1
    have R1:RR fs out (rs++[(n,f.now.length,(0,[],false))]) (rq.set (rs.length+1) l):=by
      refine ⟨by simp;omega,fun j hj=>?_⟩
      rw [getD_snoc]
      by_cases ej:j=rs.length
      · rw [if_pos ej,ej,rg_set (by omega),if_pos rfl]
        exact ⟨f,h1,rfl,by rw [h2];exact rds_FB h3,RsOk.start _,h5⟩
      · rw [if_neg ej,rg_set (by omega),if_neg (by omega)]
        exact hR.ats j (by simp at hj;omega)
    rcases mpush_go hu (nx o) (a - 1) R1 (i:=rs.length+1) (by simp) hM.ok with ⟨k1,o',X,k2⟩ | ⟨o',a',rs',hs',rq',k2,k3,k4,k5,k6⟩
    · left;rw [k2,if_pos (by simp)];exact ⟨by omega,o',X,rfl⟩
    · rw [k2,if_neg (by simp)]
      simp only
      have hlq:rq'.length=rq.length:=by rw [k4.len];simp
      have hrl:rs'.length=rs.length+1:=by simpa using k6
      have m2:=m1.next (by simp;omega) k4 rq'.length (by rw [k4.len];exact Nat.le_refl _)
      have hz2:∀ j,j=0\/rs'.length < j->rg rq' j=[]:=by
        intro j hj
        rcases k4 with ⟨_,_,rfl⟩ | ⟨r,q,_,_,_,rfl⟩
        · rw [rg_set (by omega),if_neg (by omega)];exact hz j (by omega)
        · rw [rg_set (by simp;omega),if_neg (by omega),rg_set (by omega),if_neg (by omega)];exact hz j (by omega)
      have hh2:∀ h∈hs',1<=h.2/\h.2<=rs'.length:=by
        intro h hm
        rcases k4 with ⟨_,rfl,_⟩ | ⟨r,q,_,_,hp,_⟩
        · have:=hh h hm;omega
        · rcases List.mem_cons.1 (hp.mem_iff.1 hm) with rfl | hm
          · simp;omega
          · have:=hh h hm;omega
      rcases mopen_go ns ls o' a' rs' hs' rq' (all++l) (by simpa using hl) (fun j hj=>by have:=hf (j+1) (by simpa using hj);simpa using this) k5 m2 (by omega) hz2 hh2 with ⟨j1,o2,X,j2⟩ | ⟨o2,a2,rs2,hs2,rq2,j2,j3,j4,j5,j6,j7,j8⟩
      · exact .inl ⟨by omega,o2,X,j2⟩
      · exact .inr ⟨o2,a2,rs2,hs2,rq2,j2,fun e=>j3 (k3 (by omega)),j4,by rw [List.flatten_cons,<-List.append_assoc];exact j5,j6,j7,j8⟩
end
/-- what is written of what came so far -/
def LastOk (how:Int) (p:List R) (last:Option R) (W:List R):Prop:=(last=none/\p=[]/\W=[])\/∃z,last=some z/\fold how p=W++[z]
theorem LastOk.len {how:Int} {p:List R} {last:Option R} {W:List R} {z:R} (h:LastOk how p last W) (hl:last=some z):fold how p=W++[z]/\W.length+1<=p.length:=by
  rcases h with ⟨h,_⟩ | ⟨y,h,h2⟩
  · rw [h] at hl;cases hl
  · rw [h] at hl;cases hl
    refine ⟨h2,?_⟩
    have:=fold_len how p
    rw [h2] at this;simpa using this
/-- how a file is written, at the end: the disk falls; there is no room; it is there -/
def Out (d:Disk) (a:Nat) (fs:Fs) (out:Nm) (U n:Nat) (F:List R) (x:Disk×Nat):Prop:=
  (1<=a/\∃o' fs',x=(dn d o' (tornAll fs' d.keep),7)/\Part out (secN n) fs fs')\/
  (∃o' a' fs',x=(dk d o' a' fs',6)/\(a=0->a'=0)/\rising fs'/\(∃f,fget fs' out=some f)/\(∀ m,m≠out->fget fs' m=fget fs m)/\fs'.length<=fs.length/\d.room < U+secN n)\/
  ∃o' a' fs',x=(dk d o' a' fs',0)/\(a=0->a'=0)/\rising fs'/\(∀ m,fget fs' m=if m=out then some ⟨FB F,FB F⟩ else fget fs m)/\used fs'=U+secN F.length/\fs'.length<=fs.length
theorem Out.step {d:Disk} {a a':Nat} {fs fs':Fs} {out:Nm} {U n:Nat} {F:List R} {x:Disk×Nat} (h:Out d a' fs' out U n F x) (ha:1<=a'->1<=a) (ha0:a=0->a'=0) (hf:∀ m,m≠out->fget fs' m=fget fs m) (hl:fs'.length<=fs.length):Out d a fs out U n F x:=by
  rcases h with ⟨h1,o',f2,h2,h3⟩ | ⟨o',a2,f2,h2,h3,h4,h5,h6,h7,h8⟩ | ⟨o',a2,f2,h2,h3,h4,h5,h6,h7⟩
  · exact .inl ⟨ha h1,o',f2,h2,h3.back hf⟩
  · exact .inr (.inl ⟨o',a2,f2,h2,fun e=>h3 (ha0 e),h4,h5,fun m hm=>by rw [h6 m hm,hf m hm],by omega,h8⟩)
  · refine .inr (.inr ⟨o',a2,f2,h2,fun e=>h3 (ha0 e),h4,fun m=>?_,h6,by omega⟩)
    rw [h5]
    split
    · rfl
    · rename_i e;exact hf m e
section
variable {d:Disk} (hu:d.down=false)
include hu
theorem shut_go (o:Int) (a:Nat) {fs:Fs} (hris:rising fs) {out:Nm} {W:List R} {t:By} {U n:Nat} (hW:Wr fs out W t) (hU:used fs=U+sectors (full W).length) (hn:W.length<=n):Out d a fs out U n W (wclose out t (dk d o a fs)):=by
  have h1:=sec_FBn W
  have h2:=secN_mono hn
  rcases wclose_go hu o a hris hW with ⟨k1,o',f2,k2,k3⟩ | ⟨o',a',k2,k3,k4⟩ | ⟨o',a',f2,k2,k3,k4,k5,k6,k7⟩
  · exact .inl ⟨k1,o',f2,k2,k3.le (by omega)⟩
  · exact .inr (.inl ⟨o',a',fs,k2,k3,hris,⟨_,hW.get⟩,fun _ _=>rfl,Nat.le_refl _,by omega⟩)
  · exact .inr (.inr ⟨o',a',f2,k2,k3,k4,k5,by omega,k7⟩)
theorem mend_go (o:Int) (a:Nat) {fs:Fs} (hris:rising fs) {how:Int} {out:Nm} {p W:List R} {last:Option R} {t:By} {U n:Nat} (hW:Wr fs out W t) (hU:used fs=U+sectors (full W).length) (hL:LastOk how p last W) (hn:p.length<=n):Out d a fs out U n (fold how p) (mend out last t (dk d o a fs)):=by
  cases hl:last with
  | none=>
    rcases hL with ⟨_,rfl,rfl⟩ | ⟨z,h,_⟩
    · exact shut_go hu o a hris hW hU (Nat.zero_le _)
    · rw [h] at hl;cases hl
  | some z=>
    obtain ⟨h1,h2⟩:=hL.len hl
    rw [h1]
    show Out d a fs out U n (W++[z]) (if (wput out z t (dk d o a fs)).2.2≠0 then _ else _)
    have h3:=secN_mono (show (W++[z]).length<=n by simp;omega)
    have h4:=sec_full (W++[z])
    rcases wput_go hu o a hris hW z with ⟨k1,o',k2⟩ | ⟨o',a',k2,k3,k4⟩ | ⟨o',a',f2,k2,k3,k4,k5,k6,k7,k8⟩
    · rw [k2,if_pos (by simp)];exact .inl ⟨k1,o',fs,rfl,hW.part hris (by have:=sec_full W;have:=secN_mono (show W.length<=n by omega);omega)⟩
    · rw [k2,if_pos (by simp)];exact .inr (.inl ⟨o',a',fs,rfl,k3,hris,⟨_,hW.get⟩,fun _ _=>rfl,Nat.le_refl _,by omega⟩)
    · rw [k2,if_neg (by simp)]
      exact (shut_go hu o' a' k4 k5 (U:=U) (by omega) (by simp;omega)).step (by omega) k3 k6 k8
theorem mloop_go {how:Int} {out:Nm} {all:List R} {U:Nat}:∀ (k:Nat) (o:Int) (a:Nat) (fs:Fs) (rs:List Rd) (hs:List Hd) (rq:List (List R)) (p W:List R) (last:Option R) (t:By),
    rising fs->RR fs out rs rq->MInv all p hs rq rq.length->rq.length=rs.length+1->(∀ h∈hs,1<=h.2)->Wr fs out W t->LastOk how p last W->used fs=U+sectors (full W).length->hs.length+rq.flatten.length < k->
    Out d a fs out U all.length (fold how (sort all)) (mloop how out k rs hs last t (dk d o a fs))
  | 0,_,_,_,_,_,_,_,_,_,_,_,_,_,_,_,_,_,_,hk=>absurd hk (Nat.not_lt_zero _)
  | k+1,o,a,fs,rs,hs,rq,p,W,last,t,hris,hR,hM,hq,hh,hW,hL,hU,hk=>by
    have hpl:p.length<=all.length:=by have:=hM.perm.length_eq;simp at this;omega
    by_cases hs0:hs=[]
    · subst hs0
      have e:=hM.done (Nat.le_refl _)
      rw [mloop_end rfl,<-e]
      exact mend_go hu o a hris hW hU hL hpl
    have hWl:sectors (full W).length<=secN all.length:=by
      have h1:=sec_full W
      have h2:W.length<=p.length:=by
        rcases hL with ⟨_,rfl,rfl⟩ | ⟨z,h,h3⟩
        · exact Nat.le_refl _
        · have h4:=(LastOk.len (.inr ⟨z,h,h3⟩) h).2;omega
      have h3:=secN_mono (show W.length<=all.length by omega)
      omega
    have hpos:=List.length_pos_iff.2 hs0
    obtain ⟨p1,p2⟩:=hpop_ok hM.ok hpos
    have hxm:hg hs 0∈hs:=p2.mem_iff.2 List.mem_cons_self
    obtain ⟨q1,q2⟩:=hM.pop (Nat.le_refl _) p2 p1 (fun y hy=>by
      obtain ⟨j,hj,rfl⟩:=List.getElem_of_mem hy
      have:=hM.ok.least j hj
      rw [show hg hs j=hs[j] from by unfold hg;rw [List.getD_eq_getElem?_getD,List.getElem?_eq_getElem hj];rfl] at this
      exact this)
    have hx1:=hh _ hxm
    rcases mpush_go hu o a hR (i:=(hg hs 0).2) ⟨hx1,by omega⟩ p1 with ⟨k1,o',X,k2⟩ | ⟨o',a',rs',hs',rq',k2,k3,k4,k5,k6⟩
    · rw [mloop_bad hs0 (by rw [k2];simp),k2];exact .inl ⟨k1,o',fs,rfl,hW.part hris hWl⟩
    have he0:(mpush rs (hg hs 0).2 (hpop hs) (dk d o a fs)).2.2=0:=by rw [k2]
    have m2:=q2.next (by omega) k4 rq'.length (by rw [k4.len];exact Nat.le_refl _)
    have hlq:rq'.length=rs'.length+1:=by rw [k4.len,k6];exact hq
    have hsum:=k4.sum (by omega)
    have hpl2:=hpop_len hs
    have hh2:∀ h∈hs',1<=h.2:=by
      intro h hm
      have hb:∀ h∈hpop hs,1<=h.2:=fun h hm=>hh h (p2.mem_iff.2 (List.mem_cons_of_mem _ hm))
      rcases k4 with ⟨_,rfl,_⟩ | ⟨r,q,_,_,hp,_⟩
      · exact hb h hm
      · rcases List.mem_cons.1 (hp.mem_iff.1 hm) with rfl | hm
        · exact hx1
        · exact hb h hm
    have hf:=fold_snoc how p (hg hs 0).1
    cases hl:last with
    | none=>
      have hL':LastOk how (p++[(hg hs 0).1]) (some (hg hs 0).1) W:=by
        rcases hL with ⟨_,rfl,rfl⟩ | ⟨z,h,_⟩
        · exact .inr ⟨_,rfl,rfl⟩
        · rw [h] at hl;cases hl
      rw [mloop_first hs0 he0,k2]
      exact (mloop_go k o' a' fs rs' hs' rq' _ W _ t hris k5 m2 hlq hh2 hW hL' hU (by omega)).step (by omega) k3 (fun _ _=>rfl) (Nat.le_refl _)
    | some z=>
      obtain ⟨h1,h2⟩:=hL.len hl
      have hfp:Rn.fput how (W++[z]) (hg hs 0).1=if how≠0/\z.1=(hg hs 0).1.1 then W++[(z.1,comb how z.2 (hg hs 0).1.2)] else W++[z]++[(hg hs 0).1]:=by
        unfold Rn.fput
        rw [List.getLast?_concat]
        simp only [List.dropLast_concat]
      rw [h1,hfp] at hf
      by_cases hc:how≠0/\z.1=(hg hs 0).1.1
      · rw [if_pos hc] at hf
        rw [mloop_comb hs0 he0 hc,k2]
        exact (mloop_go k o' a' fs rs' hs' rq' _ W _ t hris k5 m2 hlq hh2 hW (.inr ⟨_,rfl,hf⟩) hU (by omega)).step (by omega) k3 (fun _ _=>rfl) (Nat.le_refl _)
      · rw [if_neg hc] at hf
        have h3:=secN_mono (show (W++[z]).length<=all.length by simp;omega)
        have h4:=sec_full (W++[z])
        rcases wput_go hu o' a' hris hW z with ⟨j1,o2,j2⟩ | ⟨o2,a2,j2,j3,j4⟩ | ⟨o2,a2,f2,j2,j3,j4,j5,j6,j7,j8⟩
        · rw [mloop_wbad hs0 he0 hc (by rw [k2,j2];simp),k2,j2];exact .inl ⟨by omega,o2,fs,rfl,hW.part hris hWl⟩
        · rw [mloop_wbad hs0 he0 hc (by rw [k2,j2];simp),k2,j2];exact .inr (.inl ⟨o2,a2,fs,rfl,fun e=>j3 (k3 e),hris,⟨_,hW.get⟩,fun _ _=>rfl,Nat.le_refl _,by omega⟩)
        · rw [mloop_put hs0 he0 hc (by rw [k2,j2]),k2,j2]
          exact (mloop_go k o2 a2 f2 rs' hs' rq' _ (W++[z]) _ _ j4 (k5.off j6) m2 hlq hh2 j5 (.inr ⟨_,rfl,hf⟩) (by omega) (by omega)).step (by omega) (fun e=>j3 (k3 e)) j6 j8
/-- a merge: the disk falls; there is no room; the file is there -/
theorem merge_go (o:Int) (a:Nat) {fs:Fs} (hris:rising fs) (how:Int) {out:Nm} (hm:may out=true) (hn:fget fs out=none) (ns:List Nm) (ls:List (List R)) (hl:ns.length=ls.length)
    (hf:∀ j,j < ns.length->∃f,fget fs (ns.getD j [])=some f/\f.now=FB (ls.getD j [])/\Bd (ls.getD j [])/\Up (ls.getD j [])):
    (1<=a/\∃o' fs',merge how out ns (dk d o a fs)=(dn d o' (tornAll fs' d.keep),7)/\Part out (secN ls.flatten.length) fs fs')\/
    (∃o' a' fs',merge how out ns (dk d o a fs)=(dk d o' a' fs',6)/\(a=0->a'=0)/\rising fs'/\(∃f,fget fs' out=some f)/\(∀ m,m≠out->fget fs' m=fget fs m)/\fs'.length<=fs.length+1/\d.room < used fs+secN ls.flatten.length)\/
    ∃o' a' fs',merge how out ns (dk d o a fs)=(dk d o' a' fs',0)/\(a=0->a'=0)/\rising fs'/\(∀ m,fget fs' m=if m=out then some ⟨FB (fold how (sort ls.flatten)),FB (fold how (sort ls.flatten))⟩ else fget fs m)/\used fs'=used fs+secN (fold how (sort ls.flatten)).length/\fs'.length<=fs.length+1:=by
  have e0:∀ i,rg (List.replicate (ns.length+1) []) i=[]:=fun i=>by
    unfold rg;rw [List.getD_eq_getElem?_getD,List.getElem?_replicate];split<;>rfl
  unfold merge
  rcases mopen_go hu (fs:=fs) (out:=out) ns ls o a [] [] (List.replicate (ns.length+1) []) [] hl (fun j hj=>by
      obtain ⟨f,h1,h2,h3,h4⟩:=hf j hj
      exact ⟨f,h1,h2,h3,h4,fun e=>by rw [e,hn] at h1;cases h1⟩) ⟨by simp,fun j hj=>absurd hj (Nat.not_lt_zero _)⟩ (by simpa using Sn.MInv.none (ns.length+1)) (by simp) (fun j _=>e0 j) (fun h hh=>by cases hh) with ⟨k1,o',X,k2⟩ | ⟨o',a',rs,hs,rq,k2,k3,k4,k5,k6,k7,k8⟩
  · left;rw [k2,if_pos (by simp)];exact ⟨k1,o',fs,rfl,.vac hris hn⟩
  rw [k2,if_neg (by simp)]
  simp only
  rw [List.nil_append] at k5
  by_cases a1:a'=1
  · subst a1;left
    rw [create_fall hu,if_pos (by simp)]
    exact ⟨by omega,_,fs,rfl,.vac hris hn⟩
  have hc:=create_up hu o' a' fs a1 hm hn
  rw [hc,if_neg (by simp)]
  simp only
  obtain ⟨f2,hf2⟩:∃f2,f2=Dk.fput fs out ⟨[],[]⟩:=⟨_,rfl⟩
  have g2:fget f2 out=some ⟨[],[]⟩:=by rw [hf2,fget_fput,if_pos rfl]
  have kk2:∀ m,m≠out->fget f2 m=fget fs m:=fun m hm=>by rw [hf2,fget_fput,if_neg hm]
  have u2:used f2=used fs:=by rw [hf2,used_fput_new hn];simp [sectors]
  have r2:rising f2:=by rw [hf2];exact rising_fput hris _ _
  have c2:f2.length<=fs.length+1:=by rw [hf2];exact len_fput _ _ _
  rw [<-hf2]
  have hleft:=k4.left k6 k8
  have hfin:=mloop_go hu (how:=how) (out:=out) (all:=ls.flatten) (U:=used fs) (mleft rs hs+1) (nx o') (a' - 1) f2 rs hs rq [] [] none [] r2 (k4.off kk2) k5 k6 k7 ⟨by rw [g2,full_nil],by simp [rtext]⟩ (.inl ⟨rfl,rfl,rfl⟩) (by rw [u2];simp [sectors]) (by unfold mleft;omega)
  rcases hfin with ⟨h1,o2,f3,h2,h3⟩ | ⟨o2,a2,f3,h2,h3,h4,h5,h6,h7,h8⟩ | ⟨o2,a2,f3,h2,h3,h4,h5,h6,h7⟩
  · exact .inl ⟨by omega,o2,f3,h2,h3.back kk2⟩
  · exact .inr (.inl ⟨o2,a2,f3,h2,fun e=>h3 (by have:=k3 e;omega),h4,h5,fun m hm=>by rw [h6 m hm,kk2 m hm],by omega,h8⟩)
  · refine .inr (.inr ⟨o2,a2,f3,h2,fun e=>h3 (by have:=k3 e;omega),h4,fun m=>?_,h6,by omega⟩)
    rw [h5]
    split
    · rfl
    · rename_i e;exact kk2 m e
end
end Go.Cg.Xs
end
section
namespace Go.Cg.Xs
set_option linter.unusedVariables false
set_option linter.unusedSimpArgs false
open Go.Cg.Dk Go.Cg.Oc Go.Cg.Sn
open Go.Cg.Rn hiding HeapOk MInv NextP UpEx DnEx lst

theorem rnext_bd {n:Nm} {sz:Nat} {s:Rs} {d:Disk} {r:R} (h:(rnext n sz s d).2.2.1=some r):(r.1 < 18446744073709551616/\r.2 < 18446744073709551616)/\(rnext n sz s d).2.2.2=0:=by
  unfold rnext at h ⊢
  split at h
  · rename_i hc
    rw [if_pos hc]
    split at h
    · simp at h
    · rename_i h0
      rw [if_neg h0]
      have:=Option.some.inj h
      exact ⟨by rw [<-this];exact recOf_lt _,rfl⟩
  · rename_i hc
    rw [if_neg hc]
    split at h
    · simp at h
    · rename_i h0
      rw [if_neg h0]
      have:=Option.some.inj h
      exact ⟨by rw [<-this];exact recOf_lt _,rfl⟩
theorem rnext_pos {n:Nm} {sz:Nat} {s:Rs} {d:Disk} (h:s.1<=sz):(rnext n sz s d).2.1.1<=sz:=by
  unfold rnext
  split
  · split
    · exact h
    · rename_i h0
      exact rin_le h (by omega)
  · split<;>exact h
/-- readers as they may be -/
def RdsOk (rds:List Rd):Prop:=∀ j,j < rds.length->RsOk (rds.getD j rd0).2.1 (rds.getD j rd0).2.2/\(rds.getD j rd0).2.2.1<=(rds.getD j rd0).2.1/\(rds.getD j rd0).2.1<=17592186044416
theorem RdsOk.nil:RdsOk []:=fun j h=>absurd h (Nat.not_lt_zero _)
theorem RdsOk.snoc {rds:List Rd} (h:RdsOk rds) {n:Nm} {sz:Nat} (hz:sz<=17592186044416):RdsOk (rds++[(n,sz,(0,[],false))]):=by
  intro j hj
  rw [getD_snoc]
  by_cases e:j=rds.length
  · rw [if_pos e];exact ⟨RsOk.start _,Nat.zero_le _,hz⟩
  · rw [if_neg e];exact h j (by simp at hj;omega)
theorem RdsOk.push {rds:List Rd} (h:RdsOk rds) (i:Nat) (hs:List Hd) (d:Disk):RdsOk (mpush rds i hs d).2.1.1:=by
  show RdsOk (rds.set (i - 1) _)
  intro j hj
  rw [List.length_set] at hj
  by_cases hi:i - 1 < rds.length
  · rw [getD_set hi]
    by_cases e:j=i - 1
    · rw [if_pos e]
      obtain ⟨h1,h2,h3⟩:=h (i - 1) hi
      exact ⟨(h1.next (n:=(rds.getD (i - 1) rd0).1) (d:=d)).1,rnext_pos h2,h3⟩
    · rw [if_neg e];exact h j hj
  · rw [List.set_eq_of_length_le (by omega)];exact h j hj
@[simp] theorem mpush_rlen (rds:List Rd) (i:Nat) (hs:List Hd) (d:Disk):(mpush rds i hs d).2.1.1.length=rds.length:=by
  show (rds.set (i - 1) _).length=_;simp
theorem mpush_cnt (rds:List Rd) (i:Nat) (hs:List Hd) (d:Disk):(mpush rds i hs d).1.files.length=d.files.length:=rnext_cnt _ _ _ _
theorem mpush_none {rds:List Rd} {i:Nat} {hs:List Hd} {d:Disk} (h:(rnext (rds.getD (i - 1) rd0).1 (rds.getD (i - 1) rd0).2.1 (rds.getD (i - 1) rd0).2.2 d).2.2.1=none):(mpush rds i hs d).2.1.2=hs:=by
  unfold mpush;simp only;rw [h]
theorem mpush_some {rds:List Rd} {i:Nat} {hs:List Hd} {d:Disk} {r:R} (h:(rnext (rds.getD (i - 1) rd0).1 (rds.getD (i - 1) rd0).2.1 (rds.getD (i - 1) rd0).2.2 d).2.2.1=some r):(mpush rds i hs d).2.1.2=hpush hs (r,i):=by
  unfold mpush;simp only;rw [h]
/-- a heap as it may be: of so many readers -/
structure HBd (n:Nat) (hs:List Hd):Prop where
  ok:HeapOk hs
  bd:∀ h∈hs,(1<=h.2/\h.2<=n)/\h.1.1 < 18446744073709551616/\h.1.2 < 18446744073709551616
theorem HBd.nil (n:Nat):HBd n []:=⟨Sn.HeapOk.nil,fun h hh=>by cases hh⟩
theorem HBd.more {n m:Nat} {hs:List Hd} (h:HBd n hs) (hm:n<=m):HBd m hs:=⟨h.ok,fun x hx=>⟨⟨(h.bd x hx).1.1,by have:=(h.bd x hx).1.2;omega⟩,(h.bd x hx).2⟩⟩
theorem HBd.pop {n:Nat} {hs:List Hd} (h:HBd n hs) (h0:hs≠[]):HBd n (hpop hs)/\(1<=(hg hs 0).2/\(hg hs 0).2<=n)/\(hg hs 0).1.1 < 18446744073709551616/\(hg hs 0).1.2 < 18446744073709551616:=by
  obtain ⟨h1,h2⟩:=hpop_ok h.ok (List.length_pos_iff.2 h0)
  exact ⟨⟨h1,fun x hx=>h.bd x (h2.mem_iff.2 (List.mem_cons_of_mem _ hx))⟩,h.bd _ (h2.mem_iff.2 List.mem_cons_self)⟩
theorem HBd.push {n:Nat} {hs:List Hd} (h:HBd n hs) {rds:List Rd} {i:Nat} {d:Disk} (hi:1<=i/\i<=n):HBd n (mpush rds i hs d).2.1.2/\(mpush rds i hs d).2.1.2.length<=hs.length+1:=by
  cases hx:(rnext (rds.getD (i - 1) rd0).1 (rds.getD (i - 1) rd0).2.1 (rds.getD (i - 1) rd0).2.2 d).2.2.1 with
  | none=>rw [mpush_none hx];exact ⟨h,Nat.le_succ _⟩
  | some r=>
    rw [mpush_some hx]
    obtain ⟨h1,h2⟩:=hpush_ok h.ok (r,i)
    refine ⟨⟨h1,fun x hx'=>?_⟩,by simp⟩
    rcases List.mem_cons.1 (h2.mem_iff.1 hx') with rfl | hm
    · exact ⟨hi,(rnext_bd hx).1⟩
    · exact h.bd x hm
theorem sum_set {α:Type} (f:α->Nat):∀ (l:List α) (j:Nat) (x z:α),j < l.length->((l.set j x).map f).sum+f (l.getD j z)=(l.map f).sum+f x
  | [],_,_,_,h=>absurd h (Nat.not_lt_zero _)
  | a::l,0,x,z,_=>by simp;omega
  | a::l,j+1,x,z,h=>by
    have:=sum_set f l j x z (by simpa using h)
    simp only [List.set_cons_succ,List.map_cons,List.sum_cons,List.getD_cons_succ] at *
    omega
/-- less is left -/
theorem mleft_lt {rds:List Rd} {hs:List Hd} {d:Disk} (hr:RdsOk rds) (h:HBd rds.length hs) (h0:hs≠[]):mleft (mpush rds (hg hs 0).2 (hpop hs) d).2.1.1 (mpush rds (hg hs 0).2 (hpop hs) d).2.1.2 < mleft rds hs:=by
  obtain ⟨h1,⟨h2,h3⟩,_⟩:=h.pop h0
  have hl:=hpop_len hs
  have hp:=List.length_pos_iff.2 h0
  obtain ⟨k1,_,_⟩:=hr ((hg hs 0).2 - 1) (by omega)
  have hn:=k1.next (n:=(rds.getD ((hg hs 0).2 - 1) rd0).1) (d:=d)
  have hsum:=sum_set (fun e:Rd=>rleft e.2.1 e.2.2) rds ((hg hs 0).2 - 1) ((rds.getD ((hg hs 0).2 - 1) rd0).1,(rds.getD ((hg hs 0).2 - 1) rd0).2.1,(rnext (rds.getD ((hg hs 0).2 - 1) rd0).1 (rds.getD ((hg hs 0).2 - 1) rd0).2.1 (rds.getD ((hg hs 0).2 - 1) rd0).2.2 d).2.1) rd0 (by omega)
  cases hx:(rnext (rds.getD ((hg hs 0).2 - 1) rd0).1 (rds.getD ((hg hs 0).2 - 1) rd0).2.1 (rds.getD ((hg hs 0).2 - 1) rd0).2.2 d).2.2.1 with
  | none=>
    rw [mpush_none hx]
    have hle:rleft (rds.getD ((hg hs 0).2 - 1) rd0).2.1 (rnext (rds.getD ((hg hs 0).2 - 1) rd0).1 (rds.getD ((hg hs 0).2 - 1) rd0).2.1 (rds.getD ((hg hs 0).2 - 1) rd0).2.2 d).2.1<=rleft (rds.getD ((hg hs 0).2 - 1) rd0).2.1 (rds.getD ((hg hs 0).2 - 1) rd0).2.2:=by
      have:(rnext (rds.getD ((hg hs 0).2 - 1) rd0).1 (rds.getD ((hg hs 0).2 - 1) rd0).2.1 (rds.getD ((hg hs 0).2 - 1) rd0).2.2 d).2.1=(rds.getD ((hg hs 0).2 - 1) rd0).2.2:=by
        unfold rnext at hx ⊢
        split
        · rename_i hc
          rw [if_pos hc] at hx
          split
          · rfl
          · rename_i h0;rw [if_neg h0] at hx;simp at hx
        · rename_i hc
          rw [if_neg hc] at hx
          split
          · rfl
          · rename_i h0;rw [if_neg h0] at hx;simp at hx
      rw [this];exact Nat.le_refl _
    unfold mleft
    show ((rds.set _ _).map _).sum+_ < _
    simp only at hsum
    omega
  | some r=>
    rw [mpush_some hx]
    have hlt:=hn.2 (by rw [hx];rfl)
    unfold mleft
    show ((rds.set _ _).map _).sum+_ < _
    simp only [hpush_len] at hsum ⊢
    omega
section
variable {n:Nm} {ns:List Nm} {rs:List Rd} {hs:List Hd} {d:Disk}
theorem mopen_b1 (h:(d.size n).2.2≠0):mopen (n::ns) rs hs d=((d.size n).1,(rs,hs),(d.size n).2.2):=by rw [mopen,if_pos h]
theorem mopen_b2 (h:(d.size n).2.2=0) (h2:(mpush (rs++[(n,(d.size n).2.1,(0,[],false))]) (rs.length+1) hs (d.size n).1).2.2≠0):mopen (n::ns) rs hs d=mpush (rs++[(n,(d.size n).2.1,(0,[],false))]) (rs.length+1) hs (d.size n).1:=by
  rw [mopen,if_neg (fun c=>c h),if_pos h2]
theorem mopen_one (h:(d.size n).2.2=0) (h2:(mpush (rs++[(n,(d.size n).2.1,(0,[],false))]) (rs.length+1) hs (d.size n).1).2.2=0):mopen (n::ns) rs hs d=mopen ns (mpush (rs++[(n,(d.size n).2.1,(0,[],false))]) (rs.length+1) hs (d.size n).1).2.1.1 (mpush (rs++[(n,(d.size n).2.1,(0,[],false))]) (rs.length+1) hs (d.size n).1).2.1.2 (mpush (rs++[(n,(d.size n).2.1,(0,[],false))]) (rs.length+1) hs (d.size n).1).1:=by
  rw [mopen,if_neg (fun c=>c h),if_neg (fun c=>c h2)]
end
theorem merge_b1 {how:Int} {out:Nm} {ns:List Nm} {d:Disk} (h:(mopen ns [] [] d).2.2≠0):merge how out ns d=((mopen ns [] [] d).1,(mopen ns [] [] d).2.2):=by unfold merge;rw [if_pos h]
theorem merge_b2 {how:Int} {out:Nm} {ns:List Nm} {d:Disk} (h:(mopen ns [] [] d).2.2=0) (h2:((mopen ns [] [] d).1.create out).2≠0):merge how out ns d=(mopen ns [] [] d).1.create out:=by unfold merge;rw [if_neg (fun c=>c h),if_pos h2]
theorem merge_g {how:Int} {out:Nm} {ns:List Nm} {d:Disk} (h:(mopen ns [] [] d).2.2=0) (h2:((mopen ns [] [] d).1.create out).2=0):merge how out ns d=mloop how out (mleft (mopen ns [] [] d).2.1.1 (mopen ns [] [] d).2.1.2+1) (mopen ns [] [] d).2.1.1 (mopen ns [] [] d).2.1.2 none [] ((mopen ns [] [] d).1.create out).1:=by
  unfold merge;rw [if_neg (fun c=>c h),if_neg (fun c=>c h2)]
end Go.Cg.Xs
end
section
namespace Go.Cg.Xs
set_option linter.unusedVariables false
set_option linter.unusedSimpArgs false
open Go.Cg.Dk Go.Cg.Oc Go.Cg.Sn
open Go.Cg.Rn hiding HeapOk MInv NextP UpEx DnEx lst

/-! ### parts -/
theorem chunk_nil {α:Type} {f:Nat} {l:List α} (h:l=[]):chunk f l=[]:=by rw [chunk,dif_pos (.inl h)]
theorem chunk_cons {α:Type} {f:Nat} {l:List α} (h:l≠[]) (hf:0 < f):chunk f l=l.take f::chunk f (l.drop f):=by
  rw [chunk,dif_neg];rintro (h1 | h1)
  · exact h h1
  · omega
theorem chunk_lt {α:Type} {f:Nat} (hf:0 < f):∀ (k:Nat) (l:List α),l.length<=k->∀ q,q < (chunk f l).length↔q*f < l.length:=by
  intro k
  induction k with
  | zero=>
    intro l hl q
    have h0:l=[]:=List.eq_nil_of_length_eq_zero (by omega)
    rw [chunk_nil h0,h0];simp
  | succ k ih=>
    intro l hl q
    by_cases h0:l=[]
    · rw [chunk_nil h0,h0];simp
    · have hp:=List.length_pos_iff.2 h0
      rw [chunk_cons h0 hf,List.length_cons]
      cases q with
      | zero=>simp;omega
      | succ q=>
        have h1:=ih (l.drop f) (by simp;omega) q
        rw [List.length_drop] at h1
        rw [Nat.succ_lt_succ_iff,h1,Nat.succ_mul]
        omega
theorem chunk_iff {α:Type} {f:Nat} (hf:0 < f) (l:List α) (q:Nat):q < (chunk f l).length↔q*f < l.length:=chunk_lt hf l.length l (Nat.le_refl _) q
theorem chunk_drop {α:Type} {f:Nat} (hf:0 < f):∀ (i:Nat) (l:List α),i < (chunk f l).length->(chunk f l).drop i=(l.drop (i*f)).take f::(chunk f l).drop (i+1)
  | 0,l,h=>by
    have h0:l≠[]:=by intro e;rw [chunk_nil e] at h;exact absurd h (Nat.not_lt_zero _)
    conv=>lhs;rw [chunk_cons h0 hf]
    conv=>rhs;rw [chunk_cons h0 hf]
    simp
  | i+1,l,h=>by
    have h0:l≠[]:=by intro e;rw [chunk_nil e] at h;exact absurd h (Nat.not_lt_zero _)
    have e:=chunk_cons h0 hf
    rw [e] at h ⊢
    have:=chunk_drop hf i (l.drop f) (by simpa using h)
    rw [List.drop_drop,show f+i*f=(i+1)*f from by rw [Nat.succ_mul];omega] at this
    simpa using this
theorem chunk_few {α:Type} {f:Nat} (hf:2<=f) {l:List α} (hl:2<=l.length):(chunk f l).length < l.length/\3*(chunk f l).length<=2*l.length/\1<=(chunk f l).length:=by
  have h0:=(chunk_iff (f:=f) (by omega) l 0).2 (by omega)
  obtain ⟨m,hm⟩:∃m,(chunk f l).length=m+1:=⟨(chunk f l).length - 1,by omega⟩
  have h1:=(chunk_iff (f:=f) (by omega) l m).1 (by omega)
  have h2:m*2<=m*f:=Nat.mul_le_mul_left _ hf
  omega
/-! ### counts -/
theorem mopen_cnt:∀ (ns:List Nm) (rs:List Rd) (hs:List Hd) (d:Disk),(mopen ns rs hs d).1.files.length=d.files.length
  | [],_,_,_=>rfl
  | n::ns,rs,hs,d=>by
    rw [mopen]
    split
    · exact len_size _ _
    · split
      · rw [mpush_cnt];exact len_size _ _
      · rw [mopen_cnt ns,mpush_cnt];exact len_size _ _
theorem mend_cnt (out:Nm) (last:Option R) (t:By) (d:Disk):(mend out last t d).1.files.length<=d.files.length:=by
  unfold mend
  split
  · exact wclose_cnt _ _ _
  · split
    · exact wput_cnt _ _ _ _
    · exact Nat.le_trans (wclose_cnt _ _ _) (wput_cnt _ _ _ _)
theorem mloop_cnt {how:Int} {out:Nm}:∀ (k:Nat) (rs:List Rd) (hs:List Hd) (last:Option R) (t:By) (d:Disk),(mloop how out k rs hs last t d).1.files.length<=d.files.length
  | 0,_,_,_,_,_=>Nat.le_refl _
  | k+1,rs,hs,last,t,d=>by
    have hp:=mpush_cnt rs (hg hs 0).2 (hpop hs) d
    by_cases h0:hs=[]
    · rw [mloop_end h0];exact mend_cnt _ _ _ _
    by_cases he:(mpush rs (hg hs 0).2 (hpop hs) d).2.2=0
    · cases last with
      | none=>rw [mloop_first h0 he];exact Nat.le_trans (mloop_cnt k _ _ _ _ _) (by omega)
      | some z=>
        by_cases hc:how≠0/\z.1=(hg hs 0).1.1
        · rw [mloop_comb h0 he hc];exact Nat.le_trans (mloop_cnt k _ _ _ _ _) (by omega)
        · have hw:=wput_cnt out z t (mpush rs (hg hs 0).2 (hpop hs) d).1
          by_cases hb:(wput out z t (mpush rs (hg hs 0).2 (hpop hs) d).1).2.2=0
          · rw [mloop_put h0 he hc hb];exact Nat.le_trans (mloop_cnt k _ _ _ _ _) (by omega)
          · rw [mloop_wbad h0 he hc hb];simp only;omega
    · rw [mloop_bad h0 he];simp only;omega
theorem merge_cnt (how:Int) (out:Nm) (ns:List Nm) (d:Disk):(merge how out ns d).1.files.length<=d.files.length+1:=by
  have h1:=mopen_cnt ns [] [] d
  have h2:=len_create (mopen ns [] [] d).1 out
  unfold merge
  split
  · simp only;omega
  · split
    · omega
    · exact Nat.le_trans (mloop_cnt _ _ _ _ _ _) (by omega)
theorem gones_cnt:∀ (l made:List Nm) (d:Disk),(gones l made d).1.files.length<=d.files.length/\(gones l made d).2.1.length<=made.length
  | [],_,_=>⟨Nat.le_refl _,Nat.le_refl _⟩
  | n::l,made,d=>by
    have h1:=len_remove d n
    rw [gones]
    split
    · exact ⟨h1,Nat.le_refl _⟩
    · obtain ⟨h2,h3⟩:=gones_cnt l (made.filter fun m=> !decide (m=n)) (d.remove n).1
      have h4:=List.length_filter_le (fun m=> !decide (m=n)) made
      exact ⟨by omega,by omega⟩
section
variable {how:Int} {temp:Nm} {p:List Nm} {ps:List (List Nm)} {nx:List Nm} {tm:Tm} {d:Disk}
theorem pass_b1 (h:(merge how (tname temp (tm.1+1)) p d).2≠0):pass how temp (p::ps) nx tm d=((merge how (tname temp (tm.1+1)) p d).1,(tm.1+1,tm.2++[tname temp (tm.1+1)]),nx,(merge how (tname temp (tm.1+1)) p d).2):=by rw [pass,if_pos h]
theorem pass_b2 (h:(merge how (tname temp (tm.1+1)) p d).2=0) (g:(gones p (tm.2++[tname temp (tm.1+1)]) (merge how (tname temp (tm.1+1)) p d).1).2.2≠0):pass how temp (p::ps) nx tm d=((gones p (tm.2++[tname temp (tm.1+1)]) (merge how (tname temp (tm.1+1)) p d).1).1,(tm.1+1,(gones p (tm.2++[tname temp (tm.1+1)]) (merge how (tname temp (tm.1+1)) p d).1).2.1),nx,(gones p (tm.2++[tname temp (tm.1+1)]) (merge how (tname temp (tm.1+1)) p d).1).2.2):=by
  rw [pass,if_neg (fun c=>c h),if_pos g]
theorem pass_one (h:(merge how (tname temp (tm.1+1)) p d).2=0) (g:(gones p (tm.2++[tname temp (tm.1+1)]) (merge how (tname temp (tm.1+1)) p d).1).2.2=0):pass how temp (p::ps) nx tm d=pass how temp ps (nx++[tname temp (tm.1+1)]) (tm.1+1,(gones p (tm.2++[tname temp (tm.1+1)]) (merge how (tname temp (tm.1+1)) p d).1).2.1) (gones p (tm.2++[tname temp (tm.1+1)]) (merge how (tname temp (tm.1+1)) p d).1).1:=by
  rw [pass,if_neg (fun c=>c h),if_neg (fun c=>c g)]
end
section
variable {how:Int} {temp:Nm} {fan k:Nat} {names:List Nm} {tm:Tm} {d:Disk}
theorem levels_end (h:names.length<=1):levels how temp fan k names tm d=(d,tm,names,0):=by
  cases k with
  | zero=>rfl
  | succ k=>rw [levels,if_pos h]
theorem levels_bad (h:¬ names.length<=1) (e:(pass how temp (chunk fan names) [] tm d).2.2.2≠0):levels how temp fan (k+1) names tm d=pass how temp (chunk fan names) [] tm d:=by rw [levels,if_neg h,if_pos e]
theorem levels_go (h:¬ names.length<=1) (e:(pass how temp (chunk fan names) [] tm d).2.2.2=0):levels how temp fan (k+1) names tm d=levels how temp fan k (pass how temp (chunk fan names) [] tm d).2.2.1 (pass how temp (chunk fan names) [] tm d).2.1 (pass how temp (chunk fan names) [] tm d).1:=by rw [levels,if_neg h,if_neg (fun c=>c e)]
end
section
variable {nin:Nm} {sz:Nat} {out temp:Nm} {how:Int} {budget fan:Nat} {d d1:Disk} {tm1:Tm} {nm1:List Nm} {n1 e1:Nat}
theorem all_b1 (h:cut nin sz temp how budget (rleft sz (0,[],false)+1) (0,[],false) [] [] 0 (0,[]) d=(d1,tm1,nm1,n1,e1)) (he:e1≠0):all nin sz out temp how budget fan d=(d1,tm1,0,e1):=by unfold all;simp only;rw [h,if_pos he]
theorem all_b2 (h:cut nin sz temp how budget (rleft sz (0,[],false)+1) (0,[],false) [] [] 0 (0,[]) d=(d1,tm1,nm1,n1,e1)) (he:e1=0) {d2:Disk} {tm2:Tm} {nm2:List Nm} {e2:Nat} (h2:levels how temp fan nm1.length nm1 tm1 d1=(d2,tm2,nm2,e2)) (he2:e2≠0):all nin sz out temp how budget fan d=(d2,tm2,0,e2):=by
  unfold all;simp only;rw [h,if_neg (fun c=>c he)];simp only;rw [h2,if_pos he2]
theorem all_g (h:cut nin sz temp how budget (rleft sz (0,[],false)+1) (0,[],false) [] [] 0 (0,[]) d=(d1,tm1,nm1,n1,e1)) (he:e1=0) {d2:Disk} {tm2:Tm} {nm2:List Nm} {e2:Nat} (h2:levels how temp fan nm1.length nm1 tm1 d1=(d2,tm2,nm2,e2)) (he2:e2=0):all nin sz out temp how budget fan d=ends out nm2 (passes n1 budget fan) tm2 d2:=by
  unfold all;simp only;rw [h,if_neg (fun c=>c he)];simp only;rw [h2,if_neg (fun c=>c he2)]
end
/-! ### what a cut leaves -/
theorem cut_cnt {nin:Nm} {sz:Nat} {temp:Nm} {how:Int} {budget:Nat}:∀ (k:Nat) (s:Rs) (l:List R) (names:List Nm) (n:Nat) (tm:Tm) (d:Disk),
    (cut nin sz temp how budget k s l names n tm d).1.files.length+tm.1<=d.files.length+(cut nin sz temp how budget k s l names n tm d).2.1.1/\(cut nin sz temp how budget k s l names n tm d).2.1.2.length+tm.1=tm.2.length+(cut nin sz temp how budget k s l names n tm d).2.1.1/\
    ((cut nin sz temp how budget k s l names n tm d).2.2.2.2=0->(cut nin sz temp how budget k s l names n tm d).2.2.1.length+tm.1=names.length+(cut nin sz temp how budget k s l names n tm d).2.1.1)
  | 0,_,_,_,_,_,_=>⟨Nat.le_refl _,Nat.add_comm _ _▸rfl,fun _=>Nat.add_comm _ _▸rfl⟩
  | k+1,s,l,names,n,tm,d=>by
    have hr:=rnext_cnt nin sz s d
    have hw:∀ l:List R,(run temp how l tm (rnext nin sz s d).1).1.files.length<=(rnext nin sz s d).1.files.length+1:=fun l=>write_cnt _ _ _
    have ht:∀ l:List R,(run temp how l tm (rnext nin sz s d).1).2.1=(tm.1+1,tm.2++[tname temp (tm.1+1)]):=fun l=>rfl
    rw [cut]
    split
    · exact ⟨by first | omega | (simp only;omega) | simp only,by first | omega | (simp only;omega) | simp only,fun h=>by simp only at h;rename_i h1;exact absurd h h1⟩
    · cases hx:(rnext nin sz s d).2.2.1 with
      | none=>
        simp only
        split
        · exact ⟨by first | omega | (simp only;omega) | simp only,by first | omega | (simp only;omega) | simp only,fun _=>by first | omega | (simp only;omega) | simp only⟩
        · have hwl:=hw l
          split
          · rw [ht];exact ⟨by first | omega | (simp only;omega) | simp only,by simp;omega,fun h=>by simp only at h;rename_i h1;exact absurd h h1⟩
          · rw [ht];exact ⟨by first | omega | (simp only;omega) | simp only,by simp;omega,fun _=>by simp;omega⟩
      | some r=>
        simp only
        split
        · have hwl:=hw (l++[r])
          split
          · rw [ht];exact ⟨by first | omega | (simp only;omega) | simp only,by simp;omega,fun h=>by simp only at h;rename_i h1;exact absurd h h1⟩
          · obtain ⟨h1,h2,h3⟩:=cut_cnt (nin:=nin) (sz:=sz) (temp:=temp) (how:=how) (budget:=budget) k (rnext nin sz s d).2.1 [] (names++[tname temp (tm.1+1)]) (n+1) (run temp how (l++[r]) tm (rnext nin sz s d).1).2.1 (run temp how (l++[r]) tm (rnext nin sz s d).1).1
            rw [ht] at h1 h2 h3 ⊢
            simp only [List.length_append,List.length_cons,List.length_nil] at h1 h2 h3 ⊢
            exact ⟨by omega,by omega,fun h=>by have:=h3 h;omega⟩
        · obtain ⟨h1,h2,h3⟩:=cut_cnt (nin:=nin) (sz:=sz) (temp:=temp) (how:=how) (budget:=budget) k (rnext nin sz s d).2.1 (l++[r]) names (n+1) tm (rnext nin sz s d).1
          exact ⟨by omega,h2,h3⟩
theorem cut_few {nin:Nm} {sz:Nat} {temp:Nm} {how:Int} {budget:Nat}:∀ (k:Nat) (s:Rs) (l:List R) (names:List Nm) (n:Nat) (tm:Tm) (d:Disk),RsOk sz s->RsFit sz n s->l.length+names.length<=n->
    (cut nin sz temp how budget k s l names n tm d).2.2.1.length<=(cut nin sz temp how budget k s l names n tm d).2.2.2.1/\16*(cut nin sz temp how budget k s l names n tm d).2.2.2.1<=sz/\16*(cut nin sz temp how budget k s l names n tm d).2.1.1+16*n<=16*tm.1+16*l.length+sz
  | 0,s,l,names,n,tm,d,ho,hf,hl=>by
    have:=hf.size
    exact ⟨by show names.length<=n;omega,this,by show 16*tm.1+16*n<=_;omega⟩
  | k+1,s,l,names,n,tm,d,ho,hf,hl=>by
    have hsz:=hf.size
    have ht:∀ l:List R,(run temp how l tm (rnext nin sz s d).1).2.1=(tm.1+1,tm.2++[tname temp (tm.1+1)]):=fun l=>rfl
    rw [cut]
    split
    · exact ⟨Nat.zero_le _,Nat.zero_le _,by simp only;omega⟩
    · cases hx:(rnext nin sz s d).2.2.1 with
      | none=>
        simp only
        split
        · exact ⟨by simp only;omega,hsz,by simp only;omega⟩
        · rename_i hl0
          have hp:=List.length_pos_iff.2 hl0
          split
          · rw [ht];exact ⟨Nat.zero_le _,Nat.zero_le _,by simp only;omega⟩
          · rw [ht];exact ⟨by simp;omega,hsz,by simp only;omega⟩
      | some r=>
        have hn:=(ho.next (n:=nin) (d:=d)).1
        have hf2:=(hf.next ho hx).1
        have hsz2:=hf2.size
        simp only
        split
        · split
          · rw [ht];exact ⟨Nat.zero_le _,Nat.zero_le _,by simp only;omega⟩
          · obtain ⟨h1,h2,h3⟩:=cut_few (nin:=nin) (sz:=sz) (temp:=temp) (how:=how) (budget:=budget) k (rnext nin sz s d).2.1 [] (names++[tname temp (tm.1+1)]) (n+1) (run temp how (l++[r]) tm (rnext nin sz s d).1).2.1 (run temp how (l++[r]) tm (rnext nin sz s d).1).1 hn hf2 (by simp;omega)
            rw [ht] at h1 h2 h3 ⊢
            simp only [List.length_nil] at h3
            exact ⟨h1,h2,by omega⟩
        · obtain ⟨h1,h2,h3⟩:=cut_few (nin:=nin) (sz:=sz) (temp:=temp) (how:=how) (budget:=budget) k (rnext nin sz s d).2.1 (l++[r]) names (n+1) tm (rnext nin sz s d).1 hn hf2 (by simp;omega)
          simp only [List.length_append,List.length_cons,List.length_nil] at h3
          exact ⟨h1,h2,by omega⟩
/-! ### what all of it leaves -/
theorem pass_cnt {how:Int} {temp:Nm}:∀ (ps:List (List Nm)) (nx:List Nm) (tm:Tm) (d:Disk),(pass how temp ps nx tm d).1.files.length+tm.1<=d.files.length+(pass how temp ps nx tm d).2.1.1/\(pass how temp ps nx tm d).2.1.2.length+tm.1<=tm.2.length+(pass how temp ps nx tm d).2.1.1/\(pass how temp ps nx tm d).2.1.1<=tm.1+ps.length/\tm.1<=(pass how temp ps nx tm d).2.1.1/\
    (pass how temp ps nx tm d).2.2.1.length<=nx.length+ps.length
  | [],_,_,_=>⟨Nat.le_refl _,Nat.le_refl _,Nat.le_refl _,Nat.le_refl _,Nat.le_refl _⟩
  | p::ps,nx,tm,d=>by
    have hm:=merge_cnt how (tname temp (tm.1+1)) p d
    obtain ⟨g1,g2⟩:=gones_cnt p (tm.2++[tname temp (tm.1+1)]) (merge how (tname temp (tm.1+1)) p d).1
    simp only [List.length_append,List.length_cons,List.length_nil] at g2
    by_cases h:(merge how (tname temp (tm.1+1)) p d).2=0
    · by_cases g:(gones p (tm.2++[tname temp (tm.1+1)]) (merge how (tname temp (tm.1+1)) p d).1).2.2=0
      · rw [pass_one h g]
        obtain ⟨k1,k2,k3,k4,k5⟩:=pass_cnt (how:=how) (temp:=temp) ps (nx++[tname temp (tm.1+1)]) (tm.1+1,(gones p (tm.2++[tname temp (tm.1+1)]) (merge how (tname temp (tm.1+1)) p d).1).2.1) (gones p (tm.2++[tname temp (tm.1+1)]) (merge how (tname temp (tm.1+1)) p d).1).1
        simp only [List.length_append,List.length_cons,List.length_nil] at k1 k2 k3 k4 k5 ⊢
        exact ⟨by omega,by omega,by omega,by omega,by omega⟩
      · rw [pass_b2 h g];simp only [List.length_cons]
        exact ⟨by omega,by omega,by omega,by omega,by omega⟩
    · rw [pass_b1 h];simp only [List.length_cons,List.length_append,List.length_nil]
      exact ⟨by omega,by omega,by omega,by omega,by omega⟩
theorem levels_cnt {how:Int} {temp:Nm} {fan:Nat} (hf:2<=fan):∀ (k:Nat) (names:List Nm) (tm:Tm) (d:Disk),(levels how temp fan k names tm d).1.files.length+tm.1<=d.files.length+(levels how temp fan k names tm d).2.1.1/\(levels how temp fan k names tm d).2.1.2.length+tm.1<=tm.2.length+(levels how temp fan k names tm d).2.1.1/\(levels how temp fan k names tm d).2.1.1<=tm.1+2*names.length/\tm.1<=(levels how temp fan k names tm d).2.1.1
  | 0,_,_,_=>⟨Nat.le_refl _,Nat.le_refl _,by show _<=_;exact Nat.le_add_right _ _,Nat.le_refl _⟩
  | k+1,names,tm,d=>by
    by_cases hl:names.length<=1
    · rw [levels_end hl];exact ⟨Nat.le_refl _,Nat.le_refl _,Nat.le_add_right _ _,Nat.le_refl _⟩
    · obtain ⟨c1,c2,c3⟩:=chunk_few hf (l:=names) (by omega)
      obtain ⟨p1,p2,p3,p4,p5⟩:=pass_cnt (how:=how) (temp:=temp) (chunk fan names) [] tm d
      by_cases e:(pass how temp (chunk fan names) [] tm d).2.2.2=0
      · rw [levels_go hl e]
        obtain ⟨k1,k2,k3,k4⟩:=levels_cnt (how:=how) (temp:=temp) hf k (pass how temp (chunk fan names) [] tm d).2.2.1 (pass how temp (chunk fan names) [] tm d).2.1 (pass how temp (chunk fan names) [] tm d).1
        simp only [List.length_nil] at p5
        exact ⟨by omega,by omega,by omega,by omega⟩
      · rw [levels_bad hl e]
        exact ⟨p1,p2,by omega,p4⟩
theorem ends_cnt (out:Nm) (names:List Nm) (p:Nat) (tm:Tm) (d:Disk):(ends out names p tm d).1.files.length<=d.files.length+1/\(ends out names p tm d).2.1.2.length<=tm.2.length:=by
  unfold ends
  cases names with
  | nil=>exact ⟨write_cnt _ _ _,Nat.le_refl _⟩
  | cons a l=>
    have:=len_rename d a out
    simp only
    split
    · exact ⟨by simp only;omega,Nat.le_refl _⟩
    · exact ⟨by simp only;omega,Nat.zero_le _⟩
theorem all_cnt {nin:Nm} {sz:Nat} {out temp:Nm} {how:Int} {budget fan:Nat} (hf:2<=fan) (d:Disk):16*(all nin sz out temp how budget fan d).1.files.length<=16*d.files.length+3*sz+16/\16*(all nin sz out temp how budget fan d).2.1.2.length<=3*sz:=by
  obtain ⟨d1,tm1,nm1,n1,e1,hcut⟩:∃d1 tm1 nm1 n1 e1,cut nin sz temp how budget (rleft sz (0,[],false)+1) (0,[],false) [] [] 0 (0,[]) d=(d1,tm1,nm1,n1,e1):=⟨_,_,_,_,_,rfl⟩
  have hcc:=cut_cnt (nin:=nin) (sz:=sz) (temp:=temp) (how:=how) (budget:=budget) (rleft sz (0,[],false)+1) (0,[],false) [] [] 0 (0,[]) d
  have hcf:=cut_few (nin:=nin) (sz:=sz) (temp:=temp) (how:=how) (budget:=budget) (rleft sz (0,[],false)+1) (0,[],false) [] [] 0 (0,[]) d (RsOk.start _) (RsFit.start _) (Nat.le_refl _)
  rw [hcut] at hcc hcf
  simp only [List.length_nil] at hcc hcf
  by_cases he:e1=0
  · obtain ⟨d2,tm2,nm2,e2,h2⟩:∃d2 tm2 nm2 e2,levels how temp fan nm1.length nm1 tm1 d1=(d2,tm2,nm2,e2):=⟨_,_,_,_,rfl⟩
    have hl:=levels_cnt (how:=how) (temp:=temp) hf nm1.length nm1 tm1 d1
    rw [h2] at hl
    simp only at hl
    by_cases he2:e2=0
    · rw [all_g hcut he h2 he2]
      have:=ends_cnt out nm2 (passes n1 budget fan) tm2 d2
      omega
    · rw [all_b2 hcut he h2 he2];simp only;omega
  · rw [all_b1 hcut he];simp only;omega
end Go.Cg.Xs
end
section
namespace Go.Cg.Sh
set_option linter.unusedVariables false
set_option linter.unusedSimpArgs false
open Go.Cg.Dk Go.Cg.Rn
open Go.Cg.Tr (E)

def pack (e:E):R:=(e.f*4294967296+e.t,e.w)
def unpack (r:R):E:=⟨r.1 / 4294967296%4294967296,r.1%4294967296,r.2%4294967296⟩
def nPart:Nm:=[112,97,114,116,46]
def nRun:Nm:=[114,117,110]
def sname (i:Nat):Nm:=Cm.nShard++Go.Lib.itoa ((i:Nat):Int)
def pname (i:Nat):Nm:=nPart++Go.Lib.itoa ((i:Nat):Int)
/-- where an interval begins -/
def bnd (n s i:Int):Int:=i*n / s
/-- the interval of a vertex -/
def ofv (n s v:Int):Nat:=if Oc.part n s=false\/v < 0\/n<=v then 0 else (List.range s.toNat).findIdx fun (i:Nat)=>decide (v < bnd n s ((i:Int)+1))
def mine (n s:Int) (i:Nat) (es:List E):List E:=es.filter fun e=>decide (ofv n s e.t=i)
/-- a shard is made -/
def split (n s:Int) (es:List E) (i:Nat) (d:Disk):Disk×Nat:=write (pname i) ((mine n s i es).map pack) d
def oneB (n s:Int) (es:List E) (budget:Int) (i:Nat) (d:Disk):Disk×Nat:=
  if (split n s es i d).2≠0 then split n s es i d else
  ((Xs.sortD (pname i) (sname i) nRun budget 4 0 (split n s es i d).1).1,(Xs.sortD (pname i) (sname i) nRun budget 4 0 (split n s es i d).1).2.2)
def one (n s:Int) (es:List E) (budget:Int) (i:Nat) (d:Disk):Disk×Nat:=
  (((oneB n s es budget i d).1.remove (pname i)).1,if (oneB n s es budget i d).2≠0 then (oneB n s es budget i d).2 else ((oneB n s es budget i d).1.remove (pname i)).2)
/-- shards from k on, so many, go -/
def undo:Nat->Nat->Disk->Disk
  | 0,_,d=>d
  | c+1,k,d=>undo c (k+1) (d.remove (sname k)).1
def builds (n s:Int) (es:List E) (budget:Int):Nat->Nat->Disk->Disk×Nat
  | 0,_,d=>(d,0)
  | k+1,i,d=>if (one n s es budget i d).2≠0 then (undo i 0 (one n s es budget i d).1,(one n s es budget i d).2) else builds n s es budget k (i+1) (one n s es budget i d).1
def build (n s:Int) (es:List E) (budget:Int) (d:Disk):Disk×Nat:=
  if Oc.part n s=false\/Tr.graph n es=false\/budget < 1 then (d,1) else builds n s es budget s.toNat 0 d
def reads (i:Nat) (d:Disk):Disk×List E×Nat:=
  ((Rn.read (sname i) d).1,if (Rn.read (sname i) d).2.2≠0 then [] else (Rn.read (sname i) d).2.1.map unpack,(Rn.read (sname i) d).2.2)
/-! ### a sweep -/
/-- a shard that is gone through: a reader, the next edge, whether there is one -/
abbrev Cur:=Xs.Rd×E×Bool
def cur0:Cur:=(Xs.rd0,⟨0,0,0⟩,false)
def moves (c:Cur) (d:Disk):Disk×Cur×Nat:=
  ((rnext c.1.1 c.1.2.1 c.1.2.2 d).1,((c.1.1,c.1.2.1,(rnext c.1.1 c.1.2.1 c.1.2.2 d).2.1),unpack ((rnext c.1.1 c.1.2.1 c.1.2.2 d).2.2.1.getD (0,0)),(rnext c.1.1 c.1.2.1 c.1.2.2 d).2.2.1.isSome),(rnext c.1.1 c.1.2.1 c.1.2.2 d).2.2.2)
/-- edges below an end come out of one shard -/
def take1 (e:Int):Nat->Cur->List E->Disk->Disk×Cur×List E×Nat
  | 0,c,out,d=>(d,c,out,0)
  | k+1,c,out,d=>
    if c.2.2=true/\(c.2.1.f:Int) < e then
      if (moves c d).2.2≠0 then ((moves c d).1,(moves c d).2.1,[],(moves c d).2.2) else take1 e k (moves c d).2.1 (out++[c.2.1]) (moves c d).1
    else (d,c,out,0)
def cleft (c:Cur):Nat:=rleft c.1.2.1 c.1.2.2+1
/-- the window up to an end: the shards that were gone through, and those that are to be -/
def window (e:Int) (begun:Bool):List Cur->List Cur->List E->Disk->Disk×List Cur×List E×Nat
  | done,[],out,d=>(d,done,out,0)
  | done,c::l,out,d=>
    if begun=false/\(moves c d).2.2≠0 then ((moves c d).1,done++(moves c d).2.1::l,[],(moves c d).2.2) else
    let c1:=if begun then c else (moves c d).2.1
    let d1:=if begun then d else (moves c d).1
    let x:=take1 e (cleft c1+1) c1 out d1
    if x.2.2.2≠0 then (x.1,done++x.2.1::l,[],x.2.2.2) else window e begun (done++[x.2.1]) l x.2.2.1 x.1
structure Sw where
  l:List Cur
  ends:List Int
  at_:Nat
  err:Nat
  begun:Bool
def opens:Nat->Nat->List Cur->Disk->Disk×List Cur×Nat
  | 0,_,l,d=>(d,l,0)
  | k+1,i,l,d=>if (d.size (sname i)).2.2≠0 then ((d.size (sname i)).1,l,(d.size (sname i)).2.2) else opens k (i+1) (l++[((sname i,(d.size (sname i)).2.1,(0,[],false)),⟨0,0,0⟩,false)]) (d.size (sname i)).1
def ends (n s:Int):List Int:=(List.range s.toNat).map fun (i:Nat)=>bnd n s ((i:Int)+1)
def newSweep (n s:Int) (d:Disk):Disk×Option Sw×Nat:=
  if Oc.part n s=false then (d,none,1) else
  if (opens s.toNat 0 [] d).2.2≠0 then ((opens s.toNat 0 [] d).1,none,(opens s.toNat 0 [] d).2.2) else ((opens s.toNat 0 [] d).1,some ⟨(opens s.toNat 0 [] d).2.1,ends n s,0,0,false⟩,0)
def next (s:Sw) (d:Disk):Disk×Sw×List E×Bool×Nat:=
  if s.err≠0\/s.at_=s.ends.length then (d,s,[],false,s.err) else
  let x:=window (s.ends.getD s.at_ 0) s.begun [] s.l [] d
  if x.2.2.2≠0 then (x.1,{ s with l:=x.2.1,err:=x.2.2.2 },[],false,x.2.2.2) else (x.1,{ s with l:=x.2.1,at_:=s.at_+1,begun:=true,err:=0 },x.2.2.1,true,0)
end Go.Cg.Sh
end
section
namespace Go.Cg.Xs
set_option linter.unusedVariables false
set_option linter.unusedSimpArgs false
open Go.Cg.Dk Go.Cg.Oc Go.Cg.Sn Go.Cg.Cl
open Go.Cg.Rn hiding HeapOk MInv NextP UpEx DnEx lst

/-! ### names on the way -/
theorem itoa_nn (k:Nat):Go.Lib.itoa (k:Int)=Go.Lib.decDigits k:=by unfold Go.Lib.itoa;rw [if_neg (by omega)];rfl
theorem digits_pos (u:Nat):0 < (Go.Lib.decDigits u).length:=by
  unfold Go.Lib.decDigits;split<;>simp
theorem digits_inj:∀ {u v:Nat},Go.Lib.decDigits u=Go.Lib.decDigits v->u=v:=by
  intro u
  induction u using Nat.strongRecOn with
  | ind u ih=>
    intro v h
    unfold Go.Lib.decDigits at h
    have c8:∀ {a b:Nat},a < 10->b < 10->UInt8.ofNat (48+a)=UInt8.ofNat (48+b)->a=b:=fun {a b} ha hb h=>by
      have:=congrArg UInt8.toNat h
      simp at this;omega
    by_cases h1:u < 10<;>by_cases h2:v < 10
    · rw [dif_pos h1,dif_pos h2] at h
      exact c8 h1 h2 (by simpa using h)
    · rw [dif_pos h1,dif_neg h2] at h
      have h3:=congrArg List.length h
      have h4:=digits_pos (v / 10)
      rw [List.length_append,List.length_singleton,List.length_singleton] at h3;omega
    · rw [dif_neg h1,dif_pos h2] at h
      have h3:=congrArg List.length h
      have h4:=digits_pos (u / 10)
      rw [List.length_append,List.length_singleton,List.length_singleton] at h3;omega
    · rw [dif_neg h1,dif_neg h2] at h
      have h3:=List.append_inj' h rfl
      have h4:=ih (u / 10) (by omega) h3.1
      have h5:=c8 (by omega) (by omega) (List.singleton_inj.1 h3.2)
      omega
theorem digits_len:∀ (k u:Nat),u < 10 ^ (k+1)->(Go.Lib.decDigits u).length<=k+1:=by
  intro k
  induction k with
  | zero=>
    intro u hu
    unfold Go.Lib.decDigits
    split
    · simp
    · exfalso;omega
  | succ k ih=>
    intro u hu
    unfold Go.Lib.decDigits
    split
    · simp
    · have:=ih (u / 10) (by rw [Nat.pow_succ] at hu;omega)
      simp;omega
theorem tname_inj {temp:Nm} {i j:Nat} (h:tname temp i=tname temp j):i=j:=by
  unfold tname at h
  have:=List.append_cancel_left h
  rw [itoa_nn,itoa_nn] at this
  exact digits_inj this
theorem tname_may {temp:Nm} (ht:temp.length<=15) {k:Nat} (hk:k < 100000000):may (tname temp k)=true:=by
  unfold may tname
  have h1:=digits_len 7 k (by omega)
  rw [decide_eq_true_eq,itoa_nn]
  exact ⟨by simp,by simp;omega⟩
/-! ### what is combined, in parts -/
def Eqv (how:Int) (l m:List R):Prop:=if how=0 then l.Perm m else ∀ k,agg how l k=agg how m k
theorem Eqv.perm {how:Int} {l m:List R} (h:l.Perm m):Eqv how l m:=by
  unfold Eqv;split
  · exact h
  · exact fun k=>agg_perm h
theorem Eqv.self {how:Int} {l:List R}:Eqv how l l:=Eqv.perm (List.Perm.refl l)
theorem Eqv.trans {how:Int} {l m n:List R} (h:Eqv how l m) (k:Eqv how m n):Eqv how l n:=by
  unfold Eqv at *;split at h
  · rename_i e;rw [if_pos e] at k ⊢;exact h.trans k
  · rename_i e;rw [if_neg e] at k ⊢;exact fun j=>(h j).trans (k j)
theorem Eqv.app {how:Int} {l m l' m':List R} (h:Eqv how l m) (k:Eqv how l' m'):Eqv how (l++l') (m++m'):=by
  unfold Eqv at *;split at h
  · rename_i e;rw [if_pos e] at k ⊢;exact h.append k
  · rename_i e;rw [if_neg e] at k ⊢;exact fun j=>by rw [agg_app,agg_app,h j,k j]
theorem Eqv.same {how:Int} {l m:List R} (h:Eqv how l m):fold how (sort l)=fold how (sort m):=by
  unfold Eqv at h;split at h
  · rw [sort_of_perm h]
  · rename_i e;exact fold_eq e h
theorem fold_zero (l:List R):fold 0 l=l:=by
  have key:∀ l m:List R,l.foldl (Rn.fput 0) m=m++l:=by
    intro l
    induction l with
    | nil=>intro m;simp
    | cons x l ih=>
      intro m
      rw [List.foldl_cons,ih]
      unfold Rn.fput
      cases h:m.getLast? with
      | none=>rw [List.getLast?_eq_none_iff.1 h];rfl
      | some z=>simp
  exact key l []
theorem Eqv.folded (how:Int) (l:List R):Eqv how (fold how (Rn.sort l)) l:=by
  unfold Eqv;split
  · rename_i e;rw [e,fold_zero];exact sort_perm l
  · rename_i e;exact fun k=>by rw [agg_fold e,agg_perm (sort_perm l)]
theorem oc_some {how:Int} {a:Nat} {x:Option Nat}:oc how (some a) x≠none:=by cases x<;>simp [oc]
theorem Eqv.nil {how:Int} {l:List R} (h:Eqv how [] l):l=[]:=by
  unfold Eqv at h;split at h
  · exact List.nil_perm.1 h
  · cases l with
    | nil=>exact List.nil_eq.1 (by rfl)
    | cons r l=>have:=h r.1;rw [agg,agg,if_pos (by rfl)] at this;exact absurd this.symm oc_some
/-- a file of records that are sorted, and combined -/
structure Row (how:Int) (l:List R):Prop where
  bd:Bd l
  up:Up l
  fx:fold how (sort l)=l
theorem up_kup {l:List R} (h:KUp l):Up l:=List.Pairwise.imp (fun {a b} k=>by rw [ltb_not];omega) h
theorem Row.of {how:Int} {l:List R} (h:Bd l):Row how (fold how (sort l)):=by
  refine ⟨fold_bd how _ h.sort,?_,?_⟩
  · by_cases e:how=0
    · rw [e,fold_zero];exact sort_up l
    · exact up_kup (fold_kup e (sort_up l))
  · by_cases e:how=0
    · rw [e,fold_zero,fold_zero];exact sort_eq (List.Perm.refl _) (sort_up l)
    · exact fold_self e (fold_kup e (sort_up l))
/-! ### files on the way -/
abbrev Pt:=List (Nm×List R)
def flat (P:Pt):List R:=(P.map (·.2)).flatten
theorem flat_app (P Q:Pt):flat (P++Q)=flat P++flat Q:=by simp [flat]
theorem flat_one (p:Nm×List R):flat [p]=p.2:=by simp [flat]
@[simp] theorem flat_nil:flat []=[]:=rfl
theorem flat_cons (p:Nm×List R) (P:Pt):flat (p::P)=p.2++flat P:=by simp [flat]
theorem used_ext {fs0:Fs}:∀ (P:Pt) (fs:Fs),rising fs->rising fs0->(P.map (·.1)).Nodup->(∀ p∈P,fget fs0 p.1=none)->(∀ p∈P,fget fs p.1=some ⟨FB p.2,FB p.2⟩)->(∀ m,m∉P.map (·.1)->fget fs m=fget fs0 m)->used fs<=used fs0+2*(flat P).length
  | [],fs,h,h0,_,_,_,ho=>by
    rw [files_ext h h0 (fun m=>ho m (by simp))];simp
  | p::P,fs,h,h0,hn,hz,hg,ho=>by
    simp only [List.map_cons,List.nodup_cons] at hn
    have hp:=hg p List.mem_cons_self
    have h1:=used_fdel h hp
    have h2:=used_ext P (fdel fs p.1) (rising_fdel h _) h0 hn.2 (fun q hq=>hz q (List.mem_cons_of_mem _ hq)) (fun q hq=>by
      rw [fget_fdel,if_neg (fun c:q.1=p.1=>hn.1 (c▸List.mem_map_of_mem hq))];exact hg q (List.mem_cons_of_mem _ hq)) (fun m hm=>by
      rw [fget_fdel]
      by_cases e:m=p.1
      · rw [if_pos e,e];exact (hz p List.mem_cons_self).symm
      · rw [if_neg e];exact ho m (by simp only [List.map_cons,List.mem_cons,not_or];exact ⟨e,hm⟩))
    have h3:=sec_FBn p.2
    have h4:=secN_le p.2.length
    simp only at h1
    rw [flat_cons,List.length_append]
    omega
structure Tmp (fs0:Fs) (temp out:Nm) (K:Nat):Prop where
  ok:∀ k,k<=K->may (tname temp k)=true
  no:∀ k,fget fs0 (tname temp k)=none
  ne:∀ k,tname temp k≠out
  ris:rising fs0
  ou:fget fs0 out=none
  mo:may out=true
  fine:∀ m f,fget fs0 m=some f->f.syn.length<=f.now.length
/-- what is used behind a crash -/
theorem part_used {n:Nm} {c:Nat} {fs fs':Fs} (h:Part n c fs fs') (hr:rising fs) (hn:fget fs n=none) (hf:∀ m f,fget fs m=some f->f.syn.length<=f.now.length) (k:List Bool):used (tornAll fs' k)<=used fs+c:=by
  have h1:∀ p∈fs',p.2.syn.length<=p.2.now.length:=fun p hp=>by
    have hg:=fget_of_mem h.ris hp
    by_cases e:p.1=n
    · rw [e] at hg;rw [(h.few _ hg).1];exact Nat.zero_le _
    · rw [h.off _ e] at hg;exact hf _ _ hg
  have h2:=used_torn k h1
  cases hx:fget fs' n with
  | none=>
    have:fs'=fs:=files_ext h.ris hr fun m=>by
      by_cases e:m=n
      · rw [e,hx,hn]
      · exact h.off m e
    rw [this] at h2 ⊢;omega
  | some f=>
    have h3:=used_fdel h.ris hx
    have h4:=(h.few f hx).2
    rw [show fdel fs' n=fs from files_ext (rising_fdel h.ris _) hr fun m=>by
      rw [fget_fdel]
      by_cases e:m=n
      · rw [if_pos e,e,hn]
      · rw [if_neg e];exact h.off m e] at h3
    omega
structure Inv (fs0:Fs) (temp:Nm) (how:Int) (nx:Nat) (made:List Nm) (P:Pt) (fs:Fs):Prop where
  ris:rising fs
  nd:(P.map (·.1)).Nodup
  nm:∀ n∈made,∃k,k<=nx/\n=tname temp k
  mem:∀ p∈P,p.1∈made
  get:∀ p∈P,fget fs p.1=some ⟨FB p.2,FB p.2⟩
  off:∀ m,m∉P.map (·.1)->fget fs m=fget fs0 m
  row:∀ p∈P,Row how p.2
section
variable {fs0:Fs} {temp out:Nm} {K:Nat} {how:Int} {nx:Nat} {made:List Nm} {P:Pt} {fs:Fs}
theorem Inv.in_made (h:Inv fs0 temp how nx made P fs) {m:Nm} (hm:m∉made):fget fs m=fget fs0 m:=h.off m fun c=>by
  obtain ⟨p,hp,rfl⟩:=List.mem_map.1 c
  exact hm (h.mem p hp)
theorem Inv.away (h:Inv fs0 temp how nx made P fs) {m:Nm} (hm:∀ k,m≠tname temp k):fget fs m=fget fs0 m:=h.in_made fun c=>by
  obtain ⟨k,_,e⟩:=h.nm m c
  exact hm k e
theorem Inv.new (h:Inv fs0 temp how nx made P fs):tname temp (nx+1)∉made:=fun c=>by
  obtain ⟨k,hk,e⟩:=h.nm _ c
  have:=tname_inj e
  omega
theorem Inv.vac (h:Inv fs0 temp how nx made P fs) (T:Tmp fs0 temp out K):fget fs (tname temp (nx+1))=none:=by rw [h.in_made h.new];exact T.no _
theorem Inv.fine (h:Inv fs0 temp how nx made P fs) (T:Tmp fs0 temp out K):∀ m f,fget fs m=some f->f.syn.length<=f.now.length:=fun m f hf=>by
  by_cases e:m∈P.map (·.1)
  · obtain ⟨p,hp,rfl⟩:=List.mem_map.1 e
    rw [h.get p hp] at hf;cases hf;exact Nat.le_refl _
  · rw [h.off m e] at hf;exact T.fine m f hf
theorem Inv.all (h:Inv fs0 temp how nx made P fs) (T:Tmp fs0 temp out K):∀ p∈fs,p.2.syn.length<=p.2.now.length:=fun p hp=>h.fine T _ _ (fget_of_mem h.ris hp)
theorem Inv.room (h:Inv fs0 temp how nx made P fs) (T:Tmp fs0 temp out K):used fs<=used fs0+2*(flat P).length:=used_ext P fs h.ris T.ris h.nd (fun p hp=>by
  obtain ⟨k,_,e⟩:=h.nm _ (h.mem p hp)
  rw [e];exact T.no k) h.get h.off
theorem Inv.add (h:Inv fs0 temp how nx made P fs) {L:List R} (hL:Row how L) {fs':Fs} (hr:rising fs') (hg:∀ m,fget fs' m=if m=tname temp (nx+1) then some ⟨FB L,FB L⟩ else fget fs m):Inv fs0 temp how (nx+1) (made++[tname temp (nx+1)]) (P++[(tname temp (nx+1),L)]) fs':=by
  have hnew:∀ p∈P,p.1≠tname temp (nx+1):=fun p hp e=>h.new (e▸h.mem p hp)
  refine ⟨hr,?_,fun n hn=>?_,fun p hp=>?_,fun p hp=>?_,fun m hm=>?_,fun p hp=>?_⟩
  · rw [List.map_append,List.nodup_append]
    refine ⟨h.nd,by simp,fun a ha b hb=>?_⟩
    obtain ⟨p,hp,rfl⟩:=List.mem_map.1 ha
    simp only [List.map_cons,List.map_nil,List.mem_singleton] at hb
    rw [hb];exact hnew p hp
  · rcases List.mem_append.1 hn with hn | hn
    · obtain ⟨k,hk,e⟩:=h.nm n hn;exact ⟨k,by omega,e⟩
    · exact ⟨nx+1,Nat.le_refl _,List.mem_singleton.1 hn⟩
  · rcases List.mem_append.1 hp with hp | hp
    · exact List.mem_append_left _ (h.mem p hp)
    · rw [List.mem_singleton.1 hp];exact List.mem_append_right _ (by simp)
  · rcases List.mem_append.1 hp with hp | hp
    · rw [hg,if_neg (hnew p hp)];exact h.get p hp
    · rw [List.mem_singleton.1 hp,hg,if_pos (by rfl)]
  · simp only [List.map_append,List.map_cons,List.map_nil,List.mem_append,List.mem_singleton,not_or] at hm
    rw [hg,if_neg hm.2];exact h.off m hm.1
  · rcases List.mem_append.1 hp with hp | hp
    · exact h.row p hp
    · rw [List.mem_singleton.1 hp];exact hL
theorem Inv.del (T:Tmp fs0 temp out K) {Q:Pt} (h:Inv fs0 temp how nx made (Q++P) fs) {fs':Fs} {md:List Nm} (hr:rising fs') (hg:∀ m,fget fs' m=if m∈Q.map (·.1) then none else fget fs m) (hm:∀ m,m∈md↔m∈made/\m∉Q.map (·.1)):Inv fs0 temp how nx md P fs':=by
  have hd:=h.nd
  rw [List.map_append,List.nodup_append] at hd
  have hne:∀ p∈P,p.1∉Q.map (·.1):=fun p hp c=>hd.2.2 _ c _ (List.mem_map_of_mem hp) rfl
  refine ⟨hr,hd.2.1,fun n hn=>h.nm n ((hm n).1 hn).1,fun p hp=>(hm _).2 ⟨h.mem p (List.mem_append_right _ hp),hne p hp⟩,fun p hp=>?_,fun m hp=>?_,fun p hp=>h.row p (List.mem_append_right _ hp)⟩
  · rw [hg,if_neg (hne p hp)];exact h.get p (List.mem_append_right _ hp)
  · rw [hg]
    by_cases e:m∈Q.map (·.1)
    · rw [if_pos e]
      obtain ⟨q,hq,rfl⟩:=List.mem_map.1 e
      obtain ⟨k,_,e⟩:=h.nm _ (h.mem q (List.mem_append_left _ hq))
      rw [e];exact (T.no k).symm
    · rw [if_neg e];exact h.off m (by rw [List.map_append,List.mem_append];exact fun c=>c.elim e hp)
theorem Inv.perm (h:Inv fs0 temp how nx made P fs) {Q:Pt} (hp:P.Perm Q):Inv fs0 temp how nx made Q fs:=
  ⟨h.ris,(hp.map _).nodup_iff.1 h.nd,h.nm,fun p hq=>h.mem p (hp.mem_iff.2 hq),fun p hq=>h.get p (hp.mem_iff.2 hq),fun m hm=>h.off m (fun c=>hm ((hp.map _).mem_iff.1 c)),fun p hq=>h.row p (hp.mem_iff.2 hq)⟩
end
/-! ### how it fails -/
def Bad (d:Disk) (fs0:Fs) (N e E:Nat):Prop:=(E=e/\e≠0)\/(E=6/\d.room < used fs0+4*N)
theorem Bad.ne {d:Disk} {fs0:Fs} {N e E:Nat} (h:Bad d fs0 N e E):E≠0:=by rcases h with ⟨h,k⟩ | ⟨h,k⟩<;>omega
def Fall (d:Disk) (a:Nat) (fs0:Fs) (out temp:Nm) (N:Nat) (D:Disk):Prop:=1<=a/\∃o' fs',D=dn d o' (tornAll fs' d.keep)/\used (tornAll fs' d.keep)<=used fs0+4*N/\∀ m,m≠out->(∀ k,m≠tname temp k)->fget fs' m=fget fs0 m
def Fails (d:Disk) (a:Nat) (fs0:Fs) (out temp:Nm) (N e:Nat) (md:List Nm) (x:Disk×Nat):Prop:=
  (Fall d a fs0 out temp N x.1/\x.2=7)\/∃o' a' fs',x.1=dk d o' a' fs'/\Bad d fs0 N e x.2/\(a=0->a'=0)/\rising fs'/\(∀ m∈md,∃k,m=tname temp k)/\∀ m,m∉md->m≠out->fget fs' m=fget fs0 m
section
variable {d:Disk} {a:Nat} {fs0:Fs} {out temp:Nm} {N e:Nat} {md:List Nm} {x:Disk×Nat}
theorem Fails.ne (h:Fails d a fs0 out temp N e md x):x.2≠0:=by
  rcases h with ⟨_,h⟩ | ⟨_,_,_,_,h,_⟩
  · omega
  · exact h.ne
theorem Fails.step {a':Nat} (h:Fails d a' fs0 out temp N e md x) (ha:a=0->a'=0):Fails d a fs0 out temp N e md x:=by
  rcases h with ⟨⟨h1,o',f',h2,h3⟩,h⟩ | ⟨o',a2,f',h1,h2,h3,h4,h5,h6⟩
  · exact .inl ⟨⟨by omega,o',f',h2,h3⟩,h⟩
  · exact .inr ⟨o',a2,f',h1,h2,fun c=>h3 (ha c),h4,h5,h6⟩
end
section
variable {d:Disk} (hu:d.down=false)
include hu
theorem gones_go:∀ (l made:List Nm) (o:Int) (a:Nat) (fs:Fs),rising fs->
    (1<=a/\∃o' fs' md,gones l made (dk d o a fs)=(dn d o' (tornAll fs' d.keep),md,7)/\(∀ m,m∉l->fget fs' m=fget fs m)/\rising fs'/\used fs'<=used fs/\∀ m f,fget fs' m=some f->fget fs m=some f)\/
    ∃o' a' fs' md,gones l made (dk d o a fs)=(dk d o' a' fs',md,0)/\(a=0->a'=0)/\rising fs'/\(∀ m,m∈md↔m∈made/\m∉l)/\∀ m,fget fs' m=if m∈l then none else fget fs m
  | [],made,o,a,fs,hr=>.inr ⟨o,a,fs,made,rfl,id,hr,fun m=>by simp,fun m=>by simp⟩
  | n::l,made,o,a,fs,hr=>by
    rw [gones]
    by_cases a1:a=1
    · subst a1;left
      rw [remove_fall hu,if_pos (by simp)]
      exact ⟨Nat.le_refl _,_,fs,made,rfl,fun _ _=>rfl,hr,Nat.le_refl _,fun _ _ h=>h⟩
    have hrm:((dk d o a fs).remove n).1=dk d (nx o) (a - 1) (fdel fs n)/\¬ (((dk d o a fs).remove n).2≠0/\((dk d o a fs).remove n).2≠4):=by
      cases hf:fget fs n with
      | none=>rw [remove_none hu o a fs a1 hf];exact ⟨rfl,by simp⟩
      | some f=>rw [remove_up hu o a fs a1 hf];exact ⟨rfl,by simp⟩
    rw [if_neg hrm.2,hrm.1]
    rcases gones_go l (made.filter fun m=> !decide (m=n)) (nx o) (a - 1) (fdel fs n) (rising_fdel hr n) with ⟨k1,o',f',md,k2,k3,k7,k8,k9⟩ | ⟨o',a',f',md,k2,k3,k4,k5,k6⟩
    · refine .inl ⟨by omega,o',f',md,k2,fun m hm=>?_,k7,Nat.le_trans k8 (used_fdel_le hr n),fun m f hf=>by have:=k9 m f hf;rw [fget_fdel] at this;split at this<;>first | exact this | cases this⟩
      simp only [List.mem_cons,not_or] at hm
      rw [k3 m hm.2,fget_fdel,if_neg hm.1]
    · refine .inr ⟨o',a',f',md,k2,fun c=>k3 (by omega),k4,fun m=>?_,fun m=>?_⟩
      · rw [k5];simp only [List.mem_filter,List.mem_cons,not_or,Bool.not_eq_eq_eq_not,Bool.not_true,decide_eq_false_iff_not]
        exact ⟨fun h=>⟨h.1.1,h.1.2,h.2⟩,fun h=>⟨⟨h.1,h.2.1⟩,h.2.2⟩⟩
      · rw [k6,fget_fdel]
        by_cases e:m=n
        · subst e;simp
        · rw [if_neg e];simp only [List.mem_cons,e,false_or]
end
theorem gones_dn {d:Disk} (o:Int) (fs:Fs) (l made:List Nm):∃o',(gones l made (dn d o fs)).1=dn d o' fs:=by
  cases l with
  | nil=>exact ⟨o,rfl⟩
  | cons n l=>rw [gones,remove_dn,if_pos (by simp)];exact ⟨_,rfl⟩
section
variable {d:Disk} (hu:d.down=false) {fs0:Fs} {temp out:Nm} {K:Nat} (T:Tmp fs0 temp out K) {how:Int} (N e:Nat)
include hu T
theorem run_go {l:List R} (hb:Bd l) (o:Int) (a:Nat) {nx:Nat} {made:List Nm} {P:Pt} {fs:Fs} (h:Inv fs0 temp how nx made P fs) (hK:nx+1<=K) (hN:(flat P).length+l.length<=N):
    Fails d a fs0 out temp N e (made++[tname temp (nx+1)]) ((run temp how l (nx,made) (dk d o a fs)).1,(run temp how l (nx,made) (dk d o a fs)).2.2)\/
    ∃o' a' fs',run temp how l (nx,made) (dk d o a fs)=(dk d o' a' fs',(nx+1,made++[tname temp (nx+1)]),0)/\(a=0->a'=0)/\Inv fs0 temp how (nx+1) (made++[tname temp (nx+1)]) (P++[(tname temp (nx+1),fold how (sort l))]) fs':=by
  have hU:=h.room T
  have hlen:(fold how (sort l)).length<=l.length:=by have:=fold_len how (sort l);simpa using this
  have h3:=sec_FBn (fold how (sort l))
  have h4:=secN_le (fold how (sort l)).length
  unfold run
  rcases write_all hu o a h.ris (T.ok _ hK) (h.vac T) (fold how (sort l)) with ⟨k1,o',f',k2,k3⟩ | ⟨o',a',f',k2,k3,k4,k5,k6,k7,k8⟩ | ⟨o',a',f',k2,k3,k4,k5,k6,k7⟩
  · left;simp only;rw [k2]
    exact .inl ⟨⟨k1,o',f',rfl,by have:=part_used k3 h.ris (h.vac T) (h.fine T) d.keep;omega,fun m _ hm=>by rw [k3.off m (hm _),h.away hm]⟩,rfl⟩
  · left;simp only;rw [k2]
    refine .inr ⟨o',a',f',rfl,.inr ⟨rfl,by omega⟩,k3,k4,fun m hm=>?_,fun m hm _=>?_⟩
    · rcases List.mem_append.1 hm with hm | hm
      · obtain ⟨k,_,c⟩:=h.nm m hm;exact ⟨k,c⟩
      · exact ⟨_,List.mem_singleton.1 hm⟩
    · simp only [List.mem_append,List.mem_singleton,not_or] at hm
      rw [k6 m hm.2,h.in_made hm.1]
  · right;simp only;rw [k2]
    exact ⟨o',a',f',rfl,k3,h.add (Row.of hb) k4 k5⟩
theorem cut_go {nin:Nm} {f:Fl} (hf:fget fs0 nin=some f) (budget:Nat):∀ (k:Nat) (s:Rs) (r l:List R) (P:Pt) (n:Nat) (nx:Nat) (made:List Nm) (o:Int) (a:Nat) (fs:Fs),
    Rds f.now s r e->r.length < k->Bd l->Bd r->Inv fs0 temp how nx made P fs->nx+(l.length+r.length)<=K->(flat P).length+(l.length+r.length)<=N->
    Fails d a fs0 out temp N e (cut nin f.now.length temp how budget k s l (P.map (·.1)) n (nx,made) (dk d o a fs)).2.1.2 ((cut nin f.now.length temp how budget k s l (P.map (·.1)) n (nx,made) (dk d o a fs)).1,(cut nin f.now.length temp how budget k s l (P.map (·.1)) n (nx,made) (dk d o a fs)).2.2.2.2)\/
    (e=0/\∃o' a' fs' nx' made' P',cut nin f.now.length temp how budget k s l (P.map (·.1)) n (nx,made) (dk d o a fs)=(dk d o' a' fs',(nx',made'),P'.map (·.1),n+r.length,0)/\(a=0->a'=0)/\Inv fs0 temp how nx' made' P' fs'/\Eqv how (flat P') (flat P++(l++r))/\(flat P').length<=(flat P).length+(l.length+r.length)/\nx'<=nx+(l.length+r.length)/\P'.length<=P.length+(l.length+r.length))
  | 0,_,_,_,_,_,_,_,_,_,_,_,hk,_,_,_,_,_=>absurd hk (Nat.not_lt_zero _)
  | k+1,s,r,l,P,n,nx,made,o,a,fs,hr,hk,hbl,hbr,hI,hK,hN=>by
    have hin:fget fs nin=some f:=by
      rw [hI.away (fun j c=>by rw [c,T.no] at hf;cases hf)];exact hf
    rcases rnext_pure hu o a hin s with ⟨k1,o',k2⟩ | ⟨o',a',k2,k3⟩
    · left
      rw [cut,k2,if_pos (by simp)]
      exact .inl ⟨⟨k1,o',fs,rfl,by have:=used_torn d.keep (hI.all T);have:=hI.room T;omega,fun m _ hm=>hI.away hm⟩,rfl⟩
    cases r with
    | nil=>
      have hr:pnext f.now s=(s,none,e):=hr
      rw [cut,k2,hr]
      by_cases he:e=0
      · rw [if_neg (fun c=>c he)]
        simp only
        by_cases hl:l=[]
        · rw [if_pos hl]
          right
          subst hl
          refine ⟨he,o',a',fs,nx,made,P,rfl,k3,hI,?_,by simp,by simp,by simp⟩
          rw [List.append_nil,List.append_nil];exact Eqv.self
        · rw [if_neg hl]
          have hp:=List.length_pos_iff.2 hl
          rcases run_go hu T N e hbl o' a' hI (by omega) (by omega) with h | ⟨o2,a2,f2,j1,j2,j3⟩
          · left
            rw [if_pos h.ne]
            exact h.step k3
          · right
            rw [j1,if_neg (by simp)]
            refine ⟨he,o2,a2,f2,nx+1,_,_,by simp,fun c=>j2 (k3 c),j3,?_,?_,by omega,by simp;omega⟩
            · rw [flat_app,flat_one,List.append_nil];exact Eqv.self.app (Eqv.folded how l)
            · rw [flat_app,flat_one]
              have:=fold_len how (sort l)
              simp at this ⊢;omega
      · rw [if_pos he]
        left
        refine .inr ⟨o',a',fs,rfl,.inl ⟨rfl,he⟩,k3,hI.ris,fun m hm=>?_,fun m hm _=>hI.in_made hm⟩
        obtain ⟨j,_,c⟩:=hI.nm m hm;exact ⟨j,c⟩
    | cons x r=>
      obtain ⟨s',h1,h2⟩:=hr
      have hbx:Bd (l++[x]):=hbl.app fun z hz=>by rw [List.mem_singleton.1 hz];exact hbr x List.mem_cons_self
      have hb2:Bd r:=fun z hz=>hbr z (List.mem_cons_of_mem _ hz)
      simp only [List.length_cons] at hk hK hN
      rw [cut,k2,h1,if_neg (by simp)]
      simp only
      by_cases hb:l.length+1=budget
      · rw [if_pos hb]
        rcases run_go hu T N e hbx o' a' hI (by omega) (by simp;omega) with h | ⟨o2,a2,f2,j1,j2,j3⟩
        · left
          rw [if_pos h.ne]
          exact h.step k3
        · rw [j1,if_neg (by simp)]
          simp only
          have hfl:=fold_len how (sort (l++[x]))
          simp only [len_sort,List.length_append,List.length_cons,List.length_nil] at hfl
          have:=cut_go (nin:=nin) hf budget k s' r [] (P++[(tname temp (nx+1),fold how (sort (l++[x])))]) (n+1) (nx+1) (made++[tname temp (nx+1)]) o2 a2 f2 h2 (by omega) (fun z hz=>by cases hz) hb2 j3 (by simp;omega) (by rw [flat_app,flat_one];simp;omega)
          rw [show (P++[(tname temp (nx+1),fold how (sort (l++[x])))]).map (·.1)=P.map (·.1)++[tname temp (nx+1)] from by simp] at this
          rcases this with h | ⟨he,o3,a3,f3,nx3,m3,P3,q1,q2,q3,q4,q5,q6,q7⟩
          · exact .inl (h.step fun c=>j2 (k3 c))
          · right
            rw [flat_app,flat_one] at q4 q5
            simp only [List.length_append,List.length_cons,List.length_nil] at q5 q6 q7 ⊢
            refine ⟨he,o3,a3,f3,nx3,m3,P3,by rw [q1,show n+1+r.length=n+(r.length+1) from by omega],fun c=>q2 (j2 (k3 c)),q3,q4.trans ?_,by omega,by omega,by omega⟩
            rw [List.append_assoc,List.nil_append,show l++x::r=(l++[x])++r from by simp]
            exact Eqv.self.app ((Eqv.folded how _).app Eqv.self)
      · rw [if_neg hb]
        rcases cut_go (nin:=nin) hf budget k s' r (l++[x]) P (n+1) nx made o' a' fs h2 (by omega) hbx hb2 hI (by simp;omega) (by simp;omega) with h | ⟨he,o3,a3,f3,nx3,m3,P3,q1,q2,q3,q4,q5,q6,q7⟩
        · exact .inl (h.step k3)
        · right
          simp only [List.length_append,List.length_cons,List.length_nil] at q5 q6 q7 ⊢
          refine ⟨he,o3,a3,f3,nx3,m3,P3,by rw [q1,show n+1+r.length=n+(r.length+1) from by omega],fun c=>q2 (k3 c),q3,?_,by omega,by omega,by omega⟩
          rw [show l++x::r=(l++[x])++r from by simp];exact q4
end
end Go.Cg.Xs
end
section
namespace Go.Cg.Xs
set_option linter.unusedVariables false
set_option linter.unusedSimpArgs false
open Go.Cg.Dk Go.Cg.Oc Go.Cg.Sn Go.Cg.Cl
open Go.Cg.Rn hiding HeapOk MInv NextP UpEx DnEx lst

theorem flat_bd {how:Int}:∀ {P:Pt},(∀ p∈P,Row how p.2)->Bd (flat P)
  | [],_=>fun z hz=>by cases hz
  | p::P,h=>by rw [flat_cons];exact (h p List.mem_cons_self).bd.app (flat_bd fun q hq=>h q (List.mem_cons_of_mem _ hq))
theorem chunk_map {α β:Type} (g:α->β) (f:Nat):∀ (k:Nat) (l:List α),l.length<=k->chunk f (l.map g)=(chunk f l).map (List.map g)
  | 0,l,h=>by
    have h0:l=[]:=List.eq_nil_of_length_eq_zero (by omega)
    rw [h0,chunk_nil rfl,List.map_nil,chunk_nil rfl,List.map_nil]
  | k+1,l,h=>by
    by_cases h0:l=[]
    · rw [h0,chunk_nil rfl,List.map_nil,chunk_nil rfl,List.map_nil]
    by_cases hf:f=0
    · rw [chunk,dif_pos (.inr hf),chunk,dif_pos (.inr hf),List.map_nil]
    have hp:=List.length_pos_iff.2 h0
    rw [chunk_cons h0 (by omega),chunk_cons (by simpa using h0) (by omega),List.map_cons,<-List.map_take,<-List.map_drop,chunk_map g f k _ (by simp;omega)]
theorem chunk_flat {α:Type} {f:Nat} (hf:0 < f):∀ (k:Nat) (l:List α),l.length<=k->(chunk f l).flatten=l
  | 0,l,h=>by rw [List.eq_nil_of_length_eq_zero (show l.length=0 by omega),chunk_nil rfl,List.flatten_nil]
  | k+1,l,h=>by
    by_cases h0:l=[]
    · rw [h0,chunk_nil rfl,List.flatten_nil]
    have hp:=List.length_pos_iff.2 h0
    rw [chunk_cons h0 hf,List.flatten_cons,chunk_flat hf k _ (by simp;omega),List.take_append_drop]
section
variable {d:Disk} (hu:d.down=false) {fs0:Fs} {temp out:Nm} {K:Nat} (T:Tmp fs0 temp out K) {how:Int} (N e:Nat)
include hu T
theorem pass_go:∀ (Qs:List Pt) (Nx:Pt) (nx:Nat) (made:List Nm) (o:Int) (a:Nat) (fs:Fs),
    Inv fs0 temp how nx made (Qs.flatten++Nx) fs->nx+Qs.length<=K->(flat (Qs.flatten++Nx)).length<=N->
    Fails d a fs0 out temp N e (pass how temp (Qs.map (List.map (·.1))) (Nx.map (·.1)) (nx,made) (dk d o a fs)).2.1.2 ((pass how temp (Qs.map (List.map (·.1))) (Nx.map (·.1)) (nx,made) (dk d o a fs)).1,(pass how temp (Qs.map (List.map (·.1))) (Nx.map (·.1)) (nx,made) (dk d o a fs)).2.2.2)\/
    ∃o' a' fs' made' Nx',pass how temp (Qs.map (List.map (·.1))) (Nx.map (·.1)) (nx,made) (dk d o a fs)=(dk d o' a' fs',(nx+Qs.length,made'),Nx'.map (·.1),0)/\(a=0->a'=0)/\Inv fs0 temp how (nx+Qs.length) made' Nx' fs'/\Eqv how (flat Nx') (flat (Qs.flatten++Nx))/\(flat Nx').length<=(flat (Qs.flatten++Nx)).length/\Nx'.length=Nx.length+Qs.length
  | [],Nx,nx,made,o,a,fs,hI,_,_=>.inr ⟨o,a,fs,made,Nx,rfl,id,by simpa using hI,by simpa using Eqv.self,by simp,by simp⟩
  | Q::Qs,Nx,nx,made,o,a,fs,hI,hK,hN=>by
    have hs:Inv fs0 temp how nx made (Q++(Qs.flatten++Nx)) fs:=by simpa [List.flatten_cons,List.append_assoc] using hI
    have hsl:(flat Q).length+(flat (Qs.flatten++Nx)).length<=N:=by
      rw [List.flatten_cons,List.append_assoc,flat_app,List.length_append] at hN;exact hN
    have hQ:∀ p∈Q,Row how p.2:=fun p hp=>hs.row p (List.mem_append_left _ hp)
    have hU:=hs.room T
    rw [flat_app,List.length_append] at hU
    have h4:=secN_le (flat Q).length
    simp only [List.length_cons] at hK
    have hm:=merge_go hu o a hs.ris how (T.ok (nx+1) (by omega)) (hs.vac T) (Q.map (·.1)) (Q.map (·.2)) (by simp) (fun j hj=>by
      rw [List.length_map] at hj
      have hq:Q[j]∈Q:=List.getElem_mem hj
      refine ⟨⟨FB Q[j].2,FB Q[j].2⟩,?_,?_,?_,?_⟩
      · rw [List.getD_eq_getElem?_getD,List.getElem?_map,List.getElem?_eq_getElem hj]
        exact hs.get _ (List.mem_append_left _ hq)
      · rw [List.getD_eq_getElem?_getD,List.getElem?_map,List.getElem?_eq_getElem hj];rfl
      · rw [List.getD_eq_getElem?_getD,List.getElem?_map,List.getElem?_eq_getElem hj];exact (hQ _ hq).bd
      · rw [List.getD_eq_getElem?_getD,List.getElem?_map,List.getElem?_eq_getElem hj];exact (hQ _ hq).up)
    rw [show (Q.map (·.2)).flatten=flat Q from rfl] at hm
    have hmd:∀ m∈made++[tname temp (nx+1)],∃k,m=tname temp k:=fun m hm=>by
      rcases List.mem_append.1 hm with hm | hm
      · obtain ⟨k,_,c⟩:=hs.nm m hm;exact ⟨k,c⟩
      · exact ⟨_,List.mem_singleton.1 hm⟩
    rw [List.map_cons]
    rcases hm with ⟨k1,o',f',k2,k3⟩ | ⟨o',a',f',k2,k3,k4,k5,k6,k7,k8⟩ | ⟨o',a',f',k2,k3,k4,k5,k6,k7⟩
    · left
      have hb:=pass_b1 (how:=how) (temp:=temp) (p:=Q.map (·.1)) (ps:=Qs.map (List.map (·.1))) (nx:=Nx.map (·.1)) (tm:=(nx,made)) (d:=dk d o a fs) (by simp only;rw [k2];simp)
      rw [hb];simp only;rw [k2]
      exact .inl ⟨⟨k1,o',f',rfl,by have:=part_used k3 hs.ris (hs.vac T) (hs.fine T) d.keep;omega,fun m _ hm=>by rw [k3.off m (hm _),hs.away hm]⟩,rfl⟩
    · left
      have hb:=pass_b1 (how:=how) (temp:=temp) (p:=Q.map (·.1)) (ps:=Qs.map (List.map (·.1))) (nx:=Nx.map (·.1)) (tm:=(nx,made)) (d:=dk d o a fs) (by simp only;rw [k2];simp)
      rw [hb];simp only;rw [k2]
      refine .inr ⟨o',a',f',rfl,.inr ⟨rfl,by omega⟩,k3,k4,hmd,fun m hm _=>?_⟩
      simp only [List.mem_append,List.mem_singleton,not_or] at hm
      rw [k6 m hm.2,hs.in_made hm.1]
    · have hA:=hs.add (Row.of (how:=how) (flat_bd hQ)) k4 k5
      rw [List.append_assoc] at hA
      have hfl:=fold_len how (sort (flat Q))
      rw [len_sort] at hfl
      rcases gones_go hu (Q.map (·.1)) (made++[tname temp (nx+1)]) o' a' f' k4 with ⟨g1,o2,f2,md,g2,g3,g7,g8,g9⟩ | ⟨o2,a2,f2,md,g2,g3,g4,g5,g6⟩
      · left
        have hb:=pass_b2 (how:=how) (temp:=temp) (p:=Q.map (·.1)) (ps:=Qs.map (List.map (·.1))) (nx:=Nx.map (·.1)) (tm:=(nx,made)) (d:=dk d o a fs) (by simp only;rw [k2]) (by simp only;rw [k2];simp only;rw [g2];simp)
        rw [hb];simp only;rw [k2];simp only;rw [g2]
        refine .inl ⟨⟨by omega,o2,f2,rfl,by have:=used_torn d.keep (fun p hp=>hA.fine T _ _ (g9 _ _ (fget_of_mem g7 hp)));have:=secN_le (fold how (sort (flat Q))).length;omega,fun m _ hm=>?_⟩,rfl⟩
        rw [g3 m (fun c=>by
          obtain ⟨p,hp,rfl⟩:=List.mem_map.1 c
          obtain ⟨k,_,c⟩:=hs.nm _ (hs.mem p (List.mem_append_left _ hp))
          exact hm k c),k5,if_neg (hm _),hs.away hm]
      · have hb:=pass_one (how:=how) (temp:=temp) (p:=Q.map (·.1)) (ps:=Qs.map (List.map (·.1))) (nx:=Nx.map (·.1)) (tm:=(nx,made)) (d:=dk d o a fs) (by simp only;rw [k2]) (by simp only;rw [k2];simp only;rw [g2])
        rw [hb];simp only;rw [k2];simp only;rw [g2];simp only
        have hD:=hA.del T g4 g6 g5
        rw [List.append_assoc] at hD
        have hlen:(flat (Qs.flatten++(Nx++[(tname temp (nx+1),fold how (sort (flat Q)))]))).length<=(flat Q).length+(flat (Qs.flatten++Nx)).length:=by
          rw [flat_app,flat_app,flat_one,flat_app];simp;omega
        have ih:=pass_go Qs (Nx++[(tname temp (nx+1),fold how (sort (flat Q)))]) (nx+1) md o2 a2 f2 hD (by omega) (by omega)
        rw [show (Nx++[(tname temp (nx+1),fold how (sort (flat Q)))]).map (·.1)=Nx.map (·.1)++[tname temp (nx+1)] from by simp] at ih
        rcases ih with h | ⟨o3,a3,f3,m3,P3,q1,q2,q3,q4,q5,q6⟩
        · exact .inl (h.step fun c=>g3 (k3 c))
        · right
          rw [show nx+1+Qs.length=nx+(Q::Qs).length from by simp;omega] at q1 q3
          refine ⟨o3,a3,f3,m3,P3,q1,fun c=>q2 (g3 (k3 c)),q3,q4.trans ?_,?_,by simp at q6 ⊢;omega⟩
          · rw [List.flatten_cons,List.append_assoc,flat_app Q,<-List.append_assoc,flat_app (Qs.flatten++Nx),flat_one]
            exact (Eqv.perm List.perm_append_comm).trans ((Eqv.folded how _).app Eqv.self)
          · rw [List.flatten_cons,List.append_assoc,flat_app Q,List.length_append];omega
theorem levels_all {fan:Nat} (hf:2<=fan):∀ (k:Nat) (P:Pt) (nx:Nat) (made:List Nm) (o:Int) (a:Nat) (fs:Fs),
    P.length<=k->Inv fs0 temp how nx made P fs->nx+2*P.length<=K->(flat P).length<=N->
    Fails d a fs0 out temp N e (levels how temp fan k (P.map (·.1)) (nx,made) (dk d o a fs)).2.1.2 ((levels how temp fan k (P.map (·.1)) (nx,made) (dk d o a fs)).1,(levels how temp fan k (P.map (·.1)) (nx,made) (dk d o a fs)).2.2.2)\/
    ∃o' a' fs' nx' made' P',levels how temp fan k (P.map (·.1)) (nx,made) (dk d o a fs)=(dk d o' a' fs',(nx',made'),P'.map (·.1),0)/\(a=0->a'=0)/\Inv fs0 temp how nx' made' P' fs'/\Eqv how (flat P') (flat P)/\P'.length<=1/\(flat P').length<=N:=by
  intro k
  induction k with
  | zero=>
    intro P nx made o a fs hk hI _ hN
    exact .inr ⟨o,a,fs,nx,made,P,rfl,id,hI,Eqv.self,by omega,by omega⟩
  | succ k ih=>
    intro P nx made o a fs hk hI hK hN
    by_cases hl:P.length<=1
    · rw [levels_end (by simpa using hl)]
      exact .inr ⟨o,a,fs,nx,made,P,rfl,id,hI,Eqv.self,hl,hN⟩
    obtain ⟨c1,c2,c3⟩:=chunk_few hf (l:=P) (by omega)
    have hcf:=chunk_flat (f:=fan) (by omega) _ P (Nat.le_refl _)
    have hcm:=chunk_map (Prod.fst:Nm×List R->Nm) fan _ P (Nat.le_refl _)
    have hp:=pass_go hu T (how:=how) N e (chunk fan P) [] nx made o a fs (by rw [hcf,List.append_nil];exact hI) (by omega) (by rw [hcf,List.append_nil];exact hN)
    rw [hcf,List.append_nil,List.map_nil,<-hcm] at hp
    rcases hp with h | ⟨o2,a2,f2,m2,P2,q1,q2,q3,q4,q5,q6⟩
    · left
      rw [levels_bad (by simpa using hl) h.ne]
      exact h
    · rw [levels_go (by simpa using hl) (by rw [q1]),q1]
      simp only [List.length_nil,Nat.zero_add] at q6
      rcases ih P2 (nx+(chunk fan P).length) m2 o2 a2 f2 (by omega) q3 (by omega) (by omega) with h | ⟨o3,a3,f3,n3,m3,P3,r1,r2,r3,r4,r5,r6⟩
      · exact .inl (h.step q2)
      · exact .inr ⟨o3,a3,f3,n3,m3,P3,r1,fun c=>r2 (q2 c),r3,r4.trans q4,r5,r6⟩
theorem ends_go {nx:Nat} {made:List Nm} {P:Pt} {r:List R} (p:Nat) (hp:r=[]->p=0) (o:Int) (a:Nat) {fs:Fs} (h:Inv fs0 temp how nx made P fs) (hl:P.length<=1) (hN:(flat P).length<=N) (hE:Eqv how (flat P) r):
    Fails d a fs0 out temp N e (ends out (P.map (·.1)) p (nx,made) (dk d o a fs)).2.1.2 ((ends out (P.map (·.1)) p (nx,made) (dk d o a fs)).1,(ends out (P.map (·.1)) p (nx,made) (dk d o a fs)).2.2.2)\/
    ∃o' a' fs',(ends out (P.map (·.1)) p (nx,made) (dk d o a fs)).1=dk d o' a' fs'/\(ends out (P.map (·.1)) p (nx,made) (dk d o a fs)).2.2=(p,0)/\(a=0->a'=0)/\fs'=Dk.fput fs0 out ⟨FB (fold how (sort r)),FB (fold how (sort r))⟩:=by
  have hmd:∀ m∈made,∃k,m=tname temp k:=fun m hm=>by obtain ⟨k,_,c⟩:=h.nm m hm;exact ⟨k,c⟩
  match P,h,hl,hN,hE with
  | [],h,_,hN,hE=>
    have hr:r=[]:=Eqv.nil (by simpa using hE)
    have ho:fget fs out=none:=by rw [h.off out (by simp)];exact T.ou
    have hU:=h.room T
    simp only [flat_nil,List.length_nil,Nat.mul_zero,Nat.add_zero] at hU
    rw [hp hr]
    show Fails d a fs0 out temp N e made ((write out [] (dk d o a fs)).1,(write out [] (dk d o a fs)).2)\/∃o' a' fs',(write out [] (dk d o a fs)).1=dk d o' a' fs'/\(0,(write out [] (dk d o a fs)).2)=(0,0)/\(a=0->a'=0)/\fs'=Dk.fput fs0 out ⟨FB (fold how (sort r)),FB (fold how (sort r))⟩
    rcases write_all hu o a h.ris T.mo ho [] with ⟨k1,o',f',k2,k3⟩ | ⟨o',a',f',k2,k3,k4,k5,k6,k7,k8⟩ | ⟨o',a',f',k2,k3,k4,k5,k6,k7⟩
    · left;rw [k2]
      exact .inl ⟨⟨k1,o',f',rfl,by have:=part_used k3 h.ris ho (h.fine T) d.keep;have:sectors (FB []).length=0:=(by rw [sec_FBn];rfl);omega,fun m hm hk=>by rw [k3.off m hm,h.away hk]⟩,rfl⟩
    · left;rw [k2]
      have h0:sectors (FB []).length=0:=by rw [sec_FBn];rfl
      exact .inr ⟨o',a',f',rfl,.inr ⟨rfl,by omega⟩,k3,k4,hmd,fun m hm ho=>by rw [k6 m ho,h.in_made hm]⟩
    · right;rw [k2]
      refine ⟨o',a',f',rfl,rfl,k3,files_ext k4 (rising_fput T.ris _ _) fun m=>?_⟩
      rw [k5,fget_fput,hr]
      split
      · rfl
      · exact h.off m (by simp)
  | [(n,L)],h,_,hN,hE=>
    have hL:L=fold how (sort r):=by
      have hx:Eqv how L r:=by rw [flat_one] at hE;exact hE
      rw [<-hx.same];exact (h.row _ (List.mem_singleton.2 rfl)).fx.symm
    have hg:=h.get _ (List.mem_singleton.2 rfl)
    obtain ⟨j,_,hj⟩:=h.nm _ (h.mem _ (List.mem_singleton.2 rfl))
    simp only at hg hj
    have hne:n≠out:=fun c=>T.ne j (hj▸c)
    show Fails d a fs0 out temp N e (if ((dk d o a fs).rename n out).2≠0 then (((dk d o a fs).rename n out).1,(nx,made),0,((dk d o a fs).rename n out).2) else (((dk d o a fs).rename n out).1,(nx,[]),p,0)).2.1.2 ((if ((dk d o a fs).rename n out).2≠0 then (((dk d o a fs).rename n out).1,((nx,made):Tm),0,((dk d o a fs).rename n out).2) else (((dk d o a fs).rename n out).1,(nx,[]),p,0)).1,(if ((dk d o a fs).rename n out).2≠0 then (((dk d o a fs).rename n out).1,((nx,made):Tm),0,((dk d o a fs).rename n out).2) else (((dk d o a fs).rename n out).1,(nx,[]),p,0)).2.2.2)\/∃o' a' fs',(if ((dk d o a fs).rename n out).2≠0 then (((dk d o a fs).rename n out).1,((nx,made):Tm),0,((dk d o a fs).rename n out).2) else (((dk d o a fs).rename n out).1,(nx,[]),p,0)).1=dk d o' a' fs'/\(if ((dk d o a fs).rename n out).2≠0 then (((dk d o a fs).rename n out).1,((nx,made):Tm),0,((dk d o a fs).rename n out).2) else (((dk d o a fs).rename n out).1,(nx,[]),p,0)).2.2=(p,0)/\(a=0->a'=0)/\fs'=Dk.fput fs0 out ⟨FB (fold how (sort r)),FB (fold how (sort r))⟩
    by_cases a1:a=1
    · subst a1;left
      rw [rename_fall hu,if_pos (by simp)]
      exact .inl ⟨⟨Nat.le_refl _,_,fs,rfl,by have:=used_torn d.keep (h.all T);have:=h.room T;omega,fun m _ hm=>h.away hm⟩,rfl⟩
    · right
      rw [rename_up hu o a fs a1 hg T.mo hne,if_neg (by simp)]
      refine ⟨_,_,_,rfl,rfl,fun c=>by omega,files_ext (rising_fput (rising_fdel h.ris _) _ _) (rising_fput T.ris _ _) fun m=>?_⟩
      rw [fget_fput,fget_fput,hL]
      split
      · rfl
      · rw [fget_fdel]
        by_cases em:m=n
        · rw [if_pos em,em,hj];exact (T.no j).symm
        · rw [if_neg em];exact h.off m (by simpa using em)
theorem all_go {nin:Nm} {f:Fl} (hf:fget fs0 nin=some f) {r:List R} (hr:Rds f.now (0,[],false) r e) (hb:Bd r) (hK:3*r.length<=K) (hN:r.length<=N) (budget:Nat) {fan:Nat} (hfan:2<=fan) (o:Int) (a:Nat):
    Fails d a fs0 out temp N e (all nin f.now.length out temp how budget fan (dk d o a fs0)).2.1.2 ((all nin f.now.length out temp how budget fan (dk d o a fs0)).1,(all nin f.now.length out temp how budget fan (dk d o a fs0)).2.2.2)\/
    (e=0/\∃o' a' fs',(all nin f.now.length out temp how budget fan (dk d o a fs0)).1=dk d o' a' fs'/\(all nin f.now.length out temp how budget fan (dk d o a fs0)).2.2=(passes r.length budget fan,0)/\(a=0->a'=0)/\fs'=Dk.fput fs0 out ⟨FB (fold how (sort r)),FB (fold how (sort r))⟩):=by
  have hI:Inv fs0 temp how 0 [] [] fs0:=⟨T.ris,by simp,fun n hn=>(nomatch hn),fun n hn=>(nomatch hn),fun n hn=>(nomatch hn),fun m _=>rfl,fun n hn=>(nomatch hn)⟩
  obtain ⟨d1,tm1,nm1,n1,e1,hcut⟩:∃d1 tm1 nm1 n1 e1,cut nin f.now.length temp how budget (rleft f.now.length (0,[],false)+1) (0,[],false) [] [] 0 (0,[]) (dk d o a fs0)=(d1,tm1,nm1,n1,e1):=⟨_,_,_,_,_,rfl⟩
  have hc:=cut_go hu T (how:=how) N e hf budget (rleft f.now.length (0,[],false)+1) (0,[],false) r [] [] 0 0 [] o a fs0 hr (by have:=rds_len r _ (RsOk.start _) hr;omega) (fun z hz=>by cases hz) hb hI (by simp;omega) (by simp;omega)
  rw [List.map_nil,hcut] at hc
  rcases hc with h | ⟨he,o2,a2,f2,nx2,m2,P2,q1,q2,q3,q4,q5,q6,q7⟩
  · left
    rw [all_b1 hcut h.ne]
    exact h
  · simp only [Prod.mk.injEq] at q1
    obtain ⟨rfl,rfl,rfl,rfl,rfl⟩:=q1
    simp only [flat_nil,List.nil_append,List.length_nil,Nat.zero_add] at q4 q5 q6 q7 hcut
    obtain ⟨d3,tm3,nm3,e3,hlv⟩:∃d3 tm3 nm3 e3,levels how temp fan (P2.map (·.1)).length (P2.map (·.1)) (nx2,m2) (dk d o2 a2 f2)=(d3,tm3,nm3,e3):=⟨_,_,_,_,rfl⟩
    have hl:=levels_all hu T (how:=how) N e hfan (P2.map (·.1)).length P2 nx2 m2 o2 a2 f2 (by simp) q3 (by omega) (by omega)
    rw [hlv] at hl
    rcases hl with h | ⟨o3,a3,f3,nx3,m3,P3,r1,r2,r3,r4,r5,r6⟩
    · left
      rw [all_b2 hcut rfl hlv h.ne]
      exact h.step q2
    · simp only [Prod.mk.injEq] at r1
      obtain ⟨rfl,rfl,rfl,rfl⟩:=r1
      rw [all_g hcut rfl hlv rfl]
      rcases ends_go hu T N e (passes r.length budget fan) (fun c=>by rw [c];unfold passes;exact if_pos (.inl (by decide))) o3 a3 r3 r5 r6 (r4.trans q4) with h | ⟨o4,a4,f4,s1,s2,s3,s4⟩
      · exact .inl (h.step fun c=>r2 (q2 c))
      · exact .inr ⟨he,o4,a4,f4,s1,s2,fun c=>s3 (r2 (q2 c)),s4⟩
omit T in
theorem size_fall {n:Nm} (o:Int) (fs:Fs):(dk d o 1 fs).size n=(dn d (nx o) (tornAll fs d.keep),0,7):=by unfold Disk.size;simp only;rw [mk_fall hu,if_pos dn_down]
/-- a sort: the disk falls; it fails, and all is as it was; the file is there -/
theorem sort_go {nin:Nm} {f:Fl} (hf:fget fs0 nin=some f) {r:List R} (hr:Rds f.now (0,[],false) r e) (hb:Bd r) (hK:3*r.length<=K) {b fan:Int} (hb1:1<=b) (hfan:2<=fan) (hh:0<=how/\how<=2) (o:Int) (a:Nat):
    (Fall d a fs0 out temp r.length (sortD nin out temp b fan how (dk d o a fs0)).1/\(sortD nin out temp b fan how (dk d o a fs0)).2=(0,7))\/
    (1<=a/\(sortD nin out temp b fan how (dk d o a fs0)).1.down=true/\(sortD nin out temp b fan how (dk d o a fs0)).2.1=0/\Bad d fs0 r.length e (sortD nin out temp b fan how (dk d o a fs0)).2.2)\/
    (∃o' a',(sortD nin out temp b fan how (dk d o a fs0)).1=dk d o' a' fs0/\(a=0->a'=0)/\(sortD nin out temp b fan how (dk d o a fs0)).2.1=0/\Bad d fs0 r.length e (sortD nin out temp b fan how (dk d o a fs0)).2.2)\/
    (e=0/\∃o' a',sortD nin out temp b fan how (dk d o a fs0)=(dk d o' a' (Dk.fput fs0 out ⟨FB (fold how (sort r)),FB (fold how (sort r))⟩),passes r.length b fan,0)/\(a=0->a'=0)):=by
  have hneg:¬ (b < 1\/fan < 2\/how < 0\/2 < how):=by omega
  rw [sortD,if_neg hneg]
  have hsyn:∀ p∈fs0,p.2.syn.length<=p.2.now.length:=fun p hp=>T.fine _ _ (fget_of_mem T.ris hp)
  by_cases a1:a=1
  · subst a1;left
    rw [size_fall hu,if_pos (by simp)]
    exact ⟨⟨Nat.le_refl _,_,fs0,rfl,by have:=used_torn d.keep hsyn;omega,fun _ _ _=>rfl⟩,rfl⟩
  rw [size_up hu o a fs0 a1 hf,if_neg (by simp)]
  simp only
  by_cases a2:a - 1=1
  · left
    rw [a2,create_fall hu,if_pos (by simp)]
    exact ⟨⟨by omega,_,fs0,rfl,by have:=used_torn d.keep hsyn;omega,fun _ _ _=>rfl⟩,rfl⟩
  rw [create_up hu _ _ fs0 a2 T.mo T.ou,if_neg (by simp)]
  simp only
  by_cases a3:a - 1 - 1=1
  · left
    rw [a3,remove_fall hu,if_pos (by simp)]
    refine ⟨⟨by omega,_,_,rfl,by have:=part_used (n:=out) (c:=0) (fs:=fs0) (fs':=Dk.fput fs0 out ⟨[],[]⟩) ⟨fun m hm=>by rw [fget_fput,if_neg hm],rising_fput T.ris _ _,fun f hf=>by rw [fget_fput,if_pos rfl] at hf;cases hf;exact ⟨rfl,Nat.le_refl 0⟩⟩ T.ris T.ou T.fine d.keep;omega,fun m hm _=>?_⟩,rfl⟩
    rw [fget_fput,if_neg hm]
  rw [remove_up hu _ _ _ a3 (f:=⟨[],[]⟩) (by rw [fget_fput,if_pos rfl]),if_neg (by simp)]
  simp only
  rw [show fdel (Dk.fput fs0 out ⟨[],[]⟩) out=fs0 from files_ext (rising_fdel (rising_fput T.ris _ _) _) T.ris (fun m=>by
    rw [fget_fdel,fget_fput]
    by_cases em:m=out
    · rw [if_pos em,em];exact T.ou.symm
    · rw [if_neg em,if_neg em])]
  have hbn:((b.toNat:Nat):Int)=b:=by omega
  have hfn:((fan.toNat:Nat):Int)=fan:=by omega
  have hA:=all_go hu T (how:=how) r.length e hf hr hb hK (Nat.le_refl _) b.toNat (fan:=fan.toNat) (by omega) (nx (nx (nx o))) (a - 1 - 1 - 1)
  rw [hbn,hfn] at hA
  obtain ⟨d1,tm1,p1,e1,hall⟩:∃d1 tm1 p1 e1,all nin f.now.length out temp how b.toNat fan.toNat (dk d (nx (nx (nx o))) (a - 1 - 1 - 1) fs0)=(d1,tm1,p1,e1):=⟨_,_,_,_,rfl⟩
  rw [hall] at hA ⊢
  rcases hA with h | ⟨he,o4,a4,f4,s1,s2,s3,s4⟩
  · have h:=h.step (a:=a) (by omega)
    rw [if_pos h.ne]
    rcases h with ⟨⟨h1,o',f',h2,h3⟩,h4⟩ | ⟨o',a',f',h1,h2,h3,h4,h5,h6⟩
    · left
      simp only at h2 h4 ⊢
      obtain ⟨o2,g⟩:=gones_dn (d:=d) o' (tornAll f' d.keep) (tm1.2++[out]) tm1.2
      rw [h2,g]
      rw [h4];exact ⟨⟨h1,o2,f',rfl,h3⟩,rfl⟩
    · simp only at h1 h2 h5 h6 ⊢
      rw [h1]
      rcases gones_go hu (tm1.2++[out]) tm1.2 o' a' f' h4 with ⟨g1,o2,f2,md,g2,_⟩ | ⟨o2,a2,f2,md,g2,g3,g4,g5,g6⟩
      · right;left
        rw [g2]
        exact ⟨by omega,rfl,by trivial,h2⟩
      · right;right;left
        rw [g2]
        refine ⟨o2,a2,?_,fun c=>g3 (h3 c),by trivial,h2⟩
        rw [show f2=fs0 from files_ext g4 T.ris fun m=>?_]
        rw [g6]
        by_cases em:m∈tm1.2++[out]
        · rw [if_pos em]
          rcases List.mem_append.1 em with em | em
          · obtain ⟨k,c⟩:=h5 m em;rw [c];exact (T.no k).symm
          · rw [List.mem_singleton.1 em];exact T.ou.symm
        · rw [if_neg em]
          simp only [List.mem_append,List.mem_singleton,not_or] at em
          exact h6 m em.1 em.2
  · right;right;right
    simp only [Prod.mk.injEq] at s1 s2
    obtain ⟨s2,s2'⟩:=s2
    rw [s2',if_neg (by simp),s1,s2,s4]
    exact ⟨he,o4,a4,rfl,fun c=>s3 (by omega)⟩
end
end Go.Cg.Xs
end
