/- Laws of the model, walks of functions of the program, and what they rest on. No condition. -/
import Derived.Test.YtoffbmhmocfmnaaGreatDoorKVah
import Derived.Lib.ItoaNum
section
namespace Go.Cg.Cm
set_option linter.unusedVariables false
set_option linter.unusedSimpArgs false
open Go.Cg.Dk Go.Cg.Oc

/-- a number's digits -/
def itoa (n:Nat):Nm:=Go.Lib.itoa (n:Int)
def nSlot:Nm:=[115,108,111,116,46]
def nState:Nm:=[115,116,97,116,101,46]
def nNew:Nm:=[110,101,119]
def nShard:Nm:=[115,104,97,114,100,46]
def slotN (i:Nat):Nm:=nSlot++itoa i

def read (n:Nm) (d0:Disk):Disk×By×Nat:=
  let s:=d0.size n
  if s.2.2≠0 then (s.1,[],s.2.2) else s.1.readAt n 0 s.2.1
def load (d0:Disk):Disk×Mf×Bool×Nat:=
  let a:=read (slotN 0) d0
  if a.2.2≠0/\a.2.2≠4 then (a.1,mf0,false,a.2.2) else
  let b:=read (slotN 1) a.1
  if b.2.2≠0/\b.2.2≠4 then (b.1,mf0,false,b.2.2) else
  let c:=Oc.choose a.2.1 b.2.1
  (b.1,c.1,c.2.2,0)
/-- what is tried, one behind the other; at the first error the file on the way is removed -/
def tries (tmp:Nm):List (Disk->Disk×Nat)->Disk->Disk×Nat
  | [],d=>(d,0)
  | f::r,d=>if (f d).2≠0 then (((f d).1.remove tmp).1,(f d).2) else tries tmp r (f d).1
def put (kind name:Nm) (b:By) (d0:Disk):Disk×Nat:=
  let tmp:=kind++nNew
  let r:=d0.remove tmp
  if r.2≠0/\r.2≠4 then r else
  tries tmp [Disk.create tmp,Disk.append tmp b,Disk.sync tmp,Disk.rename tmp (kind++name)] r.1
def keep (step:Int) (vals:List Nat) (live:List Bool) (d:Disk):Disk×Nat:=
  if (senc step vals live).2≠0 then (d,(senc step vals live).2) else put nState (Go.Lib.itoa step) (senc step vals live).1 d
def state (step:Int) (d0:Disk):Disk×(List Nat×List Bool)×Nat:=
  let r:=read (nState++Go.Lib.itoa step) d0
  if r.2.2≠0 then (r.1,([],[]),r.2.2) else
  let s:=sdec r.2.1
  if s.2.2≠0 then (r.1,([],[]),s.2.2) else if s.1≠step then (r.1,([],[]),2) else (r.1,s.2.1,0)
/-- does a name stay? -/
def stays (name:Nm) (m:Mf) (is:Bool):Bool:=
  if name=slotN 0\/name=slotN 1 then true
  else if nState.isPrefixOf name/\is=true then (List.range (m.step+1).toNat).any fun k=>decide (itoa k=name.drop 6)
  else is&&(List.range m.shards.toNat).any fun i=>decide (name=nShard++itoa i)
def removes (m:Mf) (is:Bool):List Nm->Disk->Disk×Nat
  | [],d=>(d,0)
  | n::r,d=>if stays n m is then removes m is r d else if (d.remove n).2≠0 then d.remove n else removes m is r (d.remove n).1
def sweep (d0:Disk):Disk×Nat:=
  let l:=load d0
  if l.2.2.2≠0 then (l.1,l.2.2.2) else
  let n:=l.1.list
  if n.2.2≠0 then (n.1,n.2.2) else removes l.2.1 l.2.2.1 n.2.1 n.1
end Go.Cg.Cm
end
section
namespace Go.Cg.Cl
set_option linter.unusedVariables false
set_option linter.unusedSimpArgs false
open Go.Cg.Dk Go.Cg.Oc Go.Cg.Cm

/-! ### a disk, by its files; by how many operations it is from a crash -/
def dk (d:Disk) (o:Int) (a:Nat) (fs:Fs):Disk:={ d with ops:=o,armed:=a,files:=fs }
def dn (d:Disk) (o:Int) (fs:Fs):Disk:={ d with ops:=o,armed:=0,files:=fs,down:=true }
theorem dn_down {d:Disk} {o:Int} {fs:Fs}:(dn d o fs).down=true:=rfl
theorem mk_self (d:Disk):dk d d.ops d.armed d.files=d:=rfl
def nx (o:Int):Int:=IntKind.i64.wrap (o+1)
theorem mk_begin {d:Disk} (hu:d.down=false) (o:Int) (a:Nat) (fs:Fs) (ha:a≠1):(dk d o a fs).begin_=dk d (nx o) (a - 1) fs:=by
  unfold Disk.begin_
  show (if a=0 then _ else if a=1 then _ else _)=_
  by_cases h:a=0
  · rw [if_pos h];subst h;rfl
  · rw [if_neg h,if_neg ha];rfl
theorem mk_fall {d:Disk} (hu:d.down=false) (o:Int) (fs:Fs):(dk d o 1 fs).begin_=dn d (nx o) (tornAll fs d.keep):=by
  unfold Disk.begin_
  show (if (1:Nat)=0 then _ else if (1:Nat)=1 then _ else _)=_
  rw [if_neg (by decide),if_pos rfl]
  unfold Disk.crash
  rw [if_neg (by show ¬ d.down=true;rw [hu];decide)]
  rfl
theorem dn_begin (d:Disk) (o:Int) (fs:Fs):(dn d o fs).begin_=dn d (nx o) fs:=by
  unfold Disk.begin_
  show (if (0:Nat)=0 then _ else _)=_
  rw [if_pos rfl];rfl
section
variable {d:Disk} (hu:d.down=false) (o:Int) (a:Nat) (fs:Fs)
include hu
theorem mk_down:(dk d o a fs).down=false:=hu
theorem create_up (ha:a≠1) {n:Nm} (hm:may n=true) (hn:fget fs n=none):(dk d o a fs).create n=(dk d (nx o) (a - 1) (fput fs n ⟨[],[]⟩),0):=by
  unfold Disk.create;simp only;rw [mk_begin hu _ _ _ ha]
  rw [if_neg (by rw [mk_down hu];decide),if_neg (by rw [hm];decide),if_neg (by show ¬ (fget fs n).isSome=true;rw [hn];decide)];rfl
theorem create_fall {n:Nm}:(dk d o 1 fs).create n=(dn d (nx o) (tornAll fs d.keep),7):=by
  unfold Disk.create;simp only;rw [mk_fall hu,if_pos dn_down]
theorem append_up (ha:a≠1) {n:Nm} {f:Fl} (b:By) (hn:fget fs n=some f) (hr:used fs+(sectors (f.now.length+b.length) - sectors f.now.length)<=d.room):(dk d o a fs).append n b=(dk d (nx o) (a - 1) (fput fs n ⟨f.now++b,f.syn⟩),0):=by
  unfold Disk.append;simp only;rw [mk_begin hu _ _ _ ha]
  rw [if_neg (by rw [mk_down hu];decide),show fget (dk d (nx o) (a - 1) fs).files n=some f from hn]
  simp only
  rw [if_neg (by show ¬ d.room < used fs+_;omega)];rfl
theorem append_fall {n:Nm} (b:By):(dk d o 1 fs).append n b=(dn d (nx o) (tornAll fs d.keep),7):=by
  unfold Disk.append;simp only;rw [mk_fall hu,if_pos dn_down]
theorem sync_up (ha:a≠1) {n:Nm} {f:Fl} (hn:fget fs n=some f):(dk d o a fs).sync n=(dk d (nx o) (a - 1) (fput fs n ⟨f.now,f.now⟩),0):=by
  unfold Disk.sync;simp only;rw [mk_begin hu _ _ _ ha]
  rw [if_neg (by rw [mk_down hu];decide),show fget (dk d (nx o) (a - 1) fs).files n=some f from hn];rfl
theorem sync_fall {n:Nm}:(dk d o 1 fs).sync n=(dn d (nx o) (tornAll fs d.keep),7):=by
  unfold Disk.sync;simp only;rw [mk_fall hu,if_pos dn_down]
theorem rename_up (ha:a≠1) {n m:Nm} {f:Fl} (hn:fget fs n=some f) (hm:may m=true) (hne:n≠m):(dk d o a fs).rename n m=(dk d (nx o) (a - 1) (fput (fdel fs n) m f),0):=by
  unfold Disk.rename;simp only;rw [mk_begin hu _ _ _ ha]
  rw [if_neg (by rw [mk_down hu];decide),show fget (dk d (nx o) (a - 1) fs).files n=some f from hn]
  simp only
  rw [if_neg (by rw [hm];decide),if_neg hne];rfl
theorem rename_fall {n m:Nm}:(dk d o 1 fs).rename n m=(dn d (nx o) (tornAll fs d.keep),7):=by
  unfold Disk.rename;simp only;rw [mk_fall hu,if_pos dn_down]
theorem remove_up (ha:a≠1) {n:Nm} {f:Fl} (hn:fget fs n=some f):(dk d o a fs).remove n=(dk d (nx o) (a - 1) (fdel fs n),0):=by
  unfold Disk.remove;simp only;rw [mk_begin hu _ _ _ ha]
  rw [if_neg (by rw [mk_down hu];decide),show fget (dk d (nx o) (a - 1) fs).files n=some f from hn];rfl
theorem remove_none (ha:a≠1) {n:Nm} (hn:fget fs n=none):(dk d o a fs).remove n=(dk d (nx o) (a - 1) (fdel fs n),4):=by
  unfold Disk.remove;simp only;rw [mk_begin hu _ _ _ ha]
  rw [if_neg (by rw [mk_down hu];decide),show fget (dk d (nx o) (a - 1) fs).files n=none from hn,fdel_none hn]
theorem remove_fall {n:Nm}:(dk d o 1 fs).remove n=(dn d (nx o) (tornAll fs d.keep),7):=by
  unfold Disk.remove;simp only;rw [mk_fall hu,if_pos dn_down]
theorem size_up (ha:a≠1) {n:Nm} {f:Fl} (hn:fget fs n=some f):(dk d o a fs).size n=(dk d (nx o) (a - 1) fs,f.now.length,0):=by
  unfold Disk.size;simp only;rw [mk_begin hu _ _ _ ha]
  rw [if_neg (by rw [mk_down hu];decide),show fget (dk d (nx o) (a - 1) fs).files n=some f from hn]
theorem size_none (ha:a≠1) {n:Nm} (hn:fget fs n=none):(dk d o a fs).size n=(dk d (nx o) (a - 1) fs,0,4):=by
  unfold Disk.size;simp only;rw [mk_begin hu _ _ _ ha]
  rw [if_neg (by rw [mk_down hu];decide),show fget (dk d (nx o) (a - 1) fs).files n=none from hn]
theorem list_up (ha:a≠1):(dk d o a fs).list=(dk d (nx o) (a - 1) fs,fs.map (·.1),0):=by
  unfold Disk.list;simp only;rw [mk_begin hu _ _ _ ha]
  rw [if_neg (by rw [mk_down hu];decide)];rfl
end
theorem remove_dn (d:Disk) (o:Int) (fs:Fs) (n:Nm):(dn d o fs).remove n=(dn d (nx o) fs,7):=by
  unfold Disk.remove;simp only;rw [dn_begin,if_pos dn_down]

/-! ### a file that has its bytes at once, or not at all -/
/-! ### a disk that is up, and no crash is to come -/
structure Q (d:Disk):Prop where
  ok:d.Ok
  up:d.down=false
  arm:d.armed=0
theorem Q.self {d:Disk} (h:Q d):d=dk d d.ops 0 d.files:=by
  have:=h.arm
  cases d
  simp only [dk] at *
  subst this;rfl
theorem Q.same {d:Disk} (h:Q d) (o:Int):Q (dk d o 0 d.files):=⟨⟨h.ok.ris,h.ok.syn,h.ok.fit,h.ok.room,Nat.zero_le _,h.ok.nam⟩,h.up,rfl⟩
/-- what is behind -/
structure Af (d d':Disk) (g:Nm->Option Fl):Prop where
  q:Q d'
  room:d'.room=d.room
  get:∀ n,fget d'.files n=g n
  cnt:d'.files.length<=d.files.length+1
theorem Q.af {d:Disk} (h:Q d) (o:Int):Af d (dk d o 0 d.files) (fget d.files):=⟨h.same o,rfl,fun _=>rfl,Nat.le_succ _⟩
theorem list_q {d:Disk} (h:Q d):∃o,d.list=(dk d o 0 d.files,d.files.map (·.1),0):=by
  have:=list_up h.up d.ops 0 d.files (by decide)
  rw [<-h.self] at this
  exact ⟨_,this⟩
/-! ### what put leaves, whatever comes -/
/-! ### a crash -/
def Clean (fs:Fs):Prop:=∀ n f,fget fs n=some f->f.now=f.syn
theorem torn_get {fs:Fs} {n:Nm} {f:Fl} (k:List Bool) (h:fget fs n=some f) (hc:f.now=f.syn):fget (tornAll fs k) n=some f:=by
  rcases tornAll_get n fs k with ⟨h1,_⟩ | ⟨g,k',h1,h2⟩
  · rw [h1] at h;cases h
  · rw [h1] at h
    simp only [Option.some.injEq] at h
    subst h
    obtain ⟨x,y⟩:=g
    simp only at hc
    subst hc
    rw [h2,torn_clean]
theorem torn_none {fs:Fs} {n:Nm} (k:List Bool) (h:fget fs n=none):fget (tornAll fs k) n=none:=by
  rcases tornAll_get n fs k with ⟨_,h2⟩ | ⟨g,k',h1,_⟩
  · exact h2
  · rw [h1] at h;cases h
theorem torn_same {fs:Fs} {n:Nm} (k:List Bool) (hc:∀ f,fget fs n=some f->f.now=f.syn):fget (tornAll fs k) n=fget fs n:=by
  cases hf:fget fs n with
  | none=>exact torn_none k hf
  | some f=>exact torn_get k hf (hc f hf)
/-- a crash, and up again, of a disk all of which lasts -/
theorem crash_q {d:Disk} (h:Q d) (hc:Clean d.files) (k:List Bool):Af d (d.crash k).restart (fget d.files):=by
  have h1:d.crash k={ d with files:=tornAll d.files k,armed:=0,down:=true }:=by unfold Disk.crash;rw [if_neg (by rw [h.up];decide)]
  refine ⟨⟨(h.ok.crash k).restart,rfl,by rw [h1];rfl⟩,by rw [h1];rfl,fun n=>?_,?_⟩
  · rw [h1];exact torn_same k (hc n)
  · rw [h1];show (tornAll d.files k).length<=_;rw [len_torn];omega
/-! ### what is swept -/
/-! ### how much there is -/
end Go.Cg.Cl
end
