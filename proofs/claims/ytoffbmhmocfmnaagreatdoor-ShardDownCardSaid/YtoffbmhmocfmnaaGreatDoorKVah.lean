/- Laws of the model, walks of functions of the program, and what they rest on. No condition. -/
import Derived.IntWalk
import Derived.Test.YtoffbmhmocfmnaaGreatDoorKVac
section
namespace Go.Cg.Dk
set_option linter.unusedVariables false
set_option linter.unusedSimpArgs false

abbrev Nm:=List UInt8
abbrev By:=List UInt8

structure Fl where
  now:By
  syn:By
deriving DecidableEq

/-! ### files by their names, rising -/
abbrev Fs:=List (Nm×Fl)
def fget:Fs->Nm->Option Fl
  | [],_=>none
  | p::r,n=>if n=p.1 then some p.2 else fget r n
def fdel (l:Fs) (n:Nm):Fs:=l.filter fun p=>p.1≠n
def fins (n:Nm) (f:Fl):Fs->Fs
  | []=>[(n,f)]
  | p::r=>if n < p.1 then (n,f)::p::r else p::fins n f r
def fput (l:Fs) (n:Nm) (f:Fl):Fs:=fins n f (fdel l n)
def rising (l:Fs):Prop:=l.Pairwise fun p q=>p.1 < q.1
def sectors (n:Nat):Nat:=(n+15) / 16
def used (l:Fs):Nat:=(l.map fun p=>sectors p.2.now.length).sum

/-! ### one file behind a crash -/
def tornStep (f:Fl) (k:Nat) (s:By×List Bool):By×List Bool:=
  let at_:=16*k
  let to_:=min (at_+16) f.now.length
  if to_<=f.syn.length/\(f.now.drop at_).take (to_ - at_)=(f.syn.drop at_).take (to_ - at_) then s
  else match s.2 with
    | []=>s
    | false::r=>(s.1,r)
    | true::r=>
      let o:=s.1++List.replicate (to_ - s.1.length) 0
      (o.take at_++(f.now.drop at_).take (to_ - at_)++o.drop to_,r)
def tornUpto (f:Fl) (keep:List Bool):Nat->By×List Bool
  | 0=>(f.syn,keep)
  | k+1=>tornStep f k (tornUpto f keep k)
def torn (f:Fl) (keep:List Bool):By×List Bool:=tornUpto f keep (sectors f.now.length)
def tornAll:Fs->List Bool->Fs
  | [],_=>[]
  | (n,f)::r,k=>(n,⟨(torn f k).1,(torn f k).1⟩)::tornAll r (torn f k).2

/-! ### the disk -/
structure Disk where
  files:Fs
  room:Nat
  ops:Int
  armed:Nat
  keep:List Bool
  down:Bool
deriving DecidableEq

def fresh (room:Int):Disk:=⟨[],room.toNat,0,0,[],false⟩
def Disk.used (d:Disk):Nat:=Dk.used d.files
def Disk.arm (n:Int) (k:List Bool) (d:Disk):Disk:={ d with armed:=n.toNat,keep:=k }
def Disk.restart (d:Disk):Disk:={ d with down:=false }
def Disk.crash (k:List Bool) (d:Disk):Disk:=if d.down then d else { d with files:=tornAll d.files k,armed:=0,down:=true }
def Disk.begin_ (d:Disk):Disk:=
  let d1:={ d with ops:=IntKind.i64.wrap (d.ops+1) }
  if d.armed=0 then d1 else if d.armed=1 then Disk.crash d.keep { d1 with armed:=0 } else { d1 with armed:=d.armed - 1 }
def may (n:Nm):Bool:=decide (n≠[]/\n.length<=24)

def Disk.create (n:Nm) (d0:Disk):Disk×Nat:=
  let d:=d0.begin_
  if d.down then (d,7) else if may n=false then (d,1) else if (fget d.files n).isSome then (d,5)
  else ({ d with files:=fput d.files n ⟨[],[]⟩ },0)
def Disk.append (n:Nm) (b:By) (d0:Disk):Disk×Nat:=
  let d:=d0.begin_
  if d.down then (d,7) else match fget d.files n with
  | none=>(d,4)
  | some f=>
    if d.room < d.used+(sectors (f.now.length+b.length) - sectors f.now.length) then (d,6)
    else ({ d with files:=fput d.files n ⟨f.now++b,f.syn⟩ },0)
def Disk.readAt (n:Nm) (i k:Int) (d0:Disk):Disk×By×Nat:=
  let d:=d0.begin_
  if d.down then (d,[],7) else match fget d.files n with
  | none=>(d,[],4)
  | some f=>if 0<=i/\0<=k/\i+k<=f.now.length then (d,(f.now.drop i.toNat).take k.toNat,0) else (d,[],1)
def Disk.size (n:Nm) (d0:Disk):Disk×Nat×Nat:=
  let d:=d0.begin_
  if d.down then (d,0,7) else match fget d.files n with
  | none=>(d,0,4)
  | some f=>(d,f.now.length,0)
def Disk.sync (n:Nm) (d0:Disk):Disk×Nat:=
  let d:=d0.begin_
  if d.down then (d,7) else match fget d.files n with
  | none=>(d,4)
  | some f=>({ d with files:=fput d.files n ⟨f.now,f.now⟩ },0)
def Disk.rename (n m:Nm) (d0:Disk):Disk×Nat:=
  let d:=d0.begin_
  if d.down then (d,7) else match fget d.files n with
  | none=>(d,4)
  | some f=>if may m=false then (d,1) else if n=m then (d,0)
    else ({ d with files:=fput (fdel d.files n) m f },0)
def Disk.remove (n:Nm) (d0:Disk):Disk×Nat:=
  let d:=d0.begin_
  if d.down then (d,7) else match fget d.files n with
  | none=>(d,4)
  | some _=>({ d with files:=fdel d.files n },0)
def Disk.list (d0:Disk):Disk×List Nm×Nat:=
  let d:=d0.begin_
  if d.down then (d,[],7) else (d,d.files.map (·.1),0)

/-- what is so of every disk -/
structure Disk.Ok (d:Disk):Prop where
  ris:rising d.files
  syn:∀ p∈d.files,p.2.syn.length<=p.2.now.length
  fit:d.used<=d.room
  room:d.room<=1099511627776
  armed:d.armed<=9223372036854775807
  nam:∀ p∈d.files,p.1.length<=24

/-! ### laws of files -/
theorem lt_irrefl (n:Nm):¬ n < n:=List.lt_irrefl n
theorem lt_trans {a b c:Nm} (h:a < b) (k:b < c):a < c:=List.lt_trans h k
theorem lt_or {a b:Nm} (h:a≠b) (k:¬ a < b):b < a:=by
  rcases Decidable.em (b < a) with h' | h'
  · exact h'
  · exact absurd (List.le_antisymm (List.not_lt.1 h') (List.not_lt.1 k)) h
theorem mem_of_fget {n:Nm} {f:Fl}:∀ {l:Fs},fget l n=some f->(n,f)∈l
  | [],h=>by simp [fget] at h
  | p::r,h=>by
    unfold fget at h
    split at h
    · rename_i e;simp only [Option.some.injEq] at h;subst e;subst h;exact List.mem_cons_self
    · exact List.mem_cons_of_mem _ (mem_of_fget h)
theorem fget_none {n:Nm}:∀ {l:Fs},fget l n=none->∀ p∈l,p.1≠n
  | [],_,p,hp=>by cases hp
  | q::r,h,p,hp=>by
    unfold fget at h
    split at h
    · cases h
    · rename_i e
      rcases List.mem_cons.1 hp with rfl | hp
      · exact fun e'=>e e'.symm
      · exact fget_none h p hp
theorem fget_of_mem {n:Nm} {f:Fl}:∀ {l:Fs},rising l->(n,f)∈l->fget l n=some f
  | p::r,h,hm=>by
    obtain ⟨h1,h2⟩:=List.pairwise_cons.1 h
    unfold fget
    rcases List.mem_cons.1 hm with e | hm
    · rw [<-e];simp
    · rw [if_neg]
      · exact fget_of_mem h2 hm
      · intro e;exact lt_irrefl n (by have:=h1 _ hm;rw [<-e] at this;exact this)
theorem fget_fdel (n m:Nm):∀ l:Fs,fget (fdel l n) m=if m=n then none else fget l m
  | []=>by simp [fdel,fget]
  | p::r=>by
    have ih:=fget_fdel n m r
    unfold fdel at ih ⊢
    rw [List.filter_cons]
    split
    · rename_i h
      simp only [decide_eq_true_eq] at h
      unfold fget
      split
      · rename_i e;rw [if_neg (by rw [e];exact h)]
      · exact ih
    · rename_i h
      simp only [decide_eq_true_eq,Decidable.not_not] at h
      rw [ih]
      split
      · rfl
      · rename_i e
        conv=>rhs;unfold fget
        rw [if_neg (by rw [h];exact e)]
theorem fget_fins (n m:Nm) (f:Fl):∀ l:Fs,(∀ p∈l,p.1≠n)->fget (fins n f l) m=if m=n then some f else fget l m
  | [],_=>by simp [fins,fget]
  | p::r,h=>by
    have ih:=fget_fins n m f r fun q hq=>h q (List.mem_cons_of_mem _ hq)
    unfold fins
    split
    · conv=>lhs;unfold fget
    · conv=>lhs;unfold fget
      rw [ih]
      have hp:=h p List.mem_cons_self
      by_cases e:m=p.1
      · rw [if_pos e,if_neg (by rw [e];exact hp)];simp [fget,e]
      · rw [if_neg e];simp [fget,e]
theorem fdel_ne {l:Fs} {n:Nm}:∀ p∈fdel l n,p.1≠n:=fun p hp=>by
  have:=(List.mem_filter.1 hp).2;simpa using this
theorem fget_fput (l:Fs) (n m:Nm) (f:Fl):fget (fput l n f) m=if m=n then some f else fget l m:=by
  unfold fput
  rw [fget_fins _ _ _ _ fdel_ne,fget_fdel]
  split<;>rfl
theorem mem_fins {n:Nm} {f:Fl} {q:Nm×Fl}:∀ {l:Fs},q∈fins n f l↔q=(n,f)\/q∈l
  | []=>by simp [fins]
  | p::r=>by
    unfold fins
    split
    · simp
    · simp only [List.mem_cons,mem_fins (l:=r)]
      constructor
      · rintro (h | h | h)
        · exact .inr (.inl h)
        · exact .inl h
        · exact .inr (.inr h)
      · rintro (h | h | h)
        · exact .inr (.inl h)
        · exact .inl h
        · exact .inr (.inr h)
theorem mem_fput {l:Fs} {n:Nm} {f:Fl} {q:Nm×Fl}:q∈fput l n f↔q=(n,f)\/(q∈l/\q.1≠n):=by
  unfold fput fdel
  rw [mem_fins,List.mem_filter]
  simp
theorem perm_fins (n:Nm) (f:Fl):∀ l:Fs,(fins n f l).Perm ((n,f)::l)
  | []=>List.Perm.refl _
  | p::r=>by
    unfold fins
    split
    · exact List.Perm.refl _
    · exact ((perm_fins n f r).cons p).trans (List.Perm.swap _ _ _)
theorem rising_fdel {l:Fs} (h:rising l) (n:Nm):rising (fdel l n):=List.Pairwise.filter _ h
theorem rising_fins {n:Nm} {f:Fl}:∀ {l:Fs},rising l->(∀ p∈l,p.1≠n)->rising (fins n f l)
  | [],_,_=>by simp [fins,rising]
  | p::r,h,hn=>by
    obtain ⟨h1,h2⟩:=List.pairwise_cons.1 h
    unfold fins
    split
    · rename_i hlt
      refine List.pairwise_cons.2 ⟨fun q hq=>?_,h⟩
      rcases List.mem_cons.1 hq with rfl | hq
      · exact hlt
      · exact lt_trans hlt (h1 q hq)
    · rename_i hlt
      refine List.pairwise_cons.2 ⟨fun q hq=>?_,rising_fins h2 fun q hq=>hn q (List.mem_cons_of_mem _ hq)⟩
      rcases mem_fins.1 hq with rfl | hq
      · exact lt_or (hn p List.mem_cons_self).symm hlt
      · exact h1 q hq
theorem rising_fput {l:Fs} (h:rising l) (n:Nm) (f:Fl):rising (fput l n f):=rising_fins (rising_fdel h n) fdel_ne
theorem nodup_rising {l:Fs} (h:rising l):l.Nodup:=by
  unfold List.Nodup
  refine List.Pairwise.imp ?_ h
  intro a b hab e
  subst e
  exact lt_irrefl _ hab
/-- rising files that tell the same are the same -/
theorem files_ext {l l':Fs} (h:rising l) (h':rising l') (e:∀ n,fget l n=fget l' n):l=l':=by
  have hp:l.Perm l':=by
    refine (List.perm_ext_iff_of_nodup ?_ ?_).2 fun p=>?_
    · exact nodup_rising h
    · exact nodup_rising h'
    · constructor
      · intro hm;exact mem_of_fget (by rw [<-e];exact fget_of_mem h hm)
      · intro hm;exact mem_of_fget (by rw [e];exact fget_of_mem h' hm)
  exact hp.eq_of_pairwise (fun a b _ _ hab hba=>absurd (lt_trans hab hba) (lt_irrefl _)) h h'

theorem used_perm {l l':Fs} (h:l.Perm l'):used l=used l':=(h.map _).sum_nat
theorem used_cons (p:Nm×Fl) (l:Fs):used (p::l)=sectors p.2.now.length+used l:=by simp [used]
theorem used_fput (l:Fs) (n:Nm) (f:Fl):used (fput l n f)=sectors f.now.length+used (fdel l n):=by
  unfold fput;rw [used_perm (perm_fins _ _ _),used_cons]
theorem fdel_none {n:Nm}:∀ {l:Fs},fget l n=none->fdel l n=l:=fun {l} h=>by
  unfold fdel
  rw [List.filter_eq_self]
  intro p hp
  have:=fget_none h p hp
  simpa using this
theorem used_fdel {n:Nm} {f:Fl}:∀ {l:Fs},rising l->fget l n=some f->used l=sectors f.now.length+used (fdel l n)
  | p::r,h,hf=>by
    obtain ⟨h1,h2⟩:=List.pairwise_cons.1 h
    unfold fget at hf
    split at hf
    · rename_i e
      simp only [Option.some.injEq] at hf
      have hr:fdel r n=r:=by
        unfold fdel;rw [List.filter_eq_self]
        intro q hq
        have:=h1 q hq
        simp only [decide_eq_true_eq]
        intro e';rw [e',e] at this;exact lt_irrefl _ this
      have:fdel (p::r) n=r:=by
        show List.filter _ _=_
        rw [List.filter_cons,if_neg (by simp [e])];exact hr
      rw [this,used_cons,hf]
    · rename_i e
      have:fdel (p::r) n=p::fdel r n:=by
        show List.filter _ _=_
        rw [List.filter_cons,if_pos (by simpa using fun e'=>e e'.symm)];rfl
      rw [this,used_cons,used_cons,used_fdel h2 hf];omega
theorem used_le {l:Fs} {n:Nm} {f:Fl} (hr:rising l) (h:fget l n=some f):sectors f.now.length<=used l:=by rw [used_fdel hr h];omega
theorem len_le {d:Disk} (h:d.Ok) {n:Nm} {f:Fl} (hf:fget d.files n=some f):f.now.length<=17592186044416:=by
  have h1:=used_le h.ris hf
  have h2:=h.fit
  have h3:=h.room
  unfold Disk.used at h2
  unfold sectors at h1
  omega

/-! ### what a crash leaves of a file -/
theorem tornStep_clean (b:By) (k:Nat) (s:By×List Bool):tornStep ⟨b,b⟩ k s=s:=by
  unfold tornStep
  simp only
  rw [if_pos]
  simp only [and_true]
  omega
theorem torn_clean (b:By) (keep:List Bool):torn ⟨b,b⟩ keep=(b,keep):=by
  have:∀ k,tornUpto ⟨b,b⟩ keep k=(b,keep):=by
    intro k
    induction k with
    | zero=>rfl
    | succ k ih=>rw [tornUpto,tornStep_clean,ih]
  exact this _
theorem tornStep_len {f:Fl} {k:Nat} {s:By×List Bool} (h1:f.syn.length<=s.1.length) (h2:s.1.length<=f.now.length):f.syn.length<=(tornStep f k s).1.length/\(tornStep f k s).1.length<=f.now.length:=by
  unfold tornStep
  simp only
  split
  · exact ⟨h1,h2⟩
  · split
    · exact ⟨h1,h2⟩
    · exact ⟨h1,h2⟩
    · simp only [List.length_append,List.length_take,List.length_drop,List.length_replicate]
      omega
theorem torn_len {f:Fl} (keep:List Bool) (h:f.syn.length<=f.now.length):f.syn.length<=(torn f keep).1.length/\(torn f keep).1.length<=f.now.length:=by
  have:∀ k,f.syn.length<=(tornUpto f keep k).1.length/\(tornUpto f keep k).1.length<=f.now.length:=by
    intro k
    induction k with
    | zero=>exact ⟨Nat.le_refl _,h⟩
    | succ k ih=>exact tornStep_len ih.1 ih.2
  exact this _
theorem tornStep_same {f:Fl} {k:Nat} {o:By} {r:List Bool} (h1:min (16*k+16) f.now.length<=f.syn.length) (h2:(f.now.drop (16*k)).take (min (16*k+16) f.now.length - 16*k)=(f.syn.drop (16*k)).take (min (16*k+16) f.now.length - 16*k)):tornStep f k (o,r)=(o,r):=by
  unfold tornStep;simp only;rw [if_pos ⟨h1,h2⟩]
theorem tornStep_no {f:Fl} {k:Nat} {o:By} {r:List Bool} (h:¬ (min (16*k+16) f.now.length<=f.syn.length/\(f.now.drop (16*k)).take (min (16*k+16) f.now.length - 16*k)=(f.syn.drop (16*k)).take (min (16*k+16) f.now.length - 16*k))) (hb:r.headD false=false):tornStep f k (o,r)=(o,r.tail):=by
  unfold tornStep;simp only;rw [if_neg h]
  cases r with
  | nil=>rfl
  | cons b r=>simp only [List.headD_cons] at hb;subst hb;rfl
theorem tornStep_yes {f:Fl} {k:Nat} {o:By} {r:List Bool} (h:¬ (min (16*k+16) f.now.length<=f.syn.length/\(f.now.drop (16*k)).take (min (16*k+16) f.now.length - 16*k)=(f.syn.drop (16*k)).take (min (16*k+16) f.now.length - 16*k))) (hb:r.headD false=true):
    tornStep f k (o,r)=((o++List.replicate (min (16*k+16) f.now.length - o.length) 0).take (16*k)++(f.now.drop (16*k)).take (min (16*k+16) f.now.length - 16*k)++(o++List.replicate (min (16*k+16) f.now.length - o.length) 0).drop (min (16*k+16) f.now.length),r.tail):=by
  unfold tornStep;simp only;rw [if_neg h]
  cases r with
  | nil=>simp at hb
  | cons b r=>simp only [List.headD_cons] at hb;subst hb;rfl
theorem tornUpto_len {f:Fl} (keep:List Bool) (h:f.syn.length<=f.now.length) (k:Nat):f.syn.length<=(tornUpto f keep k).1.length/\(tornUpto f keep k).1.length<=f.now.length:=by
  induction k with
  | zero=>exact ⟨Nat.le_refl _,h⟩
  | succ k ih=>exact tornStep_len ih.1 ih.2
theorem tornAll_names:∀ (l:Fs) (k:List Bool),(tornAll l k).map (·.1)=l.map (·.1)
  | [],_=>rfl
  | (n,f)::r,k=>by simp [tornAll,tornAll_names r]
theorem tornAll_mem:∀ {l:Fs} {k:List Bool} {p:Nm×Fl},p∈tornAll l k->∃f k',(p.1,f)∈l/\p.2=⟨(torn f k').1,(torn f k').1⟩
  | (n,f)::r,k,p,h=>by
    unfold tornAll at h
    rcases List.mem_cons.1 h with rfl | h
    · exact ⟨f,k,List.mem_cons_self,rfl⟩
    · obtain ⟨f',k',h1,h2⟩:=tornAll_mem h
      exact ⟨f',k',List.mem_cons_of_mem _ h1,h2⟩
theorem tornAll_get (n:Nm):∀ (l:Fs) (k:List Bool),(fget l n=none/\fget (tornAll l k) n=none)\/∃f k',fget l n=some f/\fget (tornAll l k) n=some ⟨(torn f k').1,(torn f k').1⟩
  | [],_=>.inl ⟨rfl,rfl⟩
  | (m,f)::r,k=>by
    unfold tornAll fget
    by_cases e:n=m
    · right;exact ⟨f,k,by simp [e],by simp [e]⟩
    · simp only [if_neg e]
      exact tornAll_get n r _
theorem rising_names {l l':Fs} (h:l.map (·.1)=l'.map (·.1)) (hr:rising l):rising l':=by
  have:∀ l:Fs,rising l↔(l.map (·.1)).Pairwise (· < ·):=fun l=>by rw [List.pairwise_map];rfl
  rw [this] at hr ⊢
  rwa [<-h]
theorem rising_torn {l:Fs} (h:rising l) (k:List Bool):rising (tornAll l k):=rising_names (tornAll_names l k).symm h
theorem used_torn:∀ {l:Fs} (k:List Bool),(∀ p∈l,p.2.syn.length<=p.2.now.length)->used (tornAll l k)<=used l
  | [],_,_=>Nat.le_refl _
  | (n,f)::r,k,h=>by
    unfold tornAll
    rw [used_cons,used_cons]
    have h1:=torn_len k (h (n,f) List.mem_cons_self)
    have h2:=used_torn (torn f k).2 fun p hp=>h p (List.mem_cons_of_mem _ hp)
    have h3:(torn f k).1.length<=f.now.length:=h1.2
    simp only [sectors]
    have:((torn f k).1.length+15) / 16<=(f.now.length+15) / 16:=Nat.div_le_div_right (by omega)
    omega

/-! ### every disk stays one -/
theorem fresh_ok {r:Int} (h:r<=1099511627776):(fresh r).Ok:=⟨List.Pairwise.nil,fun p hp=>(List.not_mem_nil hp).elim,Nat.zero_le _,(by show r.toNat<=_;omega),Nat.zero_le _,fun p hp=>(List.not_mem_nil hp).elim⟩
theorem Disk.Ok.crash {d:Disk} (h:d.Ok) (k:List Bool):(d.crash k).Ok:=by
  unfold Disk.crash
  split
  · exact h
  · refine ⟨rising_torn h.ris k,fun p hp=>?_,Nat.le_trans (used_torn k h.syn) h.fit,h.room,Nat.zero_le _,fun p hp=>?_⟩
    · obtain ⟨f,k',_,e⟩:=tornAll_mem hp
      rw [e];exact Nat.le_refl _
    · obtain ⟨f,k',h1,_⟩:=tornAll_mem hp
      exact h.nam (p.1,f) h1
theorem Disk.Ok.restart {d:Disk} (h:d.Ok):d.restart.Ok:=⟨h.ris,h.syn,h.fit,h.room,h.armed,h.nam⟩
theorem Disk.Ok.arm {d:Disk} (h:d.Ok) {n:Int} (hn:n<=9223372036854775807) (k:List Bool):(d.arm n k).Ok:=⟨h.ris,h.syn,h.fit,h.room,by show n.toNat<=_;omega,h.nam⟩
theorem Disk.Ok.begin_ {d:Disk} (h:d.Ok):d.begin_.Ok:=by
  have ha:=h.armed
  unfold Disk.begin_
  simp only
  split
  · exact ⟨h.ris,h.syn,h.fit,h.room,h.armed,h.nam⟩
  · split
    · have h1:Disk.Ok { d with ops:=IntKind.i64.wrap (d.ops+1),armed:=0 }:=⟨h.ris,h.syn,h.fit,h.room,Nat.zero_le _,h.nam⟩
      exact h1.crash _
    · exact ⟨h.ris,h.syn,h.fit,h.room,by show d.armed - 1<=_;omega,h.nam⟩
theorem Disk.Ok.put {d:Disk} (h:d.Ok) {n:Nm} {f:Fl} (h1:f.syn.length<=f.now.length) (h2:sectors f.now.length+Dk.used (fdel d.files n)<=d.room) (h3:n.length<=24):Disk.Ok { d with files:=fput d.files n f }:=
  ⟨rising_fput h.ris _ _,fun p hp=>by rcases mem_fput.1 hp with rfl | hp;(exact h1);(exact h.syn p hp.1),by show Dk.used (fput d.files n f)<=_;rw [used_fput];exact h2,h.room,h.armed,fun p hp=>by rcases mem_fput.1 hp with rfl | hp;(exact h3);(exact h.nam p hp.1)⟩
theorem used_fdel_le {l:Fs} (hr:rising l) (n:Nm):used (fdel l n)<=used l:=by
  cases hf:fget l n with
  | none=>rw [fdel_none hf];exact Nat.le_refl _
  | some f=>rw [used_fdel hr hf];omega
theorem Disk.Ok.del {d:Disk} (h:d.Ok) (n:Nm):Disk.Ok { d with files:=fdel d.files n }:=
  ⟨rising_fdel h.ris _,fun p hp=>h.syn p (List.mem_filter.1 hp).1,Nat.le_trans (used_fdel_le h.ris n) h.fit,h.room,h.armed,fun p hp=>h.nam p (List.mem_filter.1 hp).1⟩

theorem may_len {n:Nm} (h:¬ may n=false):n.length<=24:=by
  unfold may at h;simp only [decide_eq_false_iff_not,Decidable.not_not] at h;exact h.2
theorem Disk.Ok.create {d:Disk} (h:d.Ok) (n:Nm):(d.create n).1.Ok:=by
  unfold Disk.create
  have hb:=h.begin_
  simp only
  split
  · exact hb
  · split
    · exact hb
    · rename_i hm
      split
      · exact hb
      · exact hb.put (Nat.le_refl _) (by have:=used_fdel_le hb.ris n;have:=hb.fit;unfold Disk.used at this;simp [sectors];omega) (may_len hm)
theorem Disk.Ok.append {d:Disk} (h:d.Ok) (n:Nm) (b:By):(d.append n b).1.Ok:=by
  unfold Disk.append
  have hb:=h.begin_
  simp only
  split
  · exact hb
  · split
    · exact hb
    · rename_i f hf
      split
      · exact hb
      · rename_i hr
        have hs:=hb.syn _ (mem_of_fget hf)
        have hu:=used_fdel hb.ris hf
        refine hb.put (by simp at hs ⊢;omega) ?_ (hb.nam _ (mem_of_fget hf))
        unfold Disk.used at hr
        rw [hu] at hr
        simp only [List.length_append]
        have:sectors f.now.length<=sectors (f.now.length+b.length):=Nat.div_le_div_right (by omega)
        omega
theorem Disk.Ok.readAt {d:Disk} (h:d.Ok) (n:Nm) (i k:Int):(d.readAt n i k).1=d.begin_:=by
  unfold Disk.readAt;simp only;split;(rfl);split;(rfl);split<;>rfl
theorem Disk.Ok.size {d:Disk} (h:d.Ok) (n:Nm):(d.size n).1=d.begin_:=by
  unfold Disk.size;simp only;split;(rfl);split<;>rfl
theorem Disk.Ok.list {d:Disk} (h:d.Ok):d.list.1=d.begin_:=by
  unfold Disk.list;simp only;split<;>rfl
theorem Disk.Ok.sync {d:Disk} (h:d.Ok) (n:Nm):(d.sync n).1.Ok:=by
  unfold Disk.sync
  have hb:=h.begin_
  simp only
  split
  · exact hb
  · split
    · exact hb
    · rename_i f hf
      exact hb.put (Nat.le_refl _) (by have:=used_fdel hb.ris hf;have:=hb.fit;unfold Disk.used at this;simp only;omega) (hb.nam _ (mem_of_fget hf))
theorem Disk.Ok.remove {d:Disk} (h:d.Ok) (n:Nm):(d.remove n).1.Ok:=by
  unfold Disk.remove
  have hb:=h.begin_
  simp only
  split
  · exact hb
  · split
    · exact hb
    · exact hb.del n
theorem Disk.Ok.rename {d:Disk} (h:d.Ok) (n m:Nm):(d.rename n m).1.Ok:=by
  unfold Disk.rename
  have hb:=h.begin_
  simp only
  split
  · exact hb
  · split
    · exact hb
    · rename_i f hf
      split
      · exact hb
      · rename_i hm
        split
        · exact hb
        · have hd:=hb.del n
          have hs:=hb.syn _ (mem_of_fget hf)
          refine Disk.Ok.put hd (f:=f) hs ?_ (may_len hm)
          have h1:=used_fdel hb.ris hf
          have h2:=hb.fit
          have h3:=used_fdel_le hd.ris m
          unfold Disk.used at h2
          simp only at h3 ⊢
          omega

/-! ### how many files -/
theorem len_fdel (l:Fs) (n:Nm):(fdel l n).length<=l.length:=List.length_filter_le _ _
theorem len_fdel_lt {l:Fs} {n:Nm} {f:Fl} (h:fget l n=some f):(fdel l n).length < l.length:=by
  have h1:=List.length_filter_lt_length_iff_exists (p:=fun p:Nm×Fl=>decide (p.1≠n)) (l:=l)
  exact h1.2 ⟨_,mem_of_fget h,by simp⟩
theorem len_fput (l:Fs) (n:Nm) (f:Fl):(fput l n f).length<=l.length+1:=by
  unfold fput;rw [(perm_fins n f _).length_eq];have:=len_fdel l n;simp;omega
theorem len_fput_old {l:Fs} {n:Nm} {f g:Fl} (h:fget l n=some g):(fput l n f).length<=l.length:=by
  unfold fput;rw [(perm_fins n f _).length_eq]
  have:=len_fdel_lt h
  simp;omega
theorem len_torn:∀ (l:Fs) (k:List Bool),(tornAll l k).length=l.length
  | [],_=>rfl
  | (n,f)::r,k=>by simp [tornAll,len_torn r]
theorem len_begin (d:Disk):d.begin_.files.length=d.files.length:=by
  unfold Disk.begin_
  simp only
  split
  · rfl
  · split
    · unfold Disk.crash;split<;>simp [len_torn]
    · rfl
theorem len_create (d:Disk) (n:Nm):(d.create n).1.files.length<=d.files.length+1:=by
  unfold Disk.create;simp only
  have h:=len_begin d
  split
  · exact Nat.le_trans (Nat.le_of_eq h) (by omega)
  · split
    · exact Nat.le_trans (Nat.le_of_eq h) (by omega)
    · split
      · exact Nat.le_trans (Nat.le_of_eq h) (by omega)
      · have:=len_fput d.begin_.files n ⟨[],[]⟩;simp only;omega
theorem len_append (d:Disk) (n:Nm) (b:By):(d.append n b).1.files.length<=d.files.length:=by
  unfold Disk.append;simp only
  have h:=len_begin d
  split
  · exact Nat.le_trans (Nat.le_of_eq h) (by omega)
  · split
    · exact Nat.le_trans (Nat.le_of_eq h) (by omega)
    · rename_i hf
      split
      · exact Nat.le_trans (Nat.le_of_eq h) (by omega)
      · exact Nat.le_trans (len_fput_old hf) (by omega)
theorem len_sync (d:Disk) (n:Nm):(d.sync n).1.files.length<=d.files.length:=by
  unfold Disk.sync;simp only
  have h:=len_begin d
  split
  · exact Nat.le_trans (Nat.le_of_eq h) (by omega)
  · split
    · exact Nat.le_trans (Nat.le_of_eq h) (by omega)
    · rename_i hf
      exact Nat.le_trans (len_fput_old hf) (by omega)
theorem len_remove (d:Disk) (n:Nm):(d.remove n).1.files.length<=d.files.length:=by
  unfold Disk.remove;simp only
  have h:=len_begin d
  split
  · exact Nat.le_trans (Nat.le_of_eq h) (by omega)
  · split
    · exact Nat.le_trans (Nat.le_of_eq h) (by omega)
    · have:=len_fdel d.begin_.files n;simp only;omega
theorem len_rename (d:Disk) (n m:Nm):(d.rename n m).1.files.length<=d.files.length:=by
  unfold Disk.rename;simp only
  have h:=len_begin d
  split
  · exact Nat.le_trans (Nat.le_of_eq h) (by omega)
  · split
    · exact Nat.le_trans (Nat.le_of_eq h) (by omega)
    · rename_i f hf
      split
      · exact Nat.le_trans (Nat.le_of_eq h) (by omega)
      · split
        · exact Nat.le_trans (Nat.le_of_eq h) (by omega)
        · have h1:=len_fdel_lt hf
          have:=len_fput (fdel d.begin_.files n) m f;simp only;omega
end Go.Cg.Dk

namespace Go.Cg.Dk
set_option linter.unusedVariables false
set_option linter.unusedSimpArgs false
/-! ### a crash, file by file -/
def tornRest:Fs->List Bool->List Bool
  | [],k=>k
  | (_,f)::r,k=>tornRest r (torn f k).2
theorem tornAll_app:∀ (l m:Fs) (k:List Bool),tornAll (l++m) k=tornAll l k++tornAll m (tornRest l k)
  | [],_,_=>rfl
  | (n,f)::r,m,k=>by simp [tornAll,tornRest,tornAll_app r]
theorem tornRest_app:∀ (l m:Fs) (k:List Bool),tornRest (l++m) k=tornRest m (tornRest l k)
  | [],_,_=>rfl
  | (n,f)::r,m,k=>by simp [tornRest,tornRest_app r]
theorem used_app (l m:Fs):used (l++m)=used l+used m:=by simp [used]
theorem fget_swap {n m:Nm} {f g:Fl} (h:m≠n):∀ (l r:Fs),fget (l++(n,f)::r) m=fget (l++(n,g)::r) m
  | [],r=>by simp [fget,h]
  | p::l,r=>by simp only [List.cons_append,fget];rw [fget_swap h (g:=g) l r]
theorem fput_mid {l r:Fs} {n:Nm} {f:Fl} (h:rising (l++(n,f)::r)) (g:Fl):fput (l++(n,f)::r) n g=l++(n,g)::r:=by
  have h':rising (l++(n,g)::r):=rising_names (by simp) h
  refine files_ext (rising_fput h _ _) h' fun m=>?_
  rw [fget_fput]
  split
  · rename_i e;subst e;exact (fget_of_mem h' (by simp)).symm
  · rename_i e;exact fget_swap e l r
/-- the files when so many are done -/
def crashed (fs:Fs) (k:List Bool) (i:Nat):Fs:=tornAll (fs.take i) k++fs.drop i
theorem rising_crashed {fs:Fs} (h:rising fs) (k:List Bool) (i:Nat):rising (crashed fs k i):=by
  refine rising_names ?_ h
  unfold crashed
  rw [List.map_append,tornAll_names,<-List.map_append,List.take_append_drop]
theorem crash_at {fs:Fs} (h:rising fs) (k:List Bool) {i:Nat} (hi:i < fs.length):∃n f,(fs.map (·.1)).getD i []=n/\(n,f)∈fs/\fget (crashed fs k i) n=some f/\
    fput (crashed fs k i) n ⟨(torn f (tornRest (fs.take i) k)).1,(torn f (tornRest (fs.take i) k)).1⟩=crashed fs k (i+1)/\tornRest (fs.take (i+1)) k=(torn f (tornRest (fs.take i) k)).2/\
    used (tornAll (fs.take (i+1)) k)=used (tornAll (fs.take i) k)+sectors (torn f (tornRest (fs.take i) k)).1.length:=by
  obtain ⟨n,f,hp⟩:∃n f,fs[i]=(n,f):=⟨_,_,rfl⟩
  have hd:fs.drop i=(n,f)::fs.drop (i+1):=by rw [<-hp];exact List.drop_eq_getElem_cons hi
  have ht:fs.take (i+1)=fs.take i++[(n,f)]:=by rw [<-hp];simp
  have hr:=rising_crashed h k i
  unfold crashed at hr ⊢
  rw [hd] at hr ⊢
  refine ⟨n,f,?_,?_,fget_of_mem hr (by simp),?_,?_,?_⟩
  · simp [List.getD_eq_getElem?_getD,List.getElem?_eq_getElem hi,hp]
  · rw [<-hp];exact List.getElem_mem hi
  · rw [fput_mid hr,ht,tornAll_app];simp [tornAll]
  · rw [ht,tornRest_app];rfl
  · rw [ht,tornAll_app,used_app];simp [tornAll,used]
theorem crashed_zero (fs:Fs) (k:List Bool):crashed fs k 0=fs:=by simp [crashed,tornAll]
theorem crashed_all (fs:Fs) (k:List Bool):crashed fs k fs.length=tornAll fs k:=by simp [crashed]
theorem tornRest_zero (fs:Fs) (k:List Bool):tornRest (fs.take 0) k=k:=by simp [tornRest]
theorem used_zero (fs:Fs) (k:List Bool):used (tornAll (fs.take 0) k)=0:=by simp [tornAll,used]
theorem used_take {fs:Fs} (h:∀ p∈fs,p.2.syn.length<=p.2.now.length) (k:List Bool) (i:Nat):used (tornAll (fs.take i) k)<=used fs:=by
  have h1:=used_torn (l:=fs.take i) k fun p hp=>h p (List.mem_of_mem_take hp)
  have h2:used fs=used (fs.take i)+used (fs.drop i):=by rw [<-used_app,List.take_append_drop]
  omega
end Go.Cg.Dk

namespace Go.Cg.Dk
set_option linter.unusedVariables false
set_option linter.unusedSimpArgs false
theorem names_crash (d:Disk) (k:List Bool):(d.crash k).files.map (·.1)=d.files.map (·.1):=by
  unfold Disk.crash;split
  · rfl
  · exact tornAll_names _ _
theorem names_begin (d:Disk):d.begin_.files.map (·.1)=d.files.map (·.1):=by
  unfold Disk.begin_
  simp only
  split
  · rfl
  · split
    · exact names_crash _ _
    · rfl
theorem keep_crash (d:Disk) (k:List Bool):(d.crash k).keep=d.keep:=by unfold Disk.crash;split<;>rfl
theorem begin_0 {d:Disk} (h:d.armed=0):d.begin_={ d with ops:=IntKind.i64.wrap (d.ops+1) }:=by unfold Disk.begin_;simp [h]
theorem begin_1 {d:Disk} (h:d.armed=1):d.begin_=Disk.crash d.keep { d with ops:=IntKind.i64.wrap (d.ops+1),armed:=0 }:=by unfold Disk.begin_;simp [h]
theorem begin_2 {d:Disk} (h:1 < d.armed):d.begin_={ d with ops:=IntKind.i64.wrap (d.ops+1),armed:=d.armed - 1 }:=by
  unfold Disk.begin_;simp only;rw [if_neg (by omega),if_neg (by omega)]
/-- the error that an operation begins with -/
def Disk.err (d:Disk):Nat:=if d.down then 7 else 0
end Go.Cg.Dk

namespace Go.Cg.Dk
set_option linter.unusedVariables false
set_option linter.unusedSimpArgs false
theorem fput_same {l:Fs} (h:rising l) {n:Nm} {f:Fl} (hf:fget l n=some f):fput l n f=l:=by
  refine files_ext (rising_fput h _ _) h fun m=>?_
  rw [fget_fput];split
  · rename_i e;subst e;exact hf.symm
  · rfl
theorem fdel_comm (l:Fs) (n m:Nm):fdel (fdel l n) m=fdel (fdel l m) n:=by
  unfold fdel;rw [List.filter_filter,List.filter_filter]
  congr 1;funext p;rw [Bool.and_comm]
theorem fdel_fdel (l:Fs) (n:Nm):fdel (fdel l n) n=fdel l n:=by unfold fdel;rw [List.filter_filter];congr 1;funext p;simp
theorem fput_fdel (l:Fs) (n:Nm) (f:Fl):fput (fdel l n) n f=fput l n f:=by unfold fput;rw [fdel_fdel]
theorem used_fput_old {l:Fs} (h:rising l) {n:Nm} {f g:Fl} (hf:fget l n=some f):used (fput l n g)+sectors f.now.length=used l+sectors g.now.length:=by
  rw [used_fput,used_fdel h hf];omega
theorem used_fput_new {l:Fs} {n:Nm} {g:Fl} (hf:fget l n=none):used (fput l n g)=used l+sectors g.now.length:=by
  rw [used_fput,fdel_none hf];omega
end Go.Cg.Dk

namespace Go.Cg.Dk
set_option linter.unusedVariables false
set_option linter.unusedSimpArgs false
theorem len_size (d:Disk) (n:Nm):(d.size n).1.files.length=d.files.length:=by
  unfold Disk.size;simp only
  have h:=len_begin d
  split
  · exact h
  · split<;>exact h
theorem len_readAt (d:Disk) (n:Nm) (i k:Int):(d.readAt n i k).1.files.length=d.files.length:=by
  unfold Disk.readAt;simp only
  have h:=len_begin d
  split
  · exact h
  · split
    · exact h
    · split<;>exact h
theorem size_le {d:Disk} (h:d.Ok) (n:Nm):(d.size n).2.1<=17592186044416:=by
  unfold Disk.size;simp only
  split
  · simp
  · split
    · simp
    · rename_i hf;exact len_le h.begin_ hf
theorem readAt_le (d:Disk) (n:Nm) (i k:Int) (hk:k<=17592186044416):(d.readAt n i k).2.1.length<=17592186044416:=by
  unfold Disk.readAt;simp only
  split
  · simp
  · split
    · simp
    · split
      · simp;omega
      · simp
end Go.Cg.Dk
end
section
namespace Go.Cg.Oc
set_option linter.unusedVariables false
set_option linter.unusedSimpArgs false
open Go.Cg.Dk (By)

/-! ### octets -/
def le:Nat->Nat->By
  | 0,_=>[]
  | k+1,n=>UInt8.ofNat (n%256)::le k (n / 256)
def unle:By->Nat
  | []=>0
  | x::r=>x.toNat+256*unle r
theorem le_len:∀ k n,(le k n).length=k
  | 0,_=>rfl
  | k+1,n=>by simp [le,le_len k]
theorem unle_lt:∀ b:By,unle b < 256 ^ b.length
  | []=>by decide
  | x::r=>by
    have:=unle_lt r
    have hx:=x.toNat_lt
    simp only [unle,List.length_cons,Nat.pow_succ]
    omega
theorem unle_le:∀ k n,unle (le k n)=n%256 ^ k
  | 0,n=>by simp [le,unle,Nat.mod_one]
  | k+1,n=>by
    have hx:(UInt8.ofNat (n%256)).toNat=n%256:=by simp
    simp only [le,unle,unle_le k,hx]
    rw [Nat.pow_succ,Nat.mul_comm (256 ^ k) 256,Nat.mod_mul]
theorem le_unle:∀ b:By,le b.length (unle b)=b
  | []=>rfl
  | x::r=>by
    have hx:=x.toNat_lt
    have h1:(x.toNat+256*unle r)%256=x.toNat:=by omega
    have h2:(x.toNat+256*unle r) / 256=unle r:=by omega
    simp only [List.length_cons,le,unle,h1,h2,le_unle r]
    congr 1
    exact UInt8.toNat.inj (by simp)
theorem unle_take_le (k n:Nat) (r:By) (h:n < 256 ^ k):unle ((le k n++r).take k)=n:=by
  rw [List.take_left' (le_len k n),unle_le,Nat.mod_eq_of_lt h]
def put (b:By) (size:Int) (n:Nat):By:=b++le (min (max size 0) 8).toNat n
def get (b:By) (i size:Int):Nat×Bool:=
  if 1<=size/\size<=8/\0<=i/\i<=b.length - size then (unle ((b.drop i.toNat).take size.toNat),true) else (0,false)
/-- a sum's eight steps for a byte -/
def crcBit (c:Nat):Nat:=(c / 2) ^^^ (if c%2=1 then 3988292384 else 0)
def crcBits:Nat->Nat->Nat
  | 0,c=>c
  | k+1,c=>crcBit (crcBits k c)
def crcByte (c:Nat) (x:UInt8):Nat:=crcBits 8 (c ^^^ x.toNat)
def crcFrom (b:By):Nat:=b.foldl crcByte 4294967295
def crc (b:By):Nat:=crcFrom b ^^^ 4294967295
theorem crcBit_lt {c:Nat} (h:c < 4294967296):crcBit c < 4294967296:=by
  have h1:c / 2 < 2 ^ 32:=by omega
  have h2:(if c%2=1 then 3988292384 else 0) < 2 ^ 32:=by split<;>decide
  exact Nat.xor_lt_two_pow h1 h2
theorem crcBits_lt {c:Nat} (h:c < 4294967296):∀ k,crcBits k c < 4294967296
  | 0=>h
  | k+1=>crcBit_lt (crcBits_lt h k)
theorem crcByte_lt {c:Nat} (h:c < 4294967296) (x:UInt8):crcByte c x < 4294967296:=
  crcBits_lt (Nat.xor_lt_two_pow (n:=32) h (by have:=x.toNat_lt;omega)) 8
theorem crcFrom_lt (b:By):crcFrom b < 4294967296:=by
  have:∀ (b:By) (c:Nat),c < 4294967296->b.foldl crcByte c < 4294967296:=by
    intro b
    induction b with
    | nil=>exact fun c h=>h
    | cons x r ih=>exact fun c h=>ih _ (crcByte_lt h x)
  exact this b _ (by decide)
theorem crc_lt (b:By):crc b < 4294967296:=Nat.xor_lt_two_pow (n:=32) (crcFrom_lt b) (by decide)

/-! ### blocks -/
def enc (t:By):By×Nat:=if 1000 < t.length then ([],1) else (le 2 t.length++t++le 4 (crc (le 2 t.length++t)),0)
def dec (b:By):By×Nat×Nat:=
  let n:=unle (b.take 2)
  if b.length < 2\/1000 < n\/b.length < 2+n+4 then ([],0,2)
  else if unle ((b.drop (2+n)).take 4)=crc (b.take (2+n)) then ((b.drop 2).take n,2+n+4,0) else ([],0,3)
theorem enc_len {t:By} (h:t.length<=1000):(enc t).1.length=t.length+6:=by
  unfold enc;rw [if_neg (by omega)];simp [le_len];omega
theorem enc_ok {t:By} (h:t.length<=1000):enc t=(le 2 t.length++t++le 4 (crc (le 2 t.length++t)),0):=by
  unfold enc;rw [if_neg (by omega)]
theorem dec_enc {t:By} (h:t.length<=1000) (r:By):dec ((enc t).1++r)=(t,t.length+6,0):=by
  rw [enc_ok h]
  have hn:unle (((le 2 t.length++t++le 4 (crc (le 2 t.length++t)))++r).take 2)=t.length:=by
    simp only [List.append_assoc]
    exact unle_take_le 2 _ _ (by omega)
  have hl:(le 2 t.length++t++le 4 (crc (le 2 t.length++t))++r).length=t.length+6+r.length:=by simp [le_len];omega
  have hp:(le 2 t.length++t).length=2+t.length:=by simp [le_len]
  unfold dec
  simp only [hn,hl]
  rw [if_neg (by omega)]
  have h1:(le 2 t.length++t++le 4 (crc (le 2 t.length++t))++r).drop (2+t.length)=le 4 (crc (le 2 t.length++t))++r:=by
    rw [List.append_assoc,List.drop_left' hp]
  have h2:(le 2 t.length++t++le 4 (crc (le 2 t.length++t))++r).take (2+t.length)=le 2 t.length++t:=by
    rw [List.append_assoc,List.take_left' hp]
  have h3:((le 2 t.length++t++le 4 (crc (le 2 t.length++t))++r).drop 2).take t.length=t:=by
    simp only [List.append_assoc]
    rw [List.drop_left' (le_len 2 _),List.take_left' rfl]
  rw [h1,h2,h3,unle_take_le 4 _ _ (Nat.lt_of_lt_of_le (crc_lt _) (by decide)),if_pos rfl,show 2+t.length+4=t.length+6 from by omega]
theorem dec_facts {b t:By} {n:Nat} (h:dec b=(t,n,0)):t.length+6=n/\n<=b.length/\t.length<=1000/\(enc t).1=b.take n:=by
  unfold dec at h
  simp only at h
  split at h
  · simp at h
  · split at h
    · rename_i h1 h2
      simp only [Prod.mk.injEq,and_true] at h
      obtain ⟨h3,h4⟩:=h
      generalize hk:unle (b.take 2)=k at *
      have ht:t.length=k:=by rw [<-h3];simp;omega
      refine ⟨by omega,by omega,by omega,?_⟩
      rw [enc_ok (by omega),ht]
      have e1:le 2 k=b.take 2:=by
        have:=le_unle (b.take 2)
        rw [hk] at this
        rwa [show (b.take 2).length=2 from by simp;omega] at this
      have e2:le 2 k++t=b.take (2+k):=by
        rw [e1,<-h3,List.take_add]
      have e3:le 4 (crc (le 2 k++t))=(b.drop (2+k)).take 4:=by
        rw [e2,<-h2]
        have:=le_unle ((b.drop (2+k)).take 4)
        rwa [show ((b.drop (2+k)).take 4).length=4 from by simp;omega] at this
      rw [e3,e2,<-List.take_add,<-h4]
    · simp at h
def joined:List By->By
  | []=>[]
  | t::r=>(enc t).1++joined r
/-- the texts of blocks; the last cell: 0, or the error -/
def allF:Nat->By->List By×Nat
  | 0,_=>([],0)
  | f+1,b=>if b=[] then ([],0) else
    let d:=dec b
    if d.2.2≠0 then ([],d.2.2) else
    let r:=allF f (b.drop d.2.1)
    if r.2≠0 then ([],r.2) else (d.1::r.1,0)
def all (b:By):List By×Nat:=allF b.length b
/-! ### manifests -/
structure Mf where
  seq:Nat
  n:Int
  shards:Int
  step:Int
  kind:Int
  start:Nat
deriving DecidableEq
def mf0:Mf:=⟨0,0,0,0,0,0⟩
def part (n s:Int):Bool:=decide (0<=n/\n<=1048576/\1<=s/\s<=4096)
def mright (m:Mf):Bool:=part m.n m.shards&&decide (m.seq≠0/\m.step<=1099511627776)&&(if m.step= -1 then decide (m.kind=0/\m.start=0) else decide (0<=m.step)&&Tr.right m.kind m.start m.n)
def mtext (m:Mf):By:=le 8 m.seq++le 8 m.n.toNat++le 8 m.shards.toNat++le 8 (m.step+1).toNat++le 8 m.kind.toNat++le 8 m.start
def menc (m:Mf):By×Nat:=if mright m then enc (mtext m) else ([],1)
def i64 (x:Nat):Int:=IntKind.i64.wrap x
def word (t:By) (i:Nat):Nat:=(get t (i*8:Nat) 8).1
def mof (t:By):Mf:=⟨word t 0,i64 (word t 1),i64 (word t 2),IntKind.i64.wrap (i64 (word t 3) - 1),i64 (word t 4),word t 5%4294967296⟩
def mdec (b:By):Mf×Nat:=
  if (dec b).2.2≠0 then (mf0,(dec b).2.2) else
  if (menc (mof (dec b).1)).2≠0\/(menc (mof (dec b).1)).1≠b then (mf0,2) else (mof (dec b).1,0)
def choose (a b:By):Mf×Nat×Bool:=
  let x:Mf×Nat×Bool:=if (mdec a).2=0 then ((mdec a).1,0,true) else (mf0,0,false)
  if (mdec b).2=0/\(x.2.2=false\/x.1.seq < (mdec b).1.seq) then ((mdec b).1,1,true) else x
theorem menc_no {m:Mf} (h:mright m=false):menc m=([],1):=by unfold menc;rw [if_neg (by rw [h];decide)]
theorem mdec_zero {b:By} (h:(mdec b).2=0):mright (mdec b).1=true/\(menc (mdec b).1).1=b:=by
  unfold mdec at h ⊢
  split at h
  · simp only at h;contradiction
  · split at h
    · simp at h
    · rename_i h1 h2
      rw [if_neg h1,if_neg h2]
      simp only [not_or,Decidable.not_not] at h2
      refine ⟨?_,h2.2⟩
      cases hr:mright (mof (dec b).1) with
      | true=>rfl
      | false=>rw [menc_no hr] at h2;simp at h2

/-! ### states -/
def vbytes (v:Nat×Bool):By:=le 8 v.1++[if v.2 then 1 else 0]
def vtext (l:List (Nat×Bool)):By:=l.flatMap vbytes
def chunks:Nat->List (Nat×Bool)->List (List (Nat×Bool))
  | 0,_=>[]
  | f+1,l=>if l=[] then [] else l.take 100::chunks f (l.drop 100)
def stexts (step:Nat) (l:List (Nat×Bool)):List By:=(le 8 step++le 8 l.length)::(chunks l.length l).map vtext
def senc (step:Int) (vals:List Nat) (live:List Bool):By×Nat:=
  if step < 0\/vals.length≠live.length\/1048576 < vals.length then ([],1) else (joined (stexts step.toNat (vals.zip live)),0)
def sof:Nat->By->List (Nat×Bool)
  | 0,_=>[]
  | k+1,b=>(unle (b.take 8),b.getD 8 0==1)::sof k (b.drop 9)
def sdec (b:By):Int×(List Nat×List Bool)×Nat:=
  let l:=(all b).1
  if (all b).2≠0 then (0,([],[]),(all b).2) else
  if l=[]\/(l.headD []).length≠16 then (0,([],[]),2) else
  let step:=unle ((l.headD []).take 8)
  let n:=unle ((l.headD []).drop 8)
  let body:=l.tail.flatten
  if 9223372036854775807 < step\/1048576 < n\/body.length≠n*9 then (0,([],[]),2) else
  let c:=(sof n body).unzip
  if (senc step c.1 c.2).2≠0\/(senc step c.1 c.2).1≠b then (0,([],[]),2) else (step,c,0)
end Go.Cg.Oc
end
section
namespace Go.Cg.Rn
set_option linter.unusedVariables false
set_option linter.unusedSimpArgs false
open Go.Cg.Dk Go.Cg.Oc

/-- a record: a key, a value -/
abbrev R:=Nat×Nat
def ltb (a b:R):Bool:=decide (a.1 < b.1\/a.1=b.1/\a.2 < b.2)
def cmp (a b:R):Int:=if ltb a b then -1 else if ltb b a then 1 else 0
/-! ### combined -/
def comb (how:Int) (a b:Nat):Nat:=if how≠1 then min a b else min (a+b) 18446744073709551615
def fput (how:Int) (l:List R) (r:R):List R:=
  match l.getLast? with
  | some z=>if how≠0/\z.1=r.1 then l.dropLast++[(z.1,comb how z.2 r.2)] else l++[r]
  | none=>[r]
def fold (how:Int) (l:List R):List R:=l.foldl (fput how) []
def ins (r:R):List R->List R
  | []=>[r]
  | x::l=>if ltb r x then r::x::l else x::ins r l
def sort:List R->List R
  | []=>[]
  | x::l=>ins x (sort l)
def hright (how:Int):Bool:=decide (0<=how/\how<=2)
def sorted (how:Int) (l:List R):List R×Nat:=if hright how then (fold how (sort l),0) else ([],1)
def merge (how:Int) (ls:List (List R)):List R×Nat:=if hright how then (fold how (sort ls.flatten),0) else ([],1)
/-! ### a file of records -/
def rb (r:R):By:=le 8 r.1++le 8 r.2
def rtext (l:List R):By:=l.flatMap rb
/-- one more: what is there, and whether it is done -/
def wput (n:Nm) (r:R) (t:By) (d:Disk):Disk×By×Nat:=
  if (t++rb r).length < 800 then (d,t++rb r,0) else ((d.append n (enc (t++rb r)).1).1,[],(d.append n (enc (t++rb r)).1).2)
def wputs (n:Nm):List R->By->Disk->Disk×By×Nat
  | [],t,d=>(d,t,0)
  | r::l,t,d=>if (wput n r t d).2.2≠0 then wput n r t d else wputs n l (wput n r t d).2.1 (wput n r t d).1
def wclose (n:Nm) (t:By) (d:Disk):Disk×Nat:=
  if t=[] then d.sync n else if (d.append n (enc t).1).2≠0 then d.append n (enc t).1 else (d.append n (enc t).1).1.sync n
def write (n:Nm) (l:List R) (d:Disk):Disk×Nat:=
  if (d.create n).2≠0 then d.create n else
  if (wputs n l [] (d.create n).1).2.2≠0 then ((wputs n l [] (d.create n).1).1,(wputs n l [] (d.create n).1).2.2) else
  wclose n (wputs n l [] (d.create n).1).2.1 (wputs n l [] (d.create n).1).1
/-- the next block: a text, where the next one is, whether it was short -/
def rin (n:Nm) (sz at_:Nat) (short:Bool) (d:Disk):Disk×(By×Nat×Bool)×Nat:=
  let a:=d.readAt n at_ (min 1006 ((sz:Int) - at_))
  if a.2.2≠0 then (a.1,([],at_,short),a.2.2) else
  let x:=dec a.2.1
  if x.2.2≠0 then (a.1,([],at_,short),x.2.2) else
  if x.1.length=0\/x.1.length%16≠0\/800 < x.1.length\/short=true then (a.1,([],at_,short),2) else (a.1,(x.1,at_+x.2.1,decide (x.1.length < 800)),0)
def recOf (t:By):R:=(unle (t.take 8),unle ((t.drop 8).take 8))
end Go.Cg.Rn
end
section
namespace Go.Cg.Rn
set_option linter.unusedVariables false
set_option linter.unusedSimpArgs false
open Go.Cg.Dk Go.Cg.Oc

theorem ltb_iff {a b:R}:ltb a b=true↔a.1 < b.1\/a.1=b.1/\a.2 < b.2:=by simp [ltb]
theorem ltb_not {a b:R}:ltb a b=false↔¬ (a.1 < b.1\/a.1=b.1/\a.2 < b.2):=by simp [ltb]
theorem ltb_irr (a:R):ltb a a=false:=by rw [ltb_not];omega
theorem ltb_tr {a b c:R} (h:ltb a b=true) (k:ltb b c=true):ltb a c=true:=by rw [ltb_iff] at *;omega
theorem ltb_ntr {a b c:R} (h:ltb a b=false) (k:ltb b c=false):ltb a c=false:=by rw [ltb_not] at *;omega
theorem ltb_one {a b:R} (h:ltb a b=false) (k:ltb b a=false):a=b:=by rw [ltb_not] at *;exact Prod.ext (by omega) (by omega)
theorem ltb_as {a b:R} (h:ltb a b=true):ltb b a=false:=by rw [ltb_iff] at h;rw [ltb_not];omega
theorem cmp_lt (a b:R):decide (cmp a b < 0)=ltb a b:=by
  unfold cmp
  cases h:ltb a b
  · cases ltb b a<;>simp
  · simp
theorem ins_perm (r:R):∀ l,(ins r l).Perm (r::l)
  | []=>List.Perm.refl _
  | x::l=>by
    unfold ins
    split
    · exact List.Perm.refl _
    · exact ((ins_perm r l).cons x).trans (List.Perm.swap r x l)
theorem sort_perm:∀ l,(sort l).Perm l
  | []=>List.Perm.refl _
  | x::l=>(ins_perm x (sort l)).trans ((sort_perm l).cons x)
@[simp] theorem len_sort (l:List R):(sort l).length=l.length:=(sort_perm l).length_eq
/-- they rise -/
abbrev Up (l:List R):Prop:=l.Pairwise fun a b=>ltb b a=false
theorem ins_up (r:R):∀ {l},Up l->Up (ins r l)
  | [],_=>by simp [ins]
  | x::l,h=>by
    unfold ins
    obtain ⟨h1,h2⟩:=List.pairwise_cons.1 h
    split
    · rename_i hlt
      refine List.pairwise_cons.2 ⟨fun y hy=>?_,h⟩
      rcases List.mem_cons.1 hy with rfl | hy
      · exact ltb_as hlt
      · exact ltb_ntr (h1 y hy) (ltb_as hlt)
    · rename_i hlt
      refine List.pairwise_cons.2 ⟨fun y hy=>?_,ins_up r h2⟩
      rcases List.mem_cons.1 ((ins_perm r l).mem_iff.1 hy) with rfl | hy
      · simpa using hlt
      · exact h1 y hy
theorem sort_up:∀ l,Up (sort l)
  | []=>List.Pairwise.nil
  | x::l=>ins_up x (sort_up l)
theorem up_one {l m:List R} (h:l.Perm m) (hl:Up l) (hm:Up m):l=m:=
  h.eq_of_pairwise (fun _ _ _ _ h1 h2=>ltb_one h2 h1) hl hm
theorem sort_eq {l m:List R} (h:m.Perm l) (hm:Up m):sort l=m:=up_one ((sort_perm l).trans h.symm) (sort_up l) hm
theorem sort_of_perm {l m:List R} (h:l.Perm m):sort l=sort m:=sort_eq ((sort_perm m).trans h.symm) (sort_up m)
theorem merge_sort (l:List R):(l.mergeSort fun x y=> !(ltb y x))=sort l:=by
  refine (sort_eq (List.mergeSort_perm l _) ?_).symm
  have h:=List.pairwise_mergeSort (le:=fun x y=> !(ltb y x)) (fun a b c h k=>by simp only [Bool.not_eq_true'] at *;exact ltb_ntr k h) (fun a b=>by
    cases h:ltb b a
    · simp
    · simp [ltb_as h]) l
  exact h.imp fun h=>by simpa using h
theorem sort_app_one (l:List R) (r:R):sort (l++[r])=ins r (sort l):=
  sort_eq (((ins_perm r (sort l)).trans ((sort_perm l).cons r)).trans (List.perm_append_comm (l₁:=[r]) (l₂:=l))) (ins_up r (sort_up l))
end Go.Cg.Rn
end
section
namespace Go.Cg.Rn
set_option linter.unusedVariables false
set_option linter.unusedSimpArgs false
open Go.Cg.Dk Go.Cg.Oc

/-- a head: a record, and the run it is of -/
abbrev Hd:=R×Nat
def hd0:Hd:=((0,0),0)
def hlt (a b:Hd):Bool:=decide (a.1.1 < b.1.1\/a.1.1=b.1.1/\(a.1.2 < b.1.2\/a.1.2=b.1.2/\a.2 < b.2))
theorem hlt_iff {a b:Hd}:hlt a b=true↔a.1.1 < b.1.1\/a.1.1=b.1.1/\(a.1.2 < b.1.2\/a.1.2=b.1.2/\a.2 < b.2):=by simp [hlt]
theorem hlt_not {a b:Hd}:hlt a b=false↔¬ (a.1.1 < b.1.1\/a.1.1=b.1.1/\(a.1.2 < b.1.2\/a.1.2=b.1.2/\a.2 < b.2)):=by simp [hlt]
theorem hlt_irr (a:Hd):hlt a a=false:=by rw [hlt_not];omega
theorem hlt_ntr {a b c:Hd} (h:hlt a b=false) (k:hlt b c=false):hlt a c=false:=by rw [hlt_not] at *;omega
theorem hlt_as {a b:Hd} (h:hlt a b=true):hlt b a=false:=by rw [hlt_iff] at h;rw [hlt_not];omega
theorem hlt_nlt {a b c:Hd} (h:hlt a b=false) (k:hlt c b=true):hlt a c=false:=by rw [hlt_not] at *;rw [hlt_iff] at k;omega
theorem hlt_rec {a b:Hd} (h:hlt a b=false):ltb a.1 b.1=false:=by rw [hlt_not] at h;rw [ltb_not];omega
abbrev hg (l:List Hd) (i:Nat):Hd:=l.getD i hd0
theorem hg_set {l:List Hd} {i j:Nat} {x:Hd} (h:i < l.length):hg (l.set i x) j=if j=i then x else hg l j:=by
  unfold hg
  rw [List.getD_eq_getElem?_getD,List.getD_eq_getElem?_getD,List.getElem?_set]
  by_cases e:i=j
  · subst e;simp [h]
  · rw [if_neg e,if_neg (fun h=>e h.symm)]
def HeapOk (l:List Hd):Prop:=∀ j,0 < j->j < l.length->hlt (hg l j) (hg l ((j - 1) / 2))=false
theorem HeapOk.nil:HeapOk []:=fun j _ h=>absurd h (Nat.not_lt_zero _)
theorem HeapOk.least {l:List Hd} (h:HeapOk l):∀ j,j < l.length->hlt (hg l j) (hg l 0)=false:=by
  intro j
  induction j using Nat.strongRecOn with
  | ind j ih=>
    intro hj
    by_cases h0:j=0
    · subst h0;exact hlt_irr _
    · exact hlt_ntr (h j (by omega) hj) (ih _ (by omega) (by omega))
/-- one place of a row put in for another -/
theorem swap_perm {l:List Hd} {i p:Nat} {x:Hd} (hi:i < l.length) (hp:p < l.length) (hne:p≠i):((l.set i (hg l p)).set p x).Perm (l.set i x):=by
  rw [List.perm_iff_count]
  intro c
  have e:hg l p=l[p]:=by unfold hg;rw [List.getD_eq_getElem?_getD,List.getElem?_eq_getElem hp];rfl
  rw [List.count_set (by simpa using hp),List.count_set hi,List.count_set hi]
  rw [List.getElem_set,<-e,ite_self]
  omega
theorem last_perm {hs:List Hd} {n:Nat} (hn:hs.length=n+1) (h0:0 < n):(hg hs 0::(hs.take n).set 0 (hg hs n)).Perm hs:=by
  obtain ⟨a,q,rfl⟩:∃a q,hs=a::q:=by cases hs with
    | nil=>simp at hn
    | cons a q=>exact ⟨a,q,rfl⟩
  obtain ⟨m,rfl⟩:∃m,n=m+1:=⟨n - 1,by omega⟩
  have hq:q.length=m+1:=by simpa using hn
  have e1:q=q.take m++[q[m]]:=by
    conv=>lhs;rw [<-List.take_append_drop m q]
    rw [List.drop_eq_getElem_cons (by omega),List.drop_eq_nil_of_le (by omega)]
  have e2:hg (a::q) (m+1)=q[m]:=by unfold hg;rw [List.getD_eq_getElem?_getD];simp [hq]
  rw [e2]
  have e3:((a::q).take (m+1)).set 0 q[m]=q[m]::q.take m:=by simp
  rw [e3]
  refine List.Perm.cons _ ?_
  conv=>rhs;rw [e1]
  exact (List.perm_append_comm (l₁:=[q[m]]))
/-- on the way up: x is to be at place i -/
structure UpEx (x:Hd) (i:Nat) (l:List Hd):Prop where
  lt:i < l.length
  rest:∀ j,0 < j->j < l.length->j≠i->(j - 1) / 2≠i->hlt (hg l j) (hg l ((j - 1) / 2))=false
  above:∀ j,0 < j->j < l.length->(j - 1) / 2=i->0 < i->hlt (hg l j) (hg l ((i - 1) / 2))=false
  below:∀ j,0 < j->j < l.length->(j - 1) / 2=i->hlt (hg l j) x=false
theorem UpEx.start {hs:List Hd} {x:Hd} (h:HeapOk hs):UpEx x hs.length (hs++[x]):=by
  refine ⟨by simp,fun j h0 hj hne _=>?_,fun j h0 hj hp _=>?_,fun j h0 hj hp=>?_⟩
  · simp at hj
    have e:∀ k,k < hs.length->hg (hs++[x]) k=hg hs k:=fun k hk=>by
      unfold hg;rw [List.getD_eq_getElem?_getD,List.getD_eq_getElem?_getD,List.getElem?_append_left hk]
    rw [e _ (by omega),e _ (by omega)]
    exact h j h0 (by omega)
  · simp at hj;omega
  · simp at hj;omega
theorem UpEx.step {x:Hd} {i:Nat} {l:List Hd} (h:UpEx x i l) (h0:0 < i) (hx:hlt x (hg l ((i - 1) / 2))=true):UpEx x ((i - 1) / 2) (l.set i (hg l ((i - 1) / 2))):=by
  have hi:=h.lt
  refine ⟨by simp;omega,fun j hj0 hj hne hp=>?_,fun j hj0 hj hp hpp=>?_,fun j hj0 hj hp=>?_⟩
  · rw [List.length_set] at hj
    rw [hg_set hi,hg_set hi]
    by_cases e:j=i
    · subst e;exact absurd rfl hp
    · rw [if_neg e]
      by_cases e2:(j - 1) / 2=i
      · rw [if_pos e2];exact h.above j hj0 hj e2 h0
      · rw [if_neg e2];exact h.rest j hj0 hj e e2
  · rw [List.length_set] at hj
    rw [hg_set hi,hg_set hi,if_neg (show ((i - 1) / 2 - 1) / 2≠i by omega)]
    have hpar:=h.rest ((i - 1) / 2) hpp (by omega) (by omega) (by omega)
    by_cases e:j=i
    · rw [if_pos e];exact hpar
    · rw [if_neg e]
      have:=h.rest j hj0 hj e (by omega)
      rw [hp] at this
      exact hlt_ntr this hpar
  · rw [List.length_set] at hj
    rw [hg_set hi]
    by_cases e:j=i
    · rw [if_pos e];exact hlt_as hx
    · rw [if_neg e]
      have:=h.rest j hj0 hj e (by omega)
      rw [hp] at this
      exact hlt_nlt this hx
theorem UpEx.done {x:Hd} {i:Nat} {l:List Hd} (h:UpEx x i l) (hx:0 < i->hlt x (hg l ((i - 1) / 2))=false):HeapOk (l.set i x):=by
  have hi:=h.lt
  intro j hj0 hj
  rw [List.length_set] at hj
  rw [hg_set hi,hg_set hi]
  by_cases e:j=i
  · subst e;rw [if_pos rfl,if_neg (by omega)];exact hx hj0
  · rw [if_neg e]
    by_cases e2:(j - 1) / 2=i
    · rw [if_pos e2];exact h.below j hj0 hj e2
    · rw [if_neg e2];exact h.rest j hj0 hj e e2
/-- the place of the first of two below a place -/
def lst (l:List Hd) (i:Nat):Int:=if l.length<=2*i+1 then -1 else if 2*i+2 < l.length/\hlt (hg l (2*i+2)) (hg l (2*i+1))=true then ((2*i+2:Nat):Int) else ((2*i+1:Nat):Int)
theorem lst_none {l:List Hd} {i:Nat} (h:lst l i < 0):l.length<=2*i+1:=by
  unfold lst at h;split at h
  · assumption
  · split at h<;>omega
theorem lst_some {l:List Hd} {i:Nat} (h:0<=lst l i):∃k:Nat,lst l i=(k:Int)/\k < l.length/\0 < k/\(k - 1) / 2=i/\∀ j,0 < j->j < l.length->(j - 1) / 2=i->hlt (hg l j) (hg l k)=false:=by
  unfold lst at h ⊢
  split at h
  · omega
  · rename_i hl
    rw [if_neg hl]
    split
    · rename_i hc
      refine ⟨2*i+2,rfl,by omega,by omega,by omega,fun j h0 hj hp=>?_⟩
      by_cases e:j=2*i+2
      · subst e;exact hlt_irr _
      · have e2:j=2*i+1:=by omega
        subst e2;exact hlt_as hc.2
    · rename_i hc
      refine ⟨2*i+1,rfl,by omega,by omega,by omega,fun j h0 hj hp=>?_⟩
      by_cases e:j=2*i+1
      · subst e;exact hlt_irr _
      · have e2:j=2*i+2:=by omega
        subst e2
        cases hh:hlt (hg l (2*i+2)) (hg l (2*i+1))
        · rfl
        · exact absurd ⟨hj,hh⟩ hc
/-- on the way down -/
structure DnEx (x:Hd) (i:Nat) (l:List Hd):Prop where
  lt:i < l.length
  rest:∀ j,0 < j->j < l.length->j≠i->(j - 1) / 2≠i->hlt (hg l j) (hg l ((j - 1) / 2))=false
  above:∀ j,0 < j->j < l.length->(j - 1) / 2=i->0 < i->hlt (hg l j) (hg l ((i - 1) / 2))=false
  self:0 < i->hlt x (hg l ((i - 1) / 2))=false
theorem DnEx.start {hs:List Hd} {x:Hd} {n:Nat} (h:HeapOk hs) (hn:n<=hs.length) (h0:0 < n):DnEx x 0 (hs.take n):=by
  have hl:(hs.take n).length=n:=by simp;omega
  have e:∀ k,k < n->hg (hs.take n) k=hg hs k:=fun k hk=>by
    unfold hg;rw [List.getD_eq_getElem?_getD,List.getD_eq_getElem?_getD,List.getElem?_take,if_pos hk]
  refine ⟨by omega,fun j hj0 hj _ _=>?_,fun j _ _ _ h=>absurd h (Nat.lt_irrefl _),fun h=>absurd h (Nat.lt_irrefl _)⟩
  rw [hl] at hj
  rw [e _ hj,e _ (by omega)]
  exact h j hj0 (by omega)
theorem DnEx.step {x:Hd} {i k:Nat} {l:List Hd} (h:DnEx x i l) (hk:k < l.length) (hk0:0 < k) (hp:(k - 1) / 2=i) (hm:∀ j,0 < j->j < l.length->(j - 1) / 2=i->hlt (hg l j) (hg l k)=false) (hx:hlt (hg l k) x=true):DnEx x k (l.set i (hg l k)):=by
  have hi:=h.lt
  refine ⟨by simpa using hk,fun j hj0 hj hne hpp=>?_,fun j hj0 hj hpj _=>?_,fun _=>?_⟩
  · rw [List.length_set] at hj
    rw [hg_set hi,hg_set hi]
    by_cases e:j=i
    · subst e;rw [if_pos rfl,if_neg (by omega)];exact h.above k hk0 hk hp hj0
    · rw [if_neg e]
      by_cases e2:(j - 1) / 2=i
      · rw [if_pos e2];exact hm j hj0 hj e2
      · rw [if_neg e2];exact h.rest j hj0 hj e e2
  · rw [List.length_set] at hj
    rw [hg_set hi,hg_set hi,hp,if_pos rfl,if_neg (by omega)]
    have:=h.rest j hj0 hj (by omega) (by omega)
    rwa [hpj] at this
  · rw [hg_set hi,hp,if_pos rfl];exact hlt_as hx
theorem DnEx.done {x:Hd} {i:Nat} {l:List Hd} (h:DnEx x i l) (hx:∀ j,0 < j->j < l.length->(j - 1) / 2=i->hlt (hg l j) x=false):HeapOk (l.set i x):=by
  have hi:=h.lt
  intro j hj0 hj
  rw [List.length_set] at hj
  rw [hg_set hi,hg_set hi]
  by_cases e:j=i
  · subst e;rw [if_pos rfl,if_neg (by omega)];exact h.self hj0
  · rw [if_neg e]
    by_cases e2:(j - 1) / 2=i
    · rw [if_pos e2];exact hx j hj0 hj e2
    · rw [if_neg e2];exact h.rest j hj0 hj e e2
end Go.Cg.Rn
end
section
namespace Go.Cg.Rn
set_option linter.unusedVariables false
set_option linter.unusedSimpArgs false
open Go.Cg.Dk Go.Cg.Oc

abbrev rg (rs:List (List R)) (i:Nat):List R:=rs.getD i []
theorem rg_set {rs:List (List R)} {i j:Nat} {x:List R} (h:i < rs.length):rg (rs.set i x) j=if j=i then x else rg rs j:=by
  unfold rg
  rw [List.getD_eq_getElem?_getD,List.getD_eq_getElem?_getD,List.getElem?_set]
  by_cases e:i=j
  · subst e;simp [h]
  · rw [if_neg e,if_neg (fun h=>e h.symm)]
theorem rg_eq {rs:List (List R)} {i:Nat} (h:i < rs.length):rg rs i=rs[i]:=by
  unfold rg;rw [List.getD_eq_getElem?_getD,List.getElem?_eq_getElem h];rfl
theorem flat_set {rs:List (List R)} {i:Nat} {r:R} {q:List R} (h:i < rs.length) (e:rg rs i=r::q):(r::(rs.set i q).flatten).Perm rs.flatten:=by
  rw [rg_eq h] at e
  have h1:rs=rs.take i++rs[i]::rs.drop (i+1):=by rw [<-List.drop_eq_getElem_cons h,List.take_append_drop]
  have h2:rs.set i q=rs.take i++q::rs.drop (i+1):=by rw [List.set_eq_take_append_cons_drop,if_pos h]
  rw [h2]
  conv=>rhs;rw [h1]
  rw [e]
  simp only [List.flatten_append,List.flatten_cons,List.cons_append]
  exact List.perm_middle.symm
theorem flat_put {rs:List (List R)} {i:Nat} {q:List R} (h:i < rs.length) (e:rg rs i=[]):(rs.set i q).flatten.Perm (rs.flatten++q):=by
  rw [rg_eq h] at e
  have h1:rs=rs.take i++rs[i]::rs.drop (i+1):=by rw [<-List.drop_eq_getElem_cons h,List.take_append_drop]
  have h2:rs.set i q=rs.take i++q::rs.drop (i+1):=by rw [List.set_eq_take_append_cons_drop,if_pos h]
  rw [h2]
  conv=>rhs;rw [h1]
  rw [e]
  simp only [List.flatten_append,List.flatten_cons,List.nil_append,List.append_assoc]
  exact List.Perm.append_left _ List.perm_append_comm
theorem flat_nil {rs:List (List R)} (h:∀ i,i < rs.length->rg rs i=[]):rs.flatten=[]:=by
  rw [List.flatten_eq_nil_iff]
  intro l hl
  obtain ⟨i,hi,rfl⟩:=List.getElem_of_mem hl
  have:=h i hi
  rwa [rg_eq hi] at this
/-- where a merge stands; a run of which the head may lack: k -/
structure MInv (all out:List R) (hs:List Hd) (rs:List (List R)) (k:Nat):Prop where
  perm:(out++(hs.map Prod.fst++rs.flatten)).Perm all
  up:Up out
  le:∀ a∈out,∀ h∈hs,ltb h.1 a=false
  heads:∀ h∈hs,h.2 < rs.length/\Up (h.1::rg rs h.2)
  cover:∀ i,i < rs.length->i≠k->rg rs i≠[]->∃h∈hs,h.2=i
  self:k < rs.length->Up (rg rs k)/\∀ a∈out,∀ r∈rg rs k,ltb r a=false
  ok:HeapOk hs
/-- what the next of a run does -/
def NextP (hs:List Hd) (rs:List (List R)) (i:Nat) (hs':List Hd) (rs':List (List R)):Prop:=
  (rg rs i=[]/\hs'=hs/\rs'=rs)\/∃r q,rg rs i=r::q/\HeapOk hs'/\hs'.Perm ((r,i)::hs)/\rs'=rs.set i q
theorem NextP.len {hs hs':List Hd} {rs rs':List (List R)} {i:Nat} (h:NextP hs rs i hs' rs'):rs'.length=rs.length:=by
  rcases h with ⟨_,_,rfl⟩ | ⟨_,_,_,_,_,rfl⟩<;>simp
theorem NextP.sum {hs hs':List Hd} {rs rs':List (List R)} {i:Nat} (hi:i < rs.length) (h:NextP hs rs i hs' rs'):hs'.length+rs'.flatten.length=hs.length+rs.flatten.length:=by
  rcases h with ⟨_,rfl,rfl⟩ | ⟨r,q,e,_,hp,rfl⟩
  · rfl
  · have h1:=(flat_set hi e).length_eq
    have h2:=hp.length_eq
    simp only [List.length_cons] at h1 h2
    omega
theorem MInv.next {all out:List R} {hs hs':List Hd} {rs rs':List (List R)} {i:Nat} (m:MInv all out hs rs i) (hi:i < rs.length) (h:NextP hs rs i hs' rs') (k:Nat) (hk:rs.length<=k):MInv all out hs' rs' k:=by
  rcases h with ⟨e,rfl,rfl⟩ | ⟨r,q,e,hok,hp,rfl⟩
  · exact ⟨m.perm,m.up,m.le,m.heads,fun j hj _ hn=>m.cover j hj (fun h=>hn (by rw [h];exact e)) hn,fun h=>absurd h (by omega),m.ok⟩
  · obtain ⟨hu,hle⟩:=m.self hi
    rw [e] at hu hle
    refine ⟨?_,m.up,fun a ha h hh=>?_,fun h hh=>?_,fun j hj _ hn=>?_,fun h=>absurd h (by simp;omega),hok⟩
    · refine List.Perm.trans ?_ m.perm
      refine List.Perm.append_left _ ?_
      have h1:(hs'.map Prod.fst).Perm (r::hs.map Prod.fst):=by simpa using hp.map Prod.fst
      refine (h1.append_right _).trans ?_
      show (r::hs.map Prod.fst++_).Perm _
      rw [List.cons_append]
      refine List.perm_middle.symm.trans (List.Perm.append_left _ ?_)
      exact flat_set hi e
    · rcases List.mem_cons.1 (hp.mem_iff.1 hh) with rfl | hh
      · exact hle a ha r List.mem_cons_self
      · exact m.le a ha h hh
    · rw [rg_set hi]
      rcases List.mem_cons.1 (hp.mem_iff.1 hh) with rfl | hh
      · refine ⟨by simpa using hi,?_⟩
        rw [if_pos rfl];exact hu
      · obtain ⟨h1,h2⟩:=m.heads h hh
        refine ⟨by simpa using h1,?_⟩
        split
        · rename_i e2
          rw [e2,e] at h2
          exact List.Pairwise.sublist (List.Sublist.cons_cons _ (List.sublist_cons_self _ _)) h2
        · exact h2
    · rw [List.length_set] at hj
      rw [rg_set hi] at hn
      by_cases e2:j=i
      · exact ⟨(r,i),hp.mem_iff.2 List.mem_cons_self,e2.symm⟩
      · rw [if_neg e2] at hn
        obtain ⟨h,hh,e3⟩:=m.cover j hj e2 hn
        exact ⟨h,hp.mem_iff.2 (List.mem_cons_of_mem _ hh),e3⟩
/-- at the start: no head, no run -/
theorem MInv.none (n:Nat):MInv [] [] [] (List.replicate n []) n:=by
  have e:∀ i,rg (List.replicate n []) i=[]:=fun i=>by
    unfold rg;rw [List.getD_eq_getElem?_getD,List.getElem?_replicate];split<;>rfl
  refine ⟨?_,List.Pairwise.nil,(fun a h=>by cases h),(fun h hh=>by cases hh),(fun i _ _ h=>absurd (e i) h),fun h=>absurd h (by simp),HeapOk.nil⟩
  simp
/-- a run more -/
theorem MInv.run {all:List R} {hs:List Hd} {rs:List (List R)} {i:Nat} {l:List R} {k:Nat} (m:MInv all [] hs rs k) (hk:rs.length<=k) (hi:i < rs.length) (e:rg rs i=[]) (hne:∀ h∈hs,h.2≠i):MInv (all++l) [] hs (rs.set i (sort l)) i:=by
  refine ⟨?_,List.Pairwise.nil,(fun a h=>by cases h),fun h hh=>?_,fun j hj hji hn=>?_,fun _=>⟨?_,fun a h=>by cases h⟩,m.ok⟩
  · have h1:=(flat_put (q:=sort l) hi e).trans (List.Perm.append_left _ (sort_perm l))
    refine (List.Perm.append_left _ (List.Perm.append_left _ h1)).trans ?_
    rw [<-List.append_assoc,<-List.append_assoc]
    refine List.Perm.append_right _ ?_
    have:=m.perm
    simpa using this
  · obtain ⟨h1,h2⟩:=m.heads h hh
    refine ⟨by simpa using h1,?_⟩
    rw [rg_set hi,if_neg (hne h hh)];exact h2
  · rw [List.length_set] at hj
    rw [rg_set hi,if_neg hji] at hn
    exact m.cover j hj (by omega) hn
  · rw [rg_set hi,if_pos rfl];exact sort_up l
/-- the least head is taken -/
theorem MInv.pop {all out:List R} {hs hs':List Hd} {rs:List (List R)} {x:Hd} {k:Nat} (m:MInv all out hs rs k) (hk:rs.length<=k) (hp:hs.Perm (x::hs')) (hok:HeapOk hs') (hx:∀ y∈hs,hlt y x=false):x.2 < rs.length/\MInv all (out++[x.1]) hs' rs x.2:=by
  have hxm:x∈hs:=hp.mem_iff.2 List.mem_cons_self
  have hm:∀ y,y∈hs'->y∈hs:=fun y hy=>hp.mem_iff.2 (List.mem_cons_of_mem _ hy)
  obtain ⟨h1,h2⟩:=m.heads x hxm
  refine ⟨h1,⟨?_,?_,fun a ha h hh=>?_,fun h hh=>m.heads h (hm h hh),fun i hi hne hn=>?_,fun _=>⟨(List.pairwise_cons.1 h2).2,fun a ha r hr=>?_⟩,hok⟩⟩
  · refine List.Perm.trans ?_ m.perm
    rw [List.append_assoc]
    refine List.Perm.append_left _ ?_
    have h3:(hs.map Prod.fst).Perm (x.1::hs'.map Prod.fst):=by simpa using hp.map Prod.fst
    exact (h3.symm.append_right _)
  · refine List.pairwise_append.2 ⟨m.up,by simp,fun a ha b hb=>?_⟩
    rw [List.mem_singleton.1 hb];exact m.le a ha x hxm
  · rcases List.mem_append.1 ha with ha | ha
    · exact m.le a ha h (hm h hh)
    · rw [List.mem_singleton.1 ha];exact hlt_rec (hx h (hm h hh))
  · obtain ⟨h,hh,e⟩:=m.cover i hi (by omega) hn
    rcases List.mem_cons.1 (hp.mem_iff.1 hh) with rfl | hh
    · exact absurd e.symm hne
    · exact ⟨h,hh,e⟩
  · have h3:ltb r x.1=false:=(List.pairwise_cons.1 h2).1 r hr
    rcases List.mem_append.1 ha with ha | ha
    · exact ltb_ntr h3 (m.le a ha x hxm)
    · rw [List.mem_singleton.1 ha];exact h3
theorem MInv.done {all out:List R} {rs:List (List R)} {k:Nat} (m:MInv all out [] rs k) (hk:rs.length<=k):out=sort all:=by
  have hf:rs.flatten=[]:=flat_nil fun i hi=>by
    by_cases h:rg rs i=[]
    · exact h
    · obtain ⟨h,hh,_⟩:=m.cover i hi (by omega) h;cases hh
  have hp:=m.perm
  rw [hf] at hp
  simp only [List.map_nil,List.nil_append,List.append_nil] at hp
  exact (sort_eq hp m.up).symm
theorem fold_snoc (how:Int) (l:List R) (r:R):fold how (l++[r])=fput how (fold how l) r:=by unfold fold;rw [List.foldl_append];rfl
end Go.Cg.Rn
end
section
namespace Go.Cg.Rn
set_option linter.unusedVariables false
set_option linter.unusedSimpArgs false
open Go.Cg.Dk Go.Cg.Oc

/-- keys and values fit -/
def Bd (l:List R):Prop:=∀ z∈l,z.1 < 18446744073709551616/\z.2 < 18446744073709551616
theorem Bd.nil:Bd []:=fun z h=>by cases h
theorem Bd.perm {l m:List R} (h:Bd l) (p:m.Perm l):Bd m:=fun z hz=>h z (p.mem_iff.1 hz)
theorem Bd.sort {l:List R} (h:Bd l):Bd (sort l):=h.perm (sort_perm l)
theorem Bd.take {l:List R} (h:Bd l) (i:Nat):Bd (l.take i):=fun z hz=>h z (List.mem_of_mem_take hz)
theorem Bd.drop {l:List R} (h:Bd l) (i:Nat):Bd (l.drop i):=fun z hz=>h z (List.mem_of_mem_drop hz)
theorem Bd.app {l m:List R} (h:Bd l) (k:Bd m):Bd (l++m):=fun z hz=>(List.mem_append.1 hz).elim (h z) (k z)
theorem Bd.at {l:List R} (h:Bd l) {i:Nat} (hi:i < l.length):(l.getD i (0,0)).1 < 18446744073709551616/\(l.getD i (0,0)).2 < 18446744073709551616:=by
  rw [List.getD_eq_getElem?_getD,List.getElem?_eq_getElem hi];exact h _ (List.getElem_mem hi)
theorem comb_lt {how:Int} {a b:Nat} (ha:a < 18446744073709551616) (_:b < 18446744073709551616):comb how a b < 18446744073709551616:=by
  unfold comb;split<;>omega
theorem fput_len (how:Int) (l:List R) (r:R):(fput how l r).length<=l.length+1:=by
  unfold fput
  split
  · rename_i z hz
    have:0 < l.length:=by cases l with
      | nil=>simp at hz
      | cons _ _=>simp
    split<;>(simp<;>omega)
  · simp
theorem fput_bd {how:Int} {l:List R} {r:R} (h:Bd l) (hr:r.1 < 18446744073709551616/\r.2 < 18446744073709551616):Bd (fput how l r):=by
  unfold fput
  split
  · rename_i z hz
    have hzl:=h z (List.mem_of_getLast? hz)
    split
    · refine Bd.app (fun y hy=>h y (List.dropLast_subset _ hy)) fun y hy=>?_
      rw [List.mem_singleton.1 hy];exact ⟨hzl.1,comb_lt hzl.2 hr.2⟩
    · exact Bd.app h fun y hy=>by rw [List.mem_singleton.1 hy];exact hr
  · exact fun y hy=>by rw [List.mem_singleton.1 hy];exact hr
theorem fold_bd (how:Int):∀ l:List R,Bd l->Bd (fold how l):=by
  have key:∀ (l m:List R),Bd l->Bd m->Bd (l.foldl (fput how) m):=by
    intro l
    induction l with
    | nil=>exact fun m _ h=>h
    | cons x l ih=>exact fun m h k=>ih _ (fun z hz=>h z (List.mem_cons_of_mem _ hz)) (fput_bd k (h x List.mem_cons_self))
  exact fun l h=>key l [] h Bd.nil
theorem fold_len (how:Int) (l:List R):(fold how l).length<=l.length:=by
  have key:∀ (l m:List R),(l.foldl (fput how) m).length<=m.length+l.length:=by
    intro l
    induction l with
    | nil=>exact fun m=>Nat.le_refl _
    | cons x l ih=>intro m;have h1:=ih (fput how m x);have h2:=fput_len how m x;simp only [List.foldl_cons,List.length_cons];omega
  have:=key l [];simpa [fold] using this
theorem fold_take {how:Int} {l:List R} {i:Nat} (h:i < l.length):fold how (l.take (i+1))=fput how (fold how (l.take i)) (l.getD i (0,0)):=by
  have e:l.take (i+1)=l.take i++[l.getD i (0,0)]:=by
    rw [List.take_add_one,List.getElem?_eq_getElem h,List.getD_eq_getElem?_getD,List.getElem?_eq_getElem h];rfl
  rw [e,fold_snoc]
end Go.Cg.Rn
end
section
namespace Go.Cg.Rn
set_option linter.unusedVariables false
set_option linter.unusedSimpArgs false
open Go.Cg.Dk Go.Cg.Oc

@[simp] theorem rb_len (r:R):(rb r).length=16:=by simp [rb,le_len]
theorem put_rb (t:By) (r:R):Oc.put (Oc.put t 8 r.1) 8 r.2=t++rb r:=by
  have e:∀ (b:By) (n:Nat),Oc.put b 8 n=b++le 8 n:=fun b n=>rfl
  rw [e,e,rb,List.append_assoc]
/-- what is there goes out -/
def wout (n:Nm) (t:By) (d:Disk):Disk×Nat:=if t=[] then (d,0) else d.append n (enc t).1
theorem wput_lt {n:Nm} {r:R} {t:By} {d:Disk} (h:(t++rb r).length < 800):wput n r t d=(d,t++rb r,0):=by unfold wput;rw [if_pos h]
theorem wput_ge {n:Nm} {r:R} {t:By} {d:Disk} (h:¬ (t++rb r).length < 800):wput n r t d=((wout n (t++rb r) d).1,[],(wout n (t++rb r) d).2):=by
  unfold wput wout
  rw [if_neg h,if_neg (by intro e;have:=congrArg List.length e;simp at this)]
theorem wclose_out (n:Nm) (t:By) (d:Disk):wclose n t d=if (wout n t d).2≠0 then wout n t d else (wout n t d).1.sync n:=by
  unfold wclose wout
  split
  · rw [if_neg (by simp)]
  · rfl
theorem wout_cnt (n:Nm) (t:By) (d:Disk):(wout n t d).1.files.length<=d.files.length:=by
  unfold wout;split
  · exact Nat.le_refl _
  · exact len_append _ _ _
theorem wput_cnt (n:Nm) (r:R) (t:By) (d:Disk):(wput n r t d).1.files.length<=d.files.length:=by
  by_cases h:(t++rb r).length < 800
  · rw [wput_lt h];exact Nat.le_refl _
  · rw [wput_ge h];exact wout_cnt _ _ _
theorem wput_small (n:Nm) (r:R) (t:By) (d:Disk):(wput n r t d).2.1.length < 800:=by
  by_cases h:(t++rb r).length < 800
  · rw [wput_lt h];exact h
  · rw [wput_ge h];simp
theorem wputs_cnt (n:Nm):∀ (l:List R) (t:By) (d:Disk),(wputs n l t d).1.files.length<=d.files.length
  | [],_,_=>Nat.le_refl _
  | r::l,t,d=>by
    unfold wputs;split
    · exact wput_cnt _ _ _ _
    · exact Nat.le_trans (wputs_cnt n l _ _) (wput_cnt _ _ _ _)
theorem wputs_app (n:Nm):∀ (l m:List R) (t:By) (d:Disk),wputs n (l++m) t d=if (wputs n l t d).2.2≠0 then wputs n l t d else wputs n m (wputs n l t d).2.1 (wputs n l t d).1
  | [],m,t,d=>by simp [wputs]
  | r::l,m,t,d=>by
    rw [List.cons_append,wputs,wputs]
    by_cases h:(wput n r t d).2.2≠0
    · rw [if_pos h,if_pos h,if_pos h]
    · rw [if_neg h,if_neg h,wputs_app n l m]
theorem wputs_one (n:Nm) (r:R) (t:By) (d:Disk):wputs n [r] t d=wput n r t d:=by
  simp only [wputs]
  split
  · rfl
  · rename_i h;rw [show (0:Nat)=(wput n r t d).2.2 from by omega]
theorem wputs_snoc {n:Nm} {l:List R} {r:R} {t:By} {d:Disk} (h:(wputs n l t d).2.2=0):wputs n (l++[r]) t d=wput n r (wputs n l t d).2.1 (wputs n l t d).1:=by
  rw [wputs_app,if_neg (by omega),wputs_one]
theorem take_snoc {l:List R} {i:Nat} (h:i < l.length):l.take (i+1)=l.take i++[l.getD i (0,0)]:=by
  rw [List.take_add_one,List.getElem?_eq_getElem h,List.getD_eq_getElem?_getD,List.getElem?_eq_getElem h];rfl
theorem wputs_take {n:Nm} {l:List R} {i:Nat} {t:By} {d:Disk} (hi:i < l.length) (h:(wputs n (l.take i) t d).2.2=0):wputs n (l.take (i+1)) t d=wput n (l.getD i (0,0)) (wputs n (l.take i) t d).2.1 (wputs n (l.take i) t d).1:=by
  rw [take_snoc hi,wputs_snoc h]
theorem wputs_stop {n:Nm} {l:List R} {i:Nat} {t:By} {d:Disk} (hi:i < l.length) (h:(wputs n (l.take (i+1)) t d).2.2≠0):wputs n l t d=wputs n (l.take (i+1)) t d:=by
  conv=>lhs;rw [<-List.take_append_drop (i+1) l]
  rw [wputs_app,if_pos h]
theorem write_bad {n:Nm} {l:List R} {d:Disk} (h:(d.create n).2≠0):write n l d=d.create n:=by unfold write;rw [if_pos h]
theorem write_stop {n:Nm} {l:List R} {d:Disk} (h:(d.create n).2=0) (h2:(wputs n l [] (d.create n).1).2.2≠0):write n l d=((wputs n l [] (d.create n).1).1,(wputs n l [] (d.create n).1).2.2):=by unfold write;rw [if_neg (by omega),if_pos h2]
theorem write_done {n:Nm} {l:List R} {d:Disk} (h:(d.create n).2=0) (h2:(wputs n l [] (d.create n).1).2.2=0):write n l d=wclose n (wputs n l [] (d.create n).1).2.1 (wputs n l [] (d.create n).1).1:=by unfold write;rw [if_neg (by omega),if_neg (by omega)]
theorem wclose_cnt (n:Nm) (t:By) (d:Disk):(wclose n t d).1.files.length<=d.files.length:=by
  rw [wclose_out];split
  · exact wout_cnt _ _ _
  · exact Nat.le_trans (len_sync _ _) (wout_cnt _ _ _)
theorem write_cnt (n:Nm) (l:List R) (d:Disk):(write n l d).1.files.length<=d.files.length+1:=by
  unfold write;split
  · exact len_create _ _
  · split
    · exact Nat.le_trans (wputs_cnt _ _ _ _) (len_create _ _)
    · exact Nat.le_trans (wclose_cnt _ _ _) (Nat.le_trans (wputs_cnt _ _ _ _) (len_create _ _))
/-! ### reading -/
/-- the next record: where it stands, a text, whether the block was short -/
abbrev Rs:=Nat×By×Bool
def rnext (n:Nm) (sz:Nat) (s:Rs) (d:Disk):Disk×Rs×Option R×Nat:=
  if s.2.1=[]/\s.1 < sz then
    if (rin n sz s.1 s.2.2 d).2.2≠0 then ((rin n sz s.1 s.2.2 d).1,s,none,(rin n sz s.1 s.2.2 d).2.2)
    else ((rin n sz s.1 s.2.2 d).1,((rin n sz s.1 s.2.2 d).2.1.2.1,(rin n sz s.1 s.2.2 d).2.1.1.drop 16,(rin n sz s.1 s.2.2 d).2.1.2.2),some (recOf (rin n sz s.1 s.2.2 d).2.1.1),0)
  else if s.2.1=[] then (d,s,none,0) else (d,(s.1,s.2.1.drop 16,s.2.2),some (recOf s.2.1),0)
theorem rnext_A {n:Nm} {sz:Nat} {s:Rs} {d:Disk} (h:s.2.1≠[]):rnext n sz s d=(d,(s.1,s.2.1.drop 16,s.2.2),some (recOf s.2.1),0):=by
  unfold rnext;rw [if_neg (fun k=>h k.1),if_neg h]
theorem rnext_B {n:Nm} {sz:Nat} {s:Rs} {d:Disk} (h:s.2.1=[]) (h2:¬ s.1 < sz):rnext n sz s d=(d,s,none,0):=by
  unfold rnext;rw [if_neg (fun k=>h2 k.2),if_pos h]
theorem rnext_C {n:Nm} {sz:Nat} {s:Rs} {d:Disk} (h:s.2.1=[]) (h2:s.1 < sz) (h3:(rin n sz s.1 s.2.2 d).2.2≠0):rnext n sz s d=((rin n sz s.1 s.2.2 d).1,s,none,(rin n sz s.1 s.2.2 d).2.2):=by
  unfold rnext;rw [if_pos ⟨h,h2⟩,if_pos h3]
theorem rnext_D {n:Nm} {sz:Nat} {s:Rs} {d:Disk} (h:s.2.1=[]) (h2:s.1 < sz) (h3:(rin n sz s.1 s.2.2 d).2.2=0):rnext n sz s d=((rin n sz s.1 s.2.2 d).1,((rin n sz s.1 s.2.2 d).2.1.2.1,(rin n sz s.1 s.2.2 d).2.1.1.drop 16,(rin n sz s.1 s.2.2 d).2.1.2.2),some (recOf (rin n sz s.1 s.2.2 d).2.1.1),0):=by
  unfold rnext;rw [if_pos ⟨h,h2⟩,if_neg (by omega)]
/-- many of them: what is left, and what is there -/
def rloop (n:Nm) (sz:Nat):Nat->Rs->List R->Disk->Disk×List R×Nat
  | 0,_,l,d=>(d,l,0)
  | k+1,s,l,d=>
    if (rnext n sz s d).2.2.2≠0 then ((rnext n sz s d).1,[],(rnext n sz s d).2.2.2) else
    match (rnext n sz s d).2.2.1 with
    | none=>((rnext n sz s d).1,l,0)
    | some r=>rloop n sz k (rnext n sz s d).2.1 (l++[r]) (rnext n sz s d).1
def rleft (sz:Nat) (s:Rs):Nat:=801*(sz - s.1)+s.2.1.length
def read (n:Nm) (d:Disk):Disk×List R×Nat:=
  if (d.size n).2.2≠0 then ((d.size n).1,[],(d.size n).2.2) else rloop n (d.size n).2.1 (rleft (d.size n).2.1 (0,[],false)+1) (0,[],false) [] (d.size n).1
theorem rin_cnt (n:Nm) (sz p:Nat) (sh:Bool) (d:Disk):(rin n sz p sh d).1.files.length=d.files.length:=by
  unfold rin;simp only
  split
  · exact len_readAt _ _ _ _
  · split
    · exact len_readAt _ _ _ _
    · split
      · exact len_readAt _ _ _ _
      · exact len_readAt _ _ _ _
theorem dec_facts0 {b:By} (h:(dec b).2.2=0):(dec b).1.length+6=(dec b).2.1/\(dec b).2.1<=b.length:=by
  have:=dec_facts (b:=b) (t:=(dec b).1) (n:=(dec b).2.1) (by rw [<-h])
  exact ⟨this.1,this.2.1⟩
/-- what a block that is read tells -/
theorem rin_ok {n:Nm} {sz p:Nat} {sh:Bool} {d:Disk} (h:(rin n sz p sh d).2.2=0):let a:=d.readAt n p (min 1006 ((sz:Int) - p))
    a.2.2=0/\(dec a.2.1).2.2=0/\(dec a.2.1).1.length≠0/\(dec a.2.1).1.length%16=0/\(dec a.2.1).1.length<=800/\sh=false/\rin n sz p sh d=(a.1,((dec a.2.1).1,p+(dec a.2.1).2.1,decide ((dec a.2.1).1.length < 800)),0):=by
  intro a
  unfold rin at h ⊢
  simp only at h ⊢
  split at h
  · rename_i h1;exact absurd h h1
  · rename_i h1
    split at h
    · rename_i h2;exact absurd h h2
    · rename_i h2
      split at h
      · simp at h
      · rename_i h3
        rw [if_neg h1,if_neg h2,if_neg h3]
        simp only [not_or] at h3
        exact ⟨by simpa using h1,by simpa using h2,h3.1,by simpa using h3.2.1,Nat.le_of_not_lt h3.2.2.1,by simpa using h3.2.2.2,rfl⟩
theorem rin_text {n:Nm} {sz p:Nat} {sh:Bool} {d:Disk} (h:(rin n sz p sh d).2.2=0):(rin n sz p sh d).2.1.1.length%16=0/\16<=(rin n sz p sh d).2.1.1.length/\(rin n sz p sh d).2.1.1.length<=800/\(rin n sz p sh d).2.1.2.1=p+((rin n sz p sh d).2.1.1.length+6):=by
  obtain ⟨_,h2,h3,h4,h5,_,e⟩:=rin_ok h
  have h6:=dec_facts0 h2
  rw [e]
  simp only
  omega
theorem rin_e1 {n:Nm} {sz p:Nat} {sh:Bool} {d:Disk} (h:(d.readAt n p (min 1006 ((sz:Int) - p))).2.2≠0):rin n sz p sh d=((d.readAt n p (min 1006 ((sz:Int) - p))).1,([],p,sh),(d.readAt n p (min 1006 ((sz:Int) - p))).2.2):=by
  unfold rin;simp only;rw [if_pos h]
theorem rin_e2 {n:Nm} {sz p:Nat} {sh:Bool} {d:Disk} (h0:(d.readAt n p (min 1006 ((sz:Int) - p))).2.2=0) (h:(dec (d.readAt n p (min 1006 ((sz:Int) - p))).2.1).2.2≠0):rin n sz p sh d=((d.readAt n p (min 1006 ((sz:Int) - p))).1,([],p,sh),(dec (d.readAt n p (min 1006 ((sz:Int) - p))).2.1).2.2):=by
  unfold rin;simp only;rw [if_neg (by omega),if_pos h]
theorem rin_e3 {n:Nm} {sz p:Nat} {sh:Bool} {d:Disk} {x:By} (hx:x=(dec (d.readAt n p (min 1006 ((sz:Int) - p))).2.1).1) (h0:(d.readAt n p (min 1006 ((sz:Int) - p))).2.2=0) (h1:(dec (d.readAt n p (min 1006 ((sz:Int) - p))).2.1).2.2=0) (h:x.length=0\/x.length%16≠0\/800 < x.length\/sh=true):rin n sz p sh d=((d.readAt n p (min 1006 ((sz:Int) - p))).1,([],p,sh),2):=by
  subst hx;unfold rin;simp only;rw [if_neg (by omega),if_neg (by omega),if_pos h]
theorem rin_e4 {n:Nm} {sz p:Nat} {sh:Bool} {d:Disk} {x:By} (hx:x=(dec (d.readAt n p (min 1006 ((sz:Int) - p))).2.1).1) (h0:(d.readAt n p (min 1006 ((sz:Int) - p))).2.2=0) (h1:(dec (d.readAt n p (min 1006 ((sz:Int) - p))).2.1).2.2=0) (h:¬ (x.length=0\/x.length%16≠0\/800 < x.length\/sh=true)):rin n sz p sh d=((d.readAt n p (min 1006 ((sz:Int) - p))).1,((dec (d.readAt n p (min 1006 ((sz:Int) - p))).2.1).1,p+(dec (d.readAt n p (min 1006 ((sz:Int) - p))).2.1).2.1,decide ((dec (d.readAt n p (min 1006 ((sz:Int) - p))).2.1).1.length < 800)),0):=by
  subst hx;unfold rin;simp only;rw [if_neg (by omega),if_neg (by omega),if_neg h]
theorem in_cases (k:Nat) (sh:Bool):k=0\/(k≠0/\k%16≠0)\/(k≠0/\k%16=0/\800 < k)\/(k≠0/\k%16=0/\¬ 800 < k/\sh=true)\/(k≠0/\k%16=0/\¬ 800 < k/\sh=false):=by
  cases sh<;>simp<;>omega
theorem readAt_len {n:Nm} {i k:Int} {d:Disk} (hk:0<=k):(d.readAt n i k).2.1.length<=k.toNat:=by
  unfold Disk.readAt
  simp only
  split
  · simp
  · split
    · simp
    · split
      · simp;omega
      · simp
theorem rin_le {n:Nm} {sz p:Nat} {sh:Bool} {d:Disk} (hp:p<=sz) (h:(rin n sz p sh d).2.2=0):(rin n sz p sh d).2.1.2.1<=sz:=by
  obtain ⟨_,h2,_,_,_,_,e⟩:=rin_ok h
  have h6:=dec_facts0 h2
  have h7:=readAt_len (n:=n) (i:=p) (d:=d) (k:=min 1006 ((sz:Int) - p)) (by omega)
  rw [e]
  simp only
  omega
/-- a reader's place and text -/
structure RsOk (sz:Nat) (s:Rs):Prop where
  mod:s.2.1.length%16=0
  len:s.2.1.length<=800
theorem RsOk.start (sz:Nat):RsOk sz (0,[],false):=⟨rfl,by simp⟩
/-- .. and how many there were -/
structure RsFit (sz k:Nat) (s:Rs):Prop where
  pos:s.1<=sz
  fit:16*k+s.2.1.length<=s.1
theorem RsFit.start (sz:Nat):RsFit sz 0 (0,[],false):=⟨Nat.zero_le _,by simp⟩
theorem RsFit.size {sz k:Nat} {s:Rs} (h:RsFit sz k s):16*k<=sz:=by have:=h.pos;have:=h.fit;omega
theorem RsOk.text {sz:Nat} {s:Rs} (h:RsOk sz s) (hne:s.2.1≠[]):16<=s.2.1.length:=by
  have:=List.length_pos_iff.2 hne;have:=h.mod;omega
theorem RsOk.next {n:Nm} {sz:Nat} {s:Rs} {d:Disk} (h:RsOk sz s):RsOk sz (rnext n sz s d).2.1/\((rnext n sz s d).2.2.1.isSome=true->rleft sz (rnext n sz s d).2.1 < rleft sz s):=by
  unfold rnext
  split
  · rename_i hc
    split
    · exact ⟨h,by simp⟩
    · rename_i h0
      have h1:=rin_text (show (rin n sz s.1 s.2.2 d).2.2=0 by omega)
      refine ⟨⟨by simp;omega,by simp;omega⟩,fun _=>?_⟩
      unfold rleft
      simp only [List.length_drop,hc.1,List.length_nil]
      rw [h1.2.2.2]
      omega
  · split
    · exact ⟨h,by simp⟩
    · rename_i hne
      have h1:=h.text hne
      have h2:=h.mod
      have h3:=h.len
      refine ⟨⟨by simp;omega,by simp;omega⟩,fun _=>?_⟩
      unfold rleft
      simp only [List.length_drop]
      omega
theorem recOf_lt (t:By):(recOf t).1 < 18446744073709551616/\(recOf t).2 < 18446744073709551616:=by
  have key:∀ b:By,unle (b.take 8) < 18446744073709551616:=fun b=>by
    have h1:=unle_lt (b.take 8)
    exact Nat.lt_of_lt_of_le h1 (Nat.le_trans (Nat.pow_le_pow_right (by omega) (show (b.take 8).length<=8 by simp;omega)) (by decide))
  exact ⟨key t,key (t.drop 8)⟩
theorem RsFit.next {n:Nm} {sz k:Nat} {s:Rs} {d:Disk} (ho:RsOk sz s) (h:RsFit sz k s) {r:R} (hr:(rnext n sz s d).2.2.1=some r):RsFit sz (k+1) (rnext n sz s d).2.1/\r.1 < 18446744073709551616/\r.2 < 18446744073709551616:=by
  have hf:=h.fit
  unfold rnext at hr ⊢
  split at hr
  · rename_i hc
    rw [if_pos hc]
    split at hr
    · simp at hr
    · rename_i h0
      rw [if_neg h0]
      have h0':(rin n sz s.1 s.2.2 d).2.2=0:=by omega
      have h1:=rin_text h0'
      have h2:=rin_le h.pos h0'
      refine ⟨⟨h2,?_⟩,?_⟩
      · simp only [List.length_drop]
        rw [h1.2.2.2]
        rw [hc.1] at hf
        simp only [List.length_nil] at hf
        omega
      · have:=Option.some.inj hr;rw [<-this];exact recOf_lt _
  · rename_i hc
    rw [if_neg hc]
    split at hr
    · simp at hr
    · rename_i hne
      rw [if_neg hne]
      have h1:=ho.text hne
      refine ⟨⟨h.pos,?_⟩,?_⟩
      · simp only [List.length_drop];omega
      · have:=Option.some.inj hr;rw [<-this];exact recOf_lt _
theorem rloop_facts {n:Nm} {sz:Nat}:∀ (k:Nat) (s:Rs) (l:List R) (d:Disk),RsOk sz s->RsFit sz l.length s->Bd l->16*(rloop n sz k s l d).2.1.length<=sz/\Bd (rloop n sz k s l d).2.1
  | 0,s,l,d,_,hf,hb=>⟨hf.size,hb⟩
  | k+1,s,l,d,ho,hf,hb=>by
    rw [rloop]
    split
    · exact ⟨by simp,Bd.nil⟩
    · split
      · exact ⟨hf.size,hb⟩
      · rename_i r hr
        have h1:=hf.next ho hr
        refine rloop_facts k _ _ _ (ho.next (n:=n) (d:=d)).1 (by simpa using h1.1) (hb.app fun z hz=>by rw [List.mem_singleton.1 hz];exact h1.2)
theorem rnext_cnt (n:Nm) (sz:Nat) (s:Rs) (d:Disk):(rnext n sz s d).1.files.length=d.files.length:=by
  unfold rnext;split
  · split<;>exact rin_cnt _ _ _ _ _
  · split<;>rfl
/-- the fuel does not matter -/
theorem rloop_more {n:Nm} {sz:Nat}:∀ (k:Nat) (s:Rs) (l:List R) (d:Disk),RsOk sz s->rleft sz s < k->rloop n sz (k+1) s l d=rloop n sz k s l d
  | 0,_,_,_,_,h=>absurd h (Nat.not_lt_zero _)
  | k+1,s,l,d,ho,h=>by
    rw [rloop,rloop]
    split
    · rfl
    · split
      · rfl
      · rename_i r hr
        have hn:=ho.next (n:=n) (d:=d)
        exact rloop_more k _ _ _ hn.1 (by have:=hn.2 (by rw [hr];rfl);omega)
theorem rloop_any {n:Nm} {sz:Nat} {s:Rs} {l:List R} {d:Disk} (h:RsOk sz s):∀ (j:Nat),rloop n sz (rleft sz s+1+j) s l d=rloop n sz (rleft sz s+1) s l d
  | 0=>rfl
  | j+1=>by rw [<-rloop_any h j];exact rloop_more (rleft sz s+1+j) _ _ _ h (by omega)
theorem rloop_enough {n:Nm} {sz k:Nat} {s:Rs} {l:List R} {d:Disk} (h:RsOk sz s) (hk:rleft sz s < k):rloop n sz k s l d=rloop n sz (rleft sz s+1) s l d:=by
  have:=rloop_any (n:=n) (l:=l) (d:=d) h (k - (rleft sz s+1))
  rwa [show rleft sz s+1+(k - (rleft sz s+1))=k from by omega] at this
/-- a round -/
theorem rloop_step {n:Nm} {sz:Nat} {s:Rs} {l:List R} {d:Disk} {r:R} (h:RsOk sz s) (h0:(rnext n sz s d).2.2.2=0) (hr:(rnext n sz s d).2.2.1=some r):rloop n sz (rleft sz s+1) s l d=rloop n sz (rleft sz (rnext n sz s d).2.1+1) (rnext n sz s d).2.1 (l++[r]) (rnext n sz s d).1:=by
  conv=>lhs;rw [rloop]
  rw [if_neg (by omega),hr]
  have hn:=h.next (n:=n) (d:=d)
  exact rloop_enough hn.1 (hn.2 (by rw [hr];rfl))
theorem rloop_bad {n:Nm} {sz:Nat} {s:Rs} {l:List R} {d:Disk} (h0:(rnext n sz s d).2.2.2≠0):rloop n sz (rleft sz s+1) s l d=((rnext n sz s d).1,[],(rnext n sz s d).2.2.2):=by rw [rloop,if_pos h0]
theorem rloop_end {n:Nm} {sz:Nat} {s:Rs} {l:List R} {d:Disk} (h0:(rnext n sz s d).2.2.2=0) (hr:(rnext n sz s d).2.2.1=none):rloop n sz (rleft sz s+1) s l d=((rnext n sz s d).1,l,0):=by rw [rloop,if_neg (by omega),hr]
theorem read_bad {n:Nm} {d:Disk} (h:(d.size n).2.2≠0):read n d=((d.size n).1,[],(d.size n).2.2):=by unfold read;rw [if_pos h]
theorem read_go {n:Nm} {d:Disk} (h:(d.size n).2.2=0):read n d=rloop n (d.size n).2.1 (rleft (d.size n).2.1 (0,[],false)+1) (0,[],false) [] (d.size n).1:=by unfold read;rw [if_neg (by omega)]
theorem read_facts {n:Nm} {d:Disk} (hd:d.Ok):(read n d).2.1.length<=1099511627776/\Bd (read n d).2.1:=by
  by_cases h:(d.size n).2.2=0
  · rw [read_go h]
    have h1:=rloop_facts (n:=n) (sz:=(d.size n).2.1) (rleft (d.size n).2.1 (0,[],false)+1) (0,[],false) [] (d.size n).1 (RsOk.start _) (RsFit.start _) Bd.nil
    have h2:=size_le hd n
    exact ⟨by omega,h1.2⟩
  · rw [read_bad h];exact ⟨by simp,Bd.nil⟩
theorem rloop_cnt {n:Nm} {sz:Nat}:∀ (k:Nat) (s:Rs) (l:List R) (d:Disk),(rloop n sz k s l d).1.files.length=d.files.length
  | 0,_,_,_=>rfl
  | k+1,s,l,d=>by
    rw [rloop]
    split
    · exact rnext_cnt _ _ _ _
    · split
      · exact rnext_cnt _ _ _ _
      · rw [rloop_cnt k];exact rnext_cnt _ _ _ _
theorem read_cnt (n:Nm) (d:Disk):(read n d).1.files.length=d.files.length:=by
  unfold read
  split
  · exact len_size _ _
  · rw [rloop_cnt];exact len_size _ _
end Go.Cg.Rn
end
section
namespace Go.Cg.Sn
set_option linter.unusedVariables false
set_option linter.unusedSimpArgs false
open Go.Cg.Dk Go.Cg.Oc Go.Cg.Rn

/-- which stands ahead: the record alone -/
def slt (a b:Hd):Bool:=ltb a.1 b.1
theorem slt_irr (a:Hd):slt a a=false:=by unfold slt;rw [ltb_not];omega
theorem slt_ntr {a b c:Hd} (h:slt a b=false) (k:slt b c=false):slt a c=false:=ltb_ntr h k
theorem slt_as {a b:Hd} (h:slt a b=true):slt b a=false:=by unfold slt at *;rw [ltb_iff] at h;rw [ltb_not];omega
theorem slt_nlt {a b c:Hd} (h:slt a b=false) (k:slt c b=true):slt a c=false:=by unfold slt at *;rw [ltb_not] at *;rw [ltb_iff] at k;omega
theorem slt_rec {a b:Hd} (h:slt a b=false):ltb a.1 b.1=false:=h
def HeapOk (l:List Hd):Prop:=∀ j,0 < j->j < l.length->slt (hg l j) (hg l ((j - 1) / 2))=false
theorem HeapOk.nil:HeapOk []:=fun j _ h=>absurd h (Nat.not_lt_zero _)
theorem HeapOk.least {l:List Hd} (h:HeapOk l):∀ j,j < l.length->slt (hg l j) (hg l 0)=false:=by
  intro j
  induction j using Nat.strongRecOn with
  | ind j ih=>
    intro hj
    by_cases h0:j=0
    · subst h0;exact slt_irr _
    · exact slt_ntr (h j (by omega) hj) (ih _ (by omega) (by omega))
/-- one place of a row put in for another -/
theorem swap_perm {l:List Hd} {i p:Nat} {x:Hd} (hi:i < l.length) (hp:p < l.length) (hne:p≠i):((l.set i (hg l p)).set p x).Perm (l.set i x):=by
  rw [List.perm_iff_count]
  intro c
  have e:hg l p=l[p]:=by unfold hg;rw [List.getD_eq_getElem?_getD,List.getElem?_eq_getElem hp];rfl
  rw [List.count_set (by simpa using hp),List.count_set hi,List.count_set hi]
  rw [List.getElem_set,<-e,ite_self]
  omega
theorem last_perm {hs:List Hd} {n:Nat} (hn:hs.length=n+1) (h0:0 < n):(hg hs 0::(hs.take n).set 0 (hg hs n)).Perm hs:=by
  obtain ⟨a,q,rfl⟩:∃a q,hs=a::q:=by cases hs with
    | nil=>simp at hn
    | cons a q=>exact ⟨a,q,rfl⟩
  obtain ⟨m,rfl⟩:∃m,n=m+1:=⟨n - 1,by omega⟩
  have hq:q.length=m+1:=by simpa using hn
  have e1:q=q.take m++[q[m]]:=by
    conv=>lhs;rw [<-List.take_append_drop m q]
    rw [List.drop_eq_getElem_cons (by omega),List.drop_eq_nil_of_le (by omega)]
  have e2:hg (a::q) (m+1)=q[m]:=by unfold hg;rw [List.getD_eq_getElem?_getD];simp [hq]
  rw [e2]
  have e3:((a::q).take (m+1)).set 0 q[m]=q[m]::q.take m:=by simp
  rw [e3]
  refine List.Perm.cons _ ?_
  conv=>rhs;rw [e1]
  exact (List.perm_append_comm (l₁:=[q[m]]))
/-- on the way up: x is to be at place i -/
structure UpEx (x:Hd) (i:Nat) (l:List Hd):Prop where
  lt:i < l.length
  rest:∀ j,0 < j->j < l.length->j≠i->(j - 1) / 2≠i->slt (hg l j) (hg l ((j - 1) / 2))=false
  above:∀ j,0 < j->j < l.length->(j - 1) / 2=i->0 < i->slt (hg l j) (hg l ((i - 1) / 2))=false
  below:∀ j,0 < j->j < l.length->(j - 1) / 2=i->slt (hg l j) x=false
theorem UpEx.start {hs:List Hd} {x:Hd} (h:HeapOk hs):UpEx x hs.length (hs++[x]):=by
  refine ⟨by simp,fun j h0 hj hne _=>?_,fun j h0 hj hp _=>?_,fun j h0 hj hp=>?_⟩
  · simp at hj
    have e:∀ k,k < hs.length->hg (hs++[x]) k=hg hs k:=fun k hk=>by
      unfold hg;rw [List.getD_eq_getElem?_getD,List.getD_eq_getElem?_getD,List.getElem?_append_left hk]
    rw [e _ (by omega),e _ (by omega)]
    exact h j h0 (by omega)
  · simp at hj;omega
  · simp at hj;omega
theorem UpEx.step {x:Hd} {i:Nat} {l:List Hd} (h:UpEx x i l) (h0:0 < i) (hx:slt x (hg l ((i - 1) / 2))=true):UpEx x ((i - 1) / 2) (l.set i (hg l ((i - 1) / 2))):=by
  have hi:=h.lt
  refine ⟨by simp;omega,fun j hj0 hj hne hp=>?_,fun j hj0 hj hp hpp=>?_,fun j hj0 hj hp=>?_⟩
  · rw [List.length_set] at hj
    rw [hg_set hi,hg_set hi]
    by_cases e:j=i
    · subst e;exact absurd rfl hp
    · rw [if_neg e]
      by_cases e2:(j - 1) / 2=i
      · rw [if_pos e2];exact h.above j hj0 hj e2 h0
      · rw [if_neg e2];exact h.rest j hj0 hj e e2
  · rw [List.length_set] at hj
    rw [hg_set hi,hg_set hi,if_neg (show ((i - 1) / 2 - 1) / 2≠i by omega)]
    have hpar:=h.rest ((i - 1) / 2) hpp (by omega) (by omega) (by omega)
    by_cases e:j=i
    · rw [if_pos e];exact hpar
    · rw [if_neg e]
      have:=h.rest j hj0 hj e (by omega)
      rw [hp] at this
      exact slt_ntr this hpar
  · rw [List.length_set] at hj
    rw [hg_set hi]
    by_cases e:j=i
    · rw [if_pos e];exact slt_as hx
    · rw [if_neg e]
      have:=h.rest j hj0 hj e (by omega)
      rw [hp] at this
      exact slt_nlt this hx
theorem UpEx.done {x:Hd} {i:Nat} {l:List Hd} (h:UpEx x i l) (hx:0 < i->slt x (hg l ((i - 1) / 2))=false):HeapOk (l.set i x):=by
  have hi:=h.lt
  intro j hj0 hj
  rw [List.length_set] at hj
  rw [hg_set hi,hg_set hi]
  by_cases e:j=i
  · subst e;rw [if_pos rfl,if_neg (by omega)];exact hx hj0
  · rw [if_neg e]
    by_cases e2:(j - 1) / 2=i
    · rw [if_pos e2];exact h.below j hj0 hj e2
    · rw [if_neg e2];exact h.rest j hj0 hj e e2
/-- the place of the first of two below a place -/
def lst (l:List Hd) (i:Nat):Int:=if l.length<=2*i+1 then -1 else if 2*i+2 < l.length/\slt (hg l (2*i+2)) (hg l (2*i+1))=true then ((2*i+2:Nat):Int) else ((2*i+1:Nat):Int)
theorem lst_none {l:List Hd} {i:Nat} (h:lst l i < 0):l.length<=2*i+1:=by
  unfold lst at h;split at h
  · assumption
  · split at h<;>omega
theorem lst_some {l:List Hd} {i:Nat} (h:0<=lst l i):∃k:Nat,lst l i=(k:Int)/\k < l.length/\0 < k/\(k - 1) / 2=i/\∀ j,0 < j->j < l.length->(j - 1) / 2=i->slt (hg l j) (hg l k)=false:=by
  unfold lst at h ⊢
  split at h
  · omega
  · rename_i hl
    rw [if_neg hl]
    split
    · rename_i hc
      refine ⟨2*i+2,rfl,by omega,by omega,by omega,fun j h0 hj hp=>?_⟩
      by_cases e:j=2*i+2
      · subst e;exact slt_irr _
      · have e2:j=2*i+1:=by omega
        subst e2;exact slt_as hc.2
    · rename_i hc
      refine ⟨2*i+1,rfl,by omega,by omega,by omega,fun j h0 hj hp=>?_⟩
      by_cases e:j=2*i+1
      · subst e;exact slt_irr _
      · have e2:j=2*i+2:=by omega
        subst e2
        cases hh:slt (hg l (2*i+2)) (hg l (2*i+1))
        · rfl
        · exact absurd ⟨hj,hh⟩ hc
/-- on the way down -/
structure DnEx (x:Hd) (i:Nat) (l:List Hd):Prop where
  lt:i < l.length
  rest:∀ j,0 < j->j < l.length->j≠i->(j - 1) / 2≠i->slt (hg l j) (hg l ((j - 1) / 2))=false
  above:∀ j,0 < j->j < l.length->(j - 1) / 2=i->0 < i->slt (hg l j) (hg l ((i - 1) / 2))=false
  self:0 < i->slt x (hg l ((i - 1) / 2))=false
theorem DnEx.start {hs:List Hd} {x:Hd} {n:Nat} (h:HeapOk hs) (hn:n<=hs.length) (h0:0 < n):DnEx x 0 (hs.take n):=by
  have hl:(hs.take n).length=n:=by simp;omega
  have e:∀ k,k < n->hg (hs.take n) k=hg hs k:=fun k hk=>by
    unfold hg;rw [List.getD_eq_getElem?_getD,List.getD_eq_getElem?_getD,List.getElem?_take,if_pos hk]
  refine ⟨by omega,fun j hj0 hj _ _=>?_,fun j _ _ _ h=>absurd h (Nat.lt_irrefl _),fun h=>absurd h (Nat.lt_irrefl _)⟩
  rw [hl] at hj
  rw [e _ hj,e _ (by omega)]
  exact h j hj0 (by omega)
theorem DnEx.step {x:Hd} {i k:Nat} {l:List Hd} (h:DnEx x i l) (hk:k < l.length) (hk0:0 < k) (hp:(k - 1) / 2=i) (hm:∀ j,0 < j->j < l.length->(j - 1) / 2=i->slt (hg l j) (hg l k)=false) (hx:slt (hg l k) x=true):DnEx x k (l.set i (hg l k)):=by
  have hi:=h.lt
  refine ⟨by simpa using hk,fun j hj0 hj hne hpp=>?_,fun j hj0 hj hpj _=>?_,fun _=>?_⟩
  · rw [List.length_set] at hj
    rw [hg_set hi,hg_set hi]
    by_cases e:j=i
    · subst e;rw [if_pos rfl,if_neg (by omega)];exact h.above k hk0 hk hp hj0
    · rw [if_neg e]
      by_cases e2:(j - 1) / 2=i
      · rw [if_pos e2];exact hm j hj0 hj e2
      · rw [if_neg e2];exact h.rest j hj0 hj e e2
  · rw [List.length_set] at hj
    rw [hg_set hi,hg_set hi,hp,if_pos rfl,if_neg (by omega)]
    have:=h.rest j hj0 hj (by omega) (by omega)
    rwa [hpj] at this
  · rw [hg_set hi,hp,if_pos rfl];exact slt_as hx
theorem DnEx.done {x:Hd} {i:Nat} {l:List Hd} (h:DnEx x i l) (hx:∀ j,0 < j->j < l.length->(j - 1) / 2=i->slt (hg l j) x=false):HeapOk (l.set i x):=by
  have hi:=h.lt
  intro j hj0 hj
  rw [List.length_set] at hj
  rw [hg_set hi,hg_set hi]
  by_cases e:j=i
  · subst e;rw [if_pos rfl,if_neg (by omega)];exact h.self hj0
  · rw [if_neg e]
    by_cases e2:(j - 1) / 2=i
    · rw [if_pos e2];exact hx j hj0 hj e2
    · rw [if_neg e2];exact h.rest j hj0 hj e e2
/-! ### exact -/
/-- x goes up from place i -/
def hup (x:Hd) (i:Nat) (l:List Hd):List Hd:=if 0 < i/\slt x (hg l ((i - 1) / 2))=true then hup x ((i - 1) / 2) (l.set i (hg l ((i - 1) / 2))) else l.set i x
termination_by i
decreasing_by omega
def hpush (l:List Hd) (x:Hd):List Hd:=hup x l.length (l++[x])
theorem hup_go {x:Hd} {i:Nat} {l:List Hd} (h0:0 < i) (h:slt x (hg l ((i - 1) / 2))=true):hup x i l=hup x ((i - 1) / 2) (l.set i (hg l ((i - 1) / 2))):=by rw [hup,if_pos ⟨h0,h⟩]
theorem hup_end {x:Hd} {i:Nat} {l:List Hd} (h:0 < i->slt x (hg l ((i - 1) / 2))=false):hup x i l=l.set i x:=by
  rw [hup,if_neg];rintro ⟨h0,h1⟩;rw [h h0] at h1;cases h1
theorem hup_len (x:Hd):∀ (i:Nat) (l:List Hd),(hup x i l).length=l.length:=by
  intro i
  induction i using Nat.strongRecOn with
  | ind i ih=>
    intro l
    by_cases h:0 < i/\slt x (hg l ((i - 1) / 2))=true
    · rw [hup_go h.1 h.2,ih _ (by omega)];simp
    · rw [hup,if_neg h];simp
@[simp] theorem hpush_len (l:List Hd) (x:Hd):(hpush l x).length=l.length+1:=by unfold hpush;rw [hup_len];simp
theorem hup_ok {x:Hd}:∀ (i:Nat) (l:List Hd),UpEx x i l->HeapOk (hup x i l)/\(hup x i l).Perm (l.set i x):=by
  intro i
  induction i using Nat.strongRecOn with
  | ind i ih=>
    intro l hU
    by_cases h:0 < i/\slt x (hg l ((i - 1) / 2))=true
    · rw [hup_go h.1 h.2]
      obtain ⟨h1,h2⟩:=ih ((i - 1) / 2) (by omega) _ (hU.step h.1 h.2)
      exact ⟨h1,h2.trans (swap_perm hU.lt (by have:=hU.lt;omega) (by omega))⟩
    · rw [hup,if_neg h]
      refine ⟨hU.done fun h0=>?_,List.Perm.refl _⟩
      cases hh:slt x (hg l ((i - 1) / 2))
      · rfl
      · exact absurd ⟨h0,hh⟩ h
theorem hpush_ok {l:List Hd} (h:HeapOk l) (x:Hd):HeapOk (hpush l x)/\(hpush l x).Perm (x::l):=by
  obtain ⟨h1,h2⟩:=hup_ok (x:=x) l.length (l++[x]) (UpEx.start h)
  refine ⟨h1,h2.trans ?_⟩
  rw [List.set_append_right _ _ (Nat.le_refl _),Nat.sub_self]
  exact List.perm_append_comm (l₁:=l) (l₂:=[x])
/-- x goes down from place i -/
def hdn (x:Hd) (i:Nat) (l:List Hd):List Hd:=if h:0<=lst l i/\slt (hg l (lst l i).toNat) x=true then hdn x (lst l i).toNat (l.set i (hg l (lst l i).toNat)) else l.set i x
termination_by l.length - i
decreasing_by
  obtain ⟨k,e,h1,h2,h3,_⟩:=lst_some h.1
  rw [e];simp only [List.length_set,Int.toNat_natCast];omega
def hpop (l:List Hd):List Hd:=if l.length<=1 then [] else hdn (hg l (l.length - 1)) 0 (l.take (l.length - 1))
theorem hdn_go {x:Hd} {i k:Nat} {l:List Hd} (e:lst l i=(k:Int)) (h:slt (hg l k) x=true):hdn x i l=hdn x k (l.set i (hg l k)):=by
  rw [hdn,dif_pos ⟨by omega,by rw [e];exact h⟩,e];rfl
theorem hdn_end {x:Hd} {i:Nat} {l:List Hd} (h:0<=lst l i->slt (hg l (lst l i).toNat) x=false):hdn x i l=l.set i x:=by
  rw [hdn,dif_neg];rintro ⟨h0,h1⟩;rw [h h0] at h1;cases h1
theorem hdn_ok {x:Hd}:∀ (n i:Nat) (l:List Hd),l.length - i=n->DnEx x i l->HeapOk (hdn x i l)/\(hdn x i l).Perm (l.set i x):=by
  intro n
  induction n using Nat.strongRecOn with
  | ind n ih=>
    intro i l hn hD
    by_cases h:0<=lst l i/\slt (hg l (lst l i).toNat) x=true
    · obtain ⟨k,e,h1,h2,h3,h4⟩:=lst_some h.1
      have hk:=h.2
      rw [e] at hk
      have hk:slt (hg l k) x=true:=hk
      rw [hdn_go e hk]
      have hlt:=hD.lt
      obtain ⟨g1,g2⟩:=ih (l.length - k) (by omega) k (l.set i (hg l k)) (by simp) (hD.step h1 h2 h3 h4 hk)
      exact ⟨g1,g2.trans (swap_perm hD.lt h1 (by omega))⟩
    · rw [hdn,dif_neg h]
      refine ⟨hD.done fun j h0 h1 h2=>?_,List.Perm.refl _⟩
      by_cases hz:0<=lst l i
      · obtain ⟨k,e,g1,g2,g3,g4⟩:=lst_some hz
        have hk:slt (hg l k) x=false:=by
          cases hh:slt (hg l k) x
          · rfl
          · exact absurd ⟨hz,by rw [e];exact hh⟩ h
        exact slt_ntr (g4 j h0 h1 h2) hk
      · have:=lst_none (l:=l) (i:=i) (by omega);omega
theorem hdn_len (x:Hd):∀ (n i:Nat) (l:List Hd),l.length - i=n->(hdn x i l).length=l.length:=by
  intro n
  induction n using Nat.strongRecOn with
  | ind n ih=>
    intro i l hn
    by_cases h:0<=lst l i/\slt (hg l (lst l i).toNat) x=true
    · obtain ⟨k,e,h1,h2,h3,_⟩:=lst_some h.1
      have hk:=h.2
      rw [e] at hk
      rw [hdn_go e hk,ih (l.length - k) (by omega) k _ (by simp)];simp
    · rw [hdn,dif_neg h];simp
@[simp] theorem hpop_len (l:List Hd):(hpop l).length=l.length - 1:=by
  unfold hpop;split
  · simp;omega
  · rw [hdn_len _ _ _ _ rfl];simp
theorem hpop_ok {l:List Hd} (h:HeapOk l) (h0:0 < l.length):HeapOk (hpop l)/\l.Perm (hg l 0::hpop l):=by
  unfold hpop
  by_cases h1:l.length<=1
  · rw [if_pos h1]
    obtain ⟨a,rfl⟩:=List.length_eq_one_iff.1 (show l.length=1 by omega)
    exact ⟨HeapOk.nil,List.Perm.refl _⟩
  · rw [if_neg h1]
    obtain ⟨g1,g2⟩:=hdn_ok (x:=hg l (l.length - 1)) _ 0 (l.take (l.length - 1)) rfl (DnEx.start h (by omega) (by omega))
    exact ⟨g1,((g2.cons _).trans (last_perm (by omega) (by omega))).symm⟩
end Go.Cg.Sn
end
section
namespace Go.Cg.Sn
set_option linter.unusedVariables false
set_option linter.unusedSimpArgs false
open Go.Cg.Dk Go.Cg.Oc Go.Cg.Rn

/-- where a merge stands; a run of which the head may lack: k -/
structure MInv (all out:List R) (hs:List Hd) (rs:List (List R)) (k:Nat):Prop where
  perm:(out++(hs.map Prod.fst++rs.flatten)).Perm all
  up:Up out
  le:∀ a∈out,∀ h∈hs,ltb h.1 a=false
  heads:∀ h∈hs,h.2 < rs.length/\Up (h.1::rg rs h.2)
  cover:∀ i,i < rs.length->i≠k->rg rs i≠[]->∃h∈hs,h.2=i
  self:k < rs.length->Up (rg rs k)/\∀ a∈out,∀ r∈rg rs k,ltb r a=false
  ok:HeapOk hs
/-- what the next of a run does -/
def NextP (hs:List Hd) (rs:List (List R)) (i:Nat) (hs':List Hd) (rs':List (List R)):Prop:=
  (rg rs i=[]/\hs'=hs/\rs'=rs)\/∃r q,rg rs i=r::q/\HeapOk hs'/\hs'.Perm ((r,i)::hs)/\rs'=rs.set i q
theorem NextP.len {hs hs':List Hd} {rs rs':List (List R)} {i:Nat} (h:NextP hs rs i hs' rs'):rs'.length=rs.length:=by
  rcases h with ⟨_,_,rfl⟩ | ⟨_,_,_,_,_,rfl⟩<;>simp
theorem NextP.sum {hs hs':List Hd} {rs rs':List (List R)} {i:Nat} (hi:i < rs.length) (h:NextP hs rs i hs' rs'):hs'.length+rs'.flatten.length=hs.length+rs.flatten.length:=by
  rcases h with ⟨_,rfl,rfl⟩ | ⟨r,q,e,_,hp,rfl⟩
  · rfl
  · have h1:=(flat_set hi e).length_eq
    have h2:=hp.length_eq
    simp only [List.length_cons] at h1 h2
    omega
theorem MInv.next {all out:List R} {hs hs':List Hd} {rs rs':List (List R)} {i:Nat} (m:MInv all out hs rs i) (hi:i < rs.length) (h:NextP hs rs i hs' rs') (k:Nat) (hk:rs.length<=k):MInv all out hs' rs' k:=by
  rcases h with ⟨e,rfl,rfl⟩ | ⟨r,q,e,hok,hp,rfl⟩
  · exact ⟨m.perm,m.up,m.le,m.heads,fun j hj _ hn=>m.cover j hj (fun h=>hn (by rw [h];exact e)) hn,fun h=>absurd h (by omega),m.ok⟩
  · obtain ⟨hu,hle⟩:=m.self hi
    rw [e] at hu hle
    refine ⟨?_,m.up,fun a ha h hh=>?_,fun h hh=>?_,fun j hj _ hn=>?_,fun h=>absurd h (by simp;omega),hok⟩
    · refine List.Perm.trans ?_ m.perm
      refine List.Perm.append_left _ ?_
      have h1:(hs'.map Prod.fst).Perm (r::hs.map Prod.fst):=by simpa using hp.map Prod.fst
      refine (h1.append_right _).trans ?_
      show (r::hs.map Prod.fst++_).Perm _
      rw [List.cons_append]
      refine List.perm_middle.symm.trans (List.Perm.append_left _ ?_)
      exact flat_set hi e
    · rcases List.mem_cons.1 (hp.mem_iff.1 hh) with rfl | hh
      · exact hle a ha r List.mem_cons_self
      · exact m.le a ha h hh
    · rw [rg_set hi]
      rcases List.mem_cons.1 (hp.mem_iff.1 hh) with rfl | hh
      · refine ⟨by simpa using hi,?_⟩
        rw [if_pos rfl];exact hu
      · obtain ⟨h1,h2⟩:=m.heads h hh
        refine ⟨by simpa using h1,?_⟩
        split
        · rename_i e2
          rw [e2,e] at h2
          exact List.Pairwise.sublist (List.Sublist.cons_cons _ (List.sublist_cons_self _ _)) h2
        · exact h2
    · rw [List.length_set] at hj
      rw [rg_set hi] at hn
      by_cases e2:j=i
      · exact ⟨(r,i),hp.mem_iff.2 List.mem_cons_self,e2.symm⟩
      · rw [if_neg e2] at hn
        obtain ⟨h,hh,e3⟩:=m.cover j hj e2 hn
        exact ⟨h,hp.mem_iff.2 (List.mem_cons_of_mem _ hh),e3⟩
/-- at the start: no head, no run -/
theorem MInv.none (n:Nat):MInv [] [] [] (List.replicate n []) n:=by
  have e:∀ i,rg (List.replicate n []) i=[]:=fun i=>by
    unfold rg;rw [List.getD_eq_getElem?_getD,List.getElem?_replicate];split<;>rfl
  refine ⟨?_,List.Pairwise.nil,(fun a h=>by cases h),(fun h hh=>by cases hh),(fun i _ _ h=>absurd (e i) h),fun h=>absurd h (by simp),HeapOk.nil⟩
  simp
/-- a run more -/
theorem MInv.run {all:List R} {hs:List Hd} {rs:List (List R)} {i:Nat} {l:List R} {k:Nat} (m:MInv all [] hs rs k) (hk:rs.length<=k) (hi:i < rs.length) (e:rg rs i=[]) (hne:∀ h∈hs,h.2≠i):MInv (all++l) [] hs (rs.set i (sort l)) i:=by
  refine ⟨?_,List.Pairwise.nil,(fun a h=>by cases h),fun h hh=>?_,fun j hj hji hn=>?_,fun _=>⟨?_,fun a h=>by cases h⟩,m.ok⟩
  · have h1:=(flat_put (q:=sort l) hi e).trans (List.Perm.append_left _ (sort_perm l))
    refine (List.Perm.append_left _ (List.Perm.append_left _ h1)).trans ?_
    rw [<-List.append_assoc,<-List.append_assoc]
    refine List.Perm.append_right _ ?_
    have:=m.perm
    simpa using this
  · obtain ⟨h1,h2⟩:=m.heads h hh
    refine ⟨by simpa using h1,?_⟩
    rw [rg_set hi,if_neg (hne h hh)];exact h2
  · rw [List.length_set] at hj
    rw [rg_set hi,if_neg hji] at hn
    exact m.cover j hj (by omega) hn
  · rw [rg_set hi,if_pos rfl];exact sort_up l
/-- the least head is taken -/
theorem MInv.pop {all out:List R} {hs hs':List Hd} {rs:List (List R)} {x:Hd} {k:Nat} (m:MInv all out hs rs k) (hk:rs.length<=k) (hp:hs.Perm (x::hs')) (hok:HeapOk hs') (hx:∀ y∈hs,slt y x=false):x.2 < rs.length/\MInv all (out++[x.1]) hs' rs x.2:=by
  have hxm:x∈hs:=hp.mem_iff.2 List.mem_cons_self
  have hm:∀ y,y∈hs'->y∈hs:=fun y hy=>hp.mem_iff.2 (List.mem_cons_of_mem _ hy)
  obtain ⟨h1,h2⟩:=m.heads x hxm
  refine ⟨h1,⟨?_,?_,fun a ha h hh=>?_,fun h hh=>m.heads h (hm h hh),fun i hi hne hn=>?_,fun _=>⟨(List.pairwise_cons.1 h2).2,fun a ha r hr=>?_⟩,hok⟩⟩
  · refine List.Perm.trans ?_ m.perm
    rw [List.append_assoc]
    refine List.Perm.append_left _ ?_
    have h3:(hs.map Prod.fst).Perm (x.1::hs'.map Prod.fst):=by simpa using hp.map Prod.fst
    exact (h3.symm.append_right _)
  · refine List.pairwise_append.2 ⟨m.up,by simp,fun a ha b hb=>?_⟩
    rw [List.mem_singleton.1 hb];exact m.le a ha x hxm
  · rcases List.mem_append.1 ha with ha | ha
    · exact m.le a ha h (hm h hh)
    · rw [List.mem_singleton.1 ha];exact slt_rec (hx h (hm h hh))
  · obtain ⟨h,hh,e⟩:=m.cover i hi (by omega) hn
    rcases List.mem_cons.1 (hp.mem_iff.1 hh) with rfl | hh
    · exact absurd e.symm hne
    · exact ⟨h,hh,e⟩
  · have h3:ltb r x.1=false:=(List.pairwise_cons.1 h2).1 r hr
    rcases List.mem_append.1 ha with ha | ha
    · exact ltb_ntr h3 (m.le a ha x hxm)
    · rw [List.mem_singleton.1 ha];exact h3
theorem MInv.done {all out:List R} {rs:List (List R)} {k:Nat} (m:MInv all out [] rs k) (hk:rs.length<=k):out=sort all:=by
  have hf:rs.flatten=[]:=flat_nil fun i hi=>by
    by_cases h:rg rs i=[]
    · exact h
    · obtain ⟨h,hh,_⟩:=m.cover i hi (by omega) h;cases hh
  have hp:=m.perm
  rw [hf] at hp
  simp only [List.map_nil,List.nil_append,List.append_nil] at hp
  exact (sort_eq hp m.up).symm
end Go.Cg.Sn
end
