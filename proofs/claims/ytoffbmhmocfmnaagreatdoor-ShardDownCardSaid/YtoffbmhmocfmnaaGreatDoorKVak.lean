/- Laws of the model, walks of functions of the program, and what they rest on. No condition. -/
import Derived.Test.YtoffbmhmocfmnaaGreatDoorKVaj
import Derived.Test.YtoffbmhmocfmnaaGreatDoorKVad
section
namespace Go.Cg.Xs
set_option linter.unusedVariables false
set_option linter.unusedSimpArgs false
open Go.Cg.Dk Go.Cg.Oc Go.Cg.Sn Go.Cg.Cl
open Go.Cg.Rn hiding HeapOk MInv NextP UpEx DnEx lst

/-- a disk that is up, how much room, and the files -/
structure Is (d:Disk) (r:Nat) (fs:Fs):Prop where
  q:Q d
  rm:d.room=r
  fl:d.files=fs
theorem Is.fresh {r:Int} {k:Nat} (h:r=(k:Int)) (hk:k<=1099511627776):Is (fresh r) k []:=⟨⟨fresh_ok (by omega),rfl,rfl⟩,by subst h;rfl,rfl⟩
theorem fput_len {fs:Fs} {n:Nm} {f:Fl} (h:fget fs n=none):(Dk.fput fs n f).length=fs.length+1:=by
  unfold Dk.fput;rw [(perm_fins n f _).length_eq,fdel_none h];rfl
def Names (fs:Fs) (ns:List Nm):Prop:=∀ m,fget fs m≠none->m∈ns
theorem Names.nil:Names [] []:=fun m h=>absurd rfl h
theorem Names.put {fs:Fs} {ns:List Nm} (h:Names fs ns) (n:Nm) (f:Fl):Names (Dk.fput fs n f) (n::ns):=fun m hm=>by
  rw [fget_fput] at hm
  by_cases e:m=n
  · rw [e];exact List.mem_cons_self
  · rw [if_neg e] at hm;exact List.mem_cons_of_mem _ (h m hm)
theorem tname_ne {temp n:Nm} {k:Nat} (h:(46:UInt8)∉n):tname temp k≠n:=fun e=>h (e▸by unfold tname;simp)
theorem tmp_of {d:Disk} (hok:d.Ok) {temp out:Nm} (hno:∀ k,fget d.files (tname temp k)=none) (hd:(46:UInt8)∉out) (ou:fget d.files out=none) (mo:may out=true) (ht:temp.length<=15):Tmp d.files temp out 99999999:=
  ⟨fun k hk=>tname_may ht (by omega),hno,fun k=>tname_ne hd,hok.ris,ou,mo,fun m f hf=>hok.syn _ (mem_of_fget hf)⟩
section
variable {d:Disk} {r:Nat} {fs:Fs} (h:Is d r fs)
include h
theorem Is.put (o:Int) {n:Nm} {f:Fl} (hm:may n=true) (hs:f.syn.length<=f.now.length) (hu:used (Dk.fput fs n f)<=r):Is (dk d o 0 (Dk.fput fs n f)) r (Dk.fput fs n f):=by
  obtain ⟨hq,hr,hf⟩:=h
  subst hf
  have hx:=hq.ok.put (n:=n) (f:=f) hs (by rw [used_fput] at hu;omega) (may_len (by rw [hm];simp))
  exact ⟨⟨⟨hx.ris,hx.syn,hx.fit,hx.room,Nat.zero_le _,hx.nam⟩,hq.up,rfl⟩,hr,rfl⟩
theorem Is.same (o:Int):Is (dk d o 0 fs) r fs:=by
  obtain ⟨hq,hr,hf⟩:=h
  subst hf
  exact ⟨hq.same o,hr,rfl⟩
theorem Is.self:d=dk d d.ops 0 fs:=by
  obtain ⟨hq,hr,hf⟩:=h
  subst hf
  exact hq.self
theorem Is.write {n:Nm} (hm:may n=true) (hn:fget fs n=none) {l:List R} (hr:used fs+secN l.length<=r):∃d',Rn.write n l d=(d',0)/\Is d' r (Dk.fput fs n ⟨FB l,FB l⟩):=by
  have hs:=sec_FBn l
  have hris:rising fs:=h.fl▸h.q.ok.ris
  have hw:=write_all h.q.up d.ops 0 hris hm hn l
  rw [<-h.self] at hw
  rcases hw with ⟨h1,_⟩ | ⟨o',a',f',h1,h2,h3,h4,h5,h6,h7⟩ | ⟨o',a',f',h1,h2,h3,h4,h5,h6⟩
  · omega
  · have:=h.rm;omega
  · have e:f'=Dk.fput fs n ⟨FB l,FB l⟩:=files_ext h3 (rising_fput hris _ _) fun m=>by rw [h4,fget_fput]
    subst e
    rw [h2 rfl] at h1
    exact ⟨_,h1,h.put o' hm (Nat.le_refl _) (by omega)⟩
theorem Is.read {n:Nm} {l:List R} {s:By} (hf:fget fs n=some ⟨FB l,s⟩) (hb:Bd l):∃d',Rn.read n d=(d',l,0)/\Is d' r fs:=by
  have hr:=read_all h.q.up d.ops 0 hf rfl hb
  rw [<-h.self] at hr
  rcases hr with ⟨h1,_⟩ | ⟨o',a',h1,h2⟩
  · omega
  · rw [h2 rfl] at h1;exact ⟨_,h1,h.same o'⟩
theorem Is.list:∃d' ns,d.list=(d',ns,0)/\Is d' r fs/\ns.length=fs.length:=by
  obtain ⟨o,e⟩:=list_q h.q
  refine ⟨_,_,e,?_,?_⟩
  · rw [h.fl];exact h.same o
  · rw [h.fl];simp
theorem Is.sort_ne {nin out temp:Nm} {b fan how:Int} {f:Fl} {l:List R} {e:Nat} (hno:∀ k,fget fs (tname temp k)=none) (hd:(46:UInt8)∉out) (ou:fget fs out=none) (mo:may out=true) (ht:temp.length<=15) (hf:fget fs nin=some f) (hl:Rds f.now (0,[],false) l e) (hb:Bd l) (hK:l.length<=1000000)
    (hb1:1<=b) (hfan:2<=fan) (hh:0<=how/\how<=2):
    (∃d' E,sortD nin out temp b fan how d=(d',0,E)/\Is d' r fs/\Bad d fs l.length e E)\/(e=0/\∃d',sortD nin out temp b fan how d=(d',passes l.length b fan,0)/\d'.files=Dk.fput fs out ⟨FB (fold how (sort l)),FB (fold how (sort l))⟩/\(used fs+secN (fold how (sort l)).length<=r\/d'.Ok->Is d' r (Dk.fput fs out ⟨FB (fold how (sort l)),FB (fold how (sort l))⟩))):=by
  have hT:Tmp fs temp out 99999999:=by
    have:=tmp_of (d:=d) h.q.ok (temp:=temp) (out:=out) (by rw [h.fl];exact hno) hd (by rw [h.fl];exact ou) mo ht
    rwa [h.fl] at this
  have hs:=sort_go h.q.up hT (how:=how) e hf hl hb (by omega) hb1 hfan hh d.ops 0
  rw [<-h.self] at hs
  rcases hs with ⟨⟨h1,_⟩,_⟩ | ⟨h1,_⟩ | ⟨o',a',h1,h2,h3,h4⟩ | ⟨he,o',a',h1,h2⟩
  · omega
  · omega
  · refine .inl ⟨dk d o' 0 fs,(sortD nin out temp b fan how d).2.2,?_,h.same o',h4⟩
    exact Prod.ext (by rw [h1,h2 rfl]) (Prod.ext h3 rfl)
  · rw [h2 rfl] at h1
    refine .inr ⟨he,_,h1,rfl,fun hu=>?_⟩
    rcases hu with hu | hu
    · refine h.put o' mo (Nat.le_refl _) ?_
      rw [used_fput_new ou];rw [sec_FBn];exact hu
    · exact ⟨⟨hu,h.q.up,rfl⟩,h.rm,rfl⟩
theorem Is.sorts {nin out temp:Nm} {b fan how:Int} {s:By} {l:List R} (hno:∀ k,fget fs (tname temp k)=none) (hd:(46:UInt8)∉out) (ou:fget fs out=none) (mo:may out=true) (ht:temp.length<=15) (hf:fget fs nin=some ⟨FB l,s⟩) (hb:Bd l) (hK:l.length<=1000000)
    (hb1:1<=b) (hfan:2<=fan) (hh:0<=how/\how<=2) (hr:used fs+4*l.length<=r):∃d',sortD nin out temp b fan how d=(d',passes l.length b fan,0)/\Is d' r (Dk.fput fs out ⟨FB (fold how (sort l)),FB (fold how (sort l))⟩):=by
  have hle:=secN_le (fold how (sort l)).length
  have hfl:=fold_len how (sort l)
  rw [len_sort] at hfl
  rcases h.sort_ne hno hd ou mo ht hf (rds_FB hb) hb hK hb1 hfan hh with ⟨d',E,_,_,hB⟩ | ⟨_,d',h1,_,h2⟩
  · have:=h.rm
    rcases hB with ⟨_,hB⟩ | ⟨_,hB⟩<;>omega
  · exact ⟨d',h1,h2 (.inl (by omega))⟩
theorem Is.sort_is {nin out temp:Nm} {b fan how:Int} {f g:Fl} (hf:fget fs nin=some f) (hg:fget fs out=some g) (mo:may out=true) (hb1:1<=b) (hfan:2<=fan) (hh:0<=how/\how<=2):∃d',sortD nin out temp b fan how d=(d',0,5)/\Is d' r fs:=by
  refine ⟨dk d (nx (nx d.ops)) 0 fs,?_,h.same _⟩
  conv=>lhs;rw [h.self]
  rw [sortD,if_neg (by omega),size_up h.q.up _ _ _ (by decide) hf,if_neg (by simp)]
  simp only
  have e:(dk d (nx d.ops) (0 - 1) fs).create out=(dk d (nx (nx d.ops)) 0 fs,5):=by
    unfold Disk.create;simp only;rw [mk_begin h.q.up _ _ _ (by decide),if_neg (by rw [mk_down h.q.up];decide),if_neg (by rw [mo];decide),if_pos (by show (fget fs out).isSome=true;rw [hg];rfl)]
  rw [e,if_pos (by simp)]
theorem Is.cnt:d.files.length=fs.length:=by rw [h.fl]
end
theorem no_tn {fs:Fs} {ns:List Nm} (h:Names fs ns) (hd:∀ n∈ns,(46:UInt8)∉n) (temp:Nm) (k:Nat):fget fs (tname temp k)=none:=by
  cases hx:fget fs (tname temp k) with
  | none=>rfl
  | some f=>exact absurd rfl (tname_ne (temp:=temp) (k:=k) (hd _ (h _ (by rw [hx];simp))))
theorem sort_arg0 {nin out temp:Nm} {b fan how:Int} {d:Disk} (h:b < 1\/fan < 2\/how < 0\/2 < how):sortD nin out temp b fan how d=(d,0,1):=if_pos h
theorem one_len {n:Nm} {f:Fl}:(Dk.fput [] n f).length=1:=fput_len rfl
theorem two_len {n m:Nm} {f g:Fl} (h:m≠n):(Dk.fput (Dk.fput [] n f) m g).length=2:=by rw [fput_len (by rw [fget_fput,if_neg h];rfl),one_len]
theorem one_used {n:Nm} {l:List R}:used (Dk.fput [] n ⟨FB l,FB l⟩)=secN l.length:=by rw [used_fput_new rfl,<-sec_FBn];simp [used]
theorem one_names (n:Nm) (f:Fl):Names (Dk.fput [] n f) [n]:=Names.nil.put n f
theorem sorted_bd {how:Int} {l:List R} (h:Bd l):Bd (fold how (sort l)):=fold_bd how _ h.sort
theorem passes_10:passes 10 2 2=3:=by
  unfold passes;rw [if_neg (by decide)]
  simp only [show (2:Int).toNat=2 from rfl,show ((10 - 1) / 2+1:Int).toNat=5 from rfl]
  rw [pgo,dif_pos (by decide),pgo,dif_pos (by decide),pgo,dif_pos (by decide),pgo,dif_neg (by decide)]
theorem passes_3:passes 3 1 2=2:=by
  unfold passes;rw [if_neg (by decide)]
  simp only [show (2:Int).toNat=2 from rfl,show ((3 - 1) / 1+1:Int).toNat=3 from rfl]
  rw [pgo,dif_pos (by decide),pgo,dif_pos (by decide),pgo,dif_neg (by decide)]
theorem shown_plan:∃d1 d2 d3 d4 d5 ns,Rn.write ([105,110]) [(3,0),(1,0),(2,0)] (fresh 1000)=(d1,0)/\sortD ([105,110]) ([111,117,116]) ([116]) 1 2 0 d1=(d2,2,0)/\Rn.read ([111,117,116]) d2=(d3,[(1,0),(2,0),(3,0)],0)/\
    sortD ([105,110]) ([111,117,116]) ([116]) 1 2 0 d3=(d4,0,5)/\sortD ([105,110]) ([120]) ([116]) 0 2 0 d4=(d4,0,1)/\d4.list=(d5,ns,0)/\ns.length=2/\passes 10 2 2=3/\d1.files.length<=9/\d2.files.length<=9/\d3.files.length<=9/\d4.files.length<=9:=by
  have b1:Bd [(3,0),(1,0),(2,0)]:=by intro z hz;simp at hz;rcases hz with rfl | rfl | rfl<;>decide
  have i0:Is (fresh 1000) 1000 []:=Is.fresh (k:=1000) rfl (by decide)
  obtain ⟨d1,e1,i1⟩:=i0.write (n:=[105,110]) (by decide) rfl (l:=[(3,0),(1,0),(2,0)]) (by decide)
  obtain ⟨d2,e2,i2⟩:=i1.sorts (nin:=[105,110]) (out:=[111,117,116]) (temp:=[116]) (b:=1) (fan:=2) (how:=0) (no_tn (one_names _ _) (by decide) _) (by decide) (by rw [fget_fput,if_neg (by decide)];rfl) (by decide) (by decide) (by rw [fget_fput,if_pos rfl]) b1 (by decide) (by decide) (by decide) (by decide) (by rw [one_used];decide)
  have hF:fold 0 (sort [(3,0),(1,0),(2,0)])=[(1,0),(2,0),(3,0)]:=by rw [fold_zero];decide
  rw [hF] at i2
  rw [show (passes (([(3,0),(1,0),(2,0)]:List R).length:Nat) 1 2)=2 from passes_3] at e2
  have b2:Bd [(1,0),(2,0),(3,0)]:=by intro z hz;simp at hz;rcases hz with rfl | rfl | rfl<;>decide
  obtain ⟨d3,e3,i3⟩:=i2.read (n:=[111,117,116]) (by rw [fget_fput,if_pos rfl]) b2
  obtain ⟨d4,e4,i4⟩:=i3.sort_is (nin:=[105,110]) (out:=[111,117,116]) (temp:=[116]) (b:=1) (fan:=2) (how:=0) (by rw [fget_fput,if_neg (by decide),fget_fput,if_pos rfl]) (by rw [fget_fput,if_pos rfl]) (by decide) (by decide) (by decide) (by decide)
  obtain ⟨d5,ns,e5,i5,hn⟩:=i4.list
  have c2:=two_len (n:=[105,110]) (m:=[111,117,116]) (f:=⟨FB [(3,0),(1,0),(2,0)],FB [(3,0),(1,0),(2,0)]⟩) (g:=⟨FB [(1,0),(2,0),(3,0)],FB [(1,0),(2,0),(3,0)]⟩) (by decide)
  exact ⟨d1,d2,d3,d4,d5,ns,e1,e2,e3,e4,sort_arg0 (.inl (by decide)),e5,by rw [hn,c2],passes_10,by rw [i1.cnt,one_len];decide,by rw [i2.cnt,c2];decide,by rw [i3.cnt,c2];decide,by rw [i4.cnt,c2];decide⟩
section
variable {l:List R} (hl:l.length<=120) (hb:Bd l)
include hl hb
omit hl hb in
theorem sort_cnt {nin out temp:Nm} {b fan how:Int} (d:Disk):16*(sortD nin out temp b fan how d).1.files.length<=16*d.files.length+3*(d.size nin).2.1+32:=by
  have k1:=len_size d nin
  have k2:=len_create (d.size nin).1 out
  have k3:=len_remove ((d.size nin).1.create out).1 out
  unfold sortD
  split
  · simp only;omega
  split
  · simp only;omega
  simp only
  split
  · simp only;omega
  split
  · simp only;omega
  have k4:=all_cnt (nin:=nin) (sz:=(d.size nin).2.1) (out:=out) (temp:=temp) (how:=how) (budget:=b.toNat) (fan:=fan.toNat) (by omega) (((d.size nin).1.create out).1.remove out).1
  split
  · have k5:=(gones_cnt ((all nin (d.size nin).2.1 out temp how b.toNat fan.toNat (((d.size nin).1.create out).1.remove out).1).2.1.2++[out]) (all nin (d.size nin).2.1 out temp how b.toNat fan.toNat (((d.size nin).1.create out).1.remove out).1).2.1.2 (all nin (d.size nin).2.1 out temp how b.toNat fan.toNat (((d.size nin).1.create out).1.remove out).1).1).1
    simp only;omega
  · simp only;omega
end
end Go.Cg.Xs
end
section
namespace Go.Cg.Sh
set_option linter.unusedVariables false
set_option linter.unusedSimpArgs false
open Go.Cg.Dk Go.Cg.Cl Go.Cg.Xs
open Go.Cg.Rn hiding HeapOk MInv NextP UpEx DnEx lst
open Go.Cg.Tr (E)

/-! ### names -/
theorem sname_inj {i j:Nat} (h:sname i=sname j):i=j:=by
  unfold sname at h
  have:=List.append_cancel_left h
  rw [Xs.itoa_nn,Xs.itoa_nn] at this
  exact Xs.digits_inj this
theorem ps_ne {i j:Nat}:pname i≠sname j:=fun e=>by
  have:=congrArg List.head? e
  simp [pname,sname,nPart,Cm.nShard] at this
theorem ts_ne {i j:Nat}:tname nRun i≠sname j:=fun e=>by
  have:=congrArg List.head? e
  simp [tname,sname,nRun,Cm.nShard] at this
theorem tp_ne {i j:Nat}:tname nRun i≠pname j:=fun e=>by
  have:=congrArg List.head? e
  simp [tname,pname,nRun,nPart] at this
theorem sname_may {i:Nat} (h:i < 100000000):may (sname i)=true:=by
  have h1:=Xs.digits_len 7 i (by omega)
  unfold may sname
  rw [decide_eq_true_eq,Xs.itoa_nn]
  exact ⟨by simp [Cm.nShard],by simp [Cm.nShard];omega⟩
theorem pname_may {i:Nat} (h:i < 100000000):may (pname i)=true:=by
  have h1:=Xs.digits_len 7 i (by omega)
  unfold may pname
  rw [decide_eq_true_eq,Xs.itoa_nn]
  exact ⟨by simp [nPart],by simp [nPart];omega⟩
/-! ### a disk that is down -/
theorem begin_down {d:Disk} (h:d.down=true):d.begin_.down=true:=by
  unfold Disk.begin_ Disk.crash
  simp only
  split
  · exact h
  · split
    · simp only [h,if_true]
    · exact h
theorem remove_down {d:Disk} (h:d.down=true) (n:Nm):(d.remove n).1.down=true/\(d.remove n).2=7:=by
  unfold Disk.remove
  simp only
  rw [if_pos (begin_down h)]
  exact ⟨begin_down h,rfl⟩
theorem undo_down:∀ (c k:Nat) (d:Disk),d.down=true->(undo c k d).down=true
  | 0,_,_,h=>h
  | c+1,k,d,h=>undo_down c (k+1) _ (remove_down h _).1
theorem undo_dn (d:Disk):∀ (c k:Nat) (o:Int) (fs:Fs),∃o',undo c k (dn d o fs)=dn d o' fs
  | 0,_,o,_=>⟨o,rfl⟩
  | c+1,k,o,fs=>by rw [undo,remove_dn];exact undo_dn d c (k+1) _ fs
/-! ### edges of an interval -/
def rows (n s:Int) (es:List E) (i:Nat):List R:=fold 0 (sort ((mine n s i es).map pack))
def cum (n s:Int) (es:List E) (i:Nat):Nat:=es.countP fun e=>decide (ofv n s e.t < i)
theorem cum_le (n s:Int) (es:List E) (i:Nat):cum n s es i<=es.length:=List.countP_le_length
theorem cum_succ (n s:Int) (es:List E) (i:Nat):cum n s es i+(mine n s i es).length=cum n s es (i+1):=by
  induction es with
  | nil=>rfl
  | cons e es ih=>
    unfold cum mine at *
    rw [List.countP_cons,List.countP_cons,List.filter_cons]
    by_cases h1:ofv n s e.t=i
    · simp only [h1,decide_true,if_true,List.length_cons,Nat.lt_irrefl,decide_false,Nat.lt_succ_self]
      simp
      omega
    · by_cases h2:ofv n s e.t < i
      · have h3:ofv n s e.t < i+1:=by omega
        simp only [h1,h2,h3,decide_true,decide_false,if_true]
        simp
        omega
      · have h3:¬ ofv n s e.t < i+1:=by omega
        simp only [h1,h2,h3,decide_false]
        simp
        omega
theorem rows_len (n s:Int) (es:List E) (i:Nat):(rows n s es i).length=(mine n s i es).length:=by
  unfold rows;rw [fold_zero,len_sort,List.length_map]
/-- numbers of 32 bits -/
def E32 (es:List E):Prop:=∀ e∈es,e.f < 4294967296/\e.t < 4294967296/\e.w < 4294967296
theorem pack_bd {es:List E} (h:E32 es):Bd (es.map pack):=by
  intro z hz
  obtain ⟨e,he,rfl⟩:=List.mem_map.1 hz
  have:=h e he
  exact ⟨by show e.f*4294967296+e.t < _;omega,by show e.w < _;omega⟩
theorem E32.mine {es:List E} (h:E32 es) (n s:Int) (i:Nat):E32 (mine n s i es):=fun e he=>h e (List.mem_filter.1 he).1
theorem unpack_pack {e:E} (h:e.f < 4294967296/\e.t < 4294967296/\e.w < 4294967296):unpack (pack e)=e:=by
  obtain ⟨f,t,w⟩:=e
  unfold unpack pack
  simp only at *
  congr 1<;>omega
/-! ### one shard -/
structure Free (fs:Fs) (j u:Nat):Prop where
  ris:rising fs
  fine:∀ m f,fget fs m=some f->f.syn.length<=f.now.length
  run:∀ k,fget fs (tname nRun k)=none
  part:∀ k,fget fs (pname k)=none
  shard:∀ k,j<=k->k < u->fget fs (sname k)=none
theorem Free.step {fs:Fs} {j u:Nat} (h:Free fs j u) (b:By):Free (Dk.fput fs (sname j) ⟨b,b⟩) (j+1) u:=by
  refine ⟨rising_fput h.ris _ _,fun m f hf=>?_,fun k=>?_,fun k=>?_,fun k hk hu=>?_⟩
  · rw [fget_fput] at hf
    split at hf
    · cases hf;exact Nat.le_refl _
    · exact h.fine m f hf
  · rw [fget_fput,if_neg ts_ne];exact h.run k
  · rw [fget_fput,if_neg ps_ne];exact h.part k
  · rw [fget_fput,if_neg (fun c=>by have:=sname_inj c;omega)];exact h.shard k (by omega) hu
section
variable {d:Disk} (hu:d.down=false) {n s:Int} {es:List E} (h32:E32 es) {budget:Int} (hb1:1<=budget)
include hu h32 hb1
theorem one_go {i u:Nat} (hi:i < 5000) (hiu:i < u) (hlen:es.length<=1000000) {fs:Fs} (hF:Free fs i u) (o:Int) (a:Nat):
    (1<=a/\(one n s es budget i (dk d o a fs)).1.down=true/\(((one n s es budget i (dk d o a fs)).2=7/\∃o' f',(one n s es budget i (dk d o a fs)).1=dn d o' f')\/((one n s es budget i (dk d o a fs)).2=6/\d.room < used fs+6*(mine n s i es).length)))\/
    (∃o' a',(one n s es budget i (dk d o a fs)).1=dk d o' a' fs/\(a=0->a'=0)/\(one n s es budget i (dk d o a fs)).2=6/\d.room < used fs+6*(mine n s i es).length)\/
    ∃o' a',one n s es budget i (dk d o a fs)=(dk d o' a' (Dk.fput fs (sname i) ⟨FB (rows n s es i),FB (rows n s es i)⟩),0)/\(a=0->a'=0):=by
  obtain ⟨L,hL⟩:∃L,L=(mine n s i es).map pack:=⟨_,rfl⟩
  have hLl:L.length=(mine n s i es).length:=by rw [hL,List.length_map]
  have hmn:(mine n s i es).length<=es.length:=List.length_filter_le _ _
  have hLb:Bd L:=by rw [hL];exact pack_bd (h32.mine n s i)
  have hsec:sectors (FB L).length<=2*L.length:=sec_FB L
  have hrm:∀ (o:Int) (a:Nat) (f1 f2:Fs),rising f1->rising f2->(∃f,fget f1 (pname i)=some f)->fget f2 (pname i)=none->(∀ m,m≠pname i->fget f1 m=fget f2 m)->
      (a=1/\∃o' f',((dk d o a f1).remove (pname i))=(dn d o' f',7))\/(a≠1/\((dk d o a f1).remove (pname i))=(dk d (nx o) (a - 1) f2,0)):=by
    intro o a f1 f2 r1 r2 ⟨f,hf⟩ hn hg
    by_cases a1:a=1
    · subst a1;left;rw [remove_fall hu];exact ⟨rfl,_,_,rfl⟩
    · right
      rw [remove_up hu o a f1 a1 hf]
      rw [show fdel f1 (pname i)=f2 from files_ext (rising_fdel r1 _) r2 fun m=>by
        rw [fget_fdel]
        by_cases e:m=pname i
        · rw [if_pos e,e,hn]
        · rw [if_neg e,hg m e]]
      exact ⟨a1,rfl⟩
  unfold one
  rcases write_all hu o a hF.ris (pname_may (by omega)) (hF.part i) L with ⟨k1,o',f',k2,_⟩ | ⟨o',a',f',k2,k3,k4,k5,k6,k7,k8⟩ | ⟨o',a',f',k2,k3,k4,k5,k6,k7⟩
  · have hB:oneB n s es budget i (dk d o a fs)=(dn d o' (tornAll f' d.keep),7):=by
      unfold oneB split;rw [<-hL,k2,if_pos (by simp)]
    left
    rw [hB,remove_dn]
    exact ⟨k1,rfl,.inl ⟨rfl,_,_,rfl⟩⟩
  · have hB:oneB n s es budget i (dk d o a fs)=(dk d o' a' f',6):=by
      unfold oneB split;rw [<-hL,k2,if_pos (by simp)]
    rw [hB]
    rcases hrm o' a' f' fs k4 hF.ris k5 (hF.part i) k6 with ⟨r1,o3,f3,r2⟩ | ⟨r1,r2⟩
    · exact .inl ⟨by omega,by simp only;rw [r2];rfl,.inr ⟨rfl,by omega⟩⟩
    · right;left
      simp only
      rw [r2]
      exact ⟨_,_,rfl,fun c=>by have:=k3 c;omega,rfl,by omega⟩
  · have hg:fget f' (pname i)=some ⟨FB L,FB L⟩:=by rw [k5,if_pos rfl]
    have hoff:∀ m,m≠pname i->fget f' m=fget fs m:=fun m hm=>by rw [k5,if_neg hm]
    have hT:Xs.Tmp f' nRun (sname i) 99999999:=⟨fun k hk=>tname_may (by decide) (by omega),fun k=>by rw [hoff _ tp_ne];exact hF.run k,fun k=>ts_ne,k4,by rw [hoff _ (fun c=>ps_ne c.symm)];exact hF.shard i (Nat.le_refl _) hiu,sname_may (by omega),fun m f hf=>by
      rw [k5] at hf
      split at hf
      · cases hf;exact Nat.le_refl _
      · exact hF.fine m f hf⟩
    have hs:=sort_go hu hT (how:=0) 0 hg (rds_FB hLb) hLb (by omega) (b:=budget) (fan:=4) hb1 (by decide) (by decide) o' a'
    have hB:oneB n s es budget i (dk d o a fs)=((sortD (pname i) (sname i) nRun budget 4 0 (dk d o' a' f')).1,(sortD (pname i) (sname i) nRun budget 4 0 (dk d o' a' f')).2.2):=by
      unfold oneB split;rw [<-hL,k2,if_neg (by simp)]
    rw [hB]
    simp only
    rcases hs with ⟨⟨h1,o2,f2,h2,_⟩,h5⟩ | ⟨h1,h2,_,h4⟩ | ⟨o2,a2,h1,h2,h3,h4⟩ | ⟨_,o2,a2,h1,h2⟩
    · left
      rw [h5,h2,remove_dn]
      exact ⟨by omega,rfl,.inl ⟨rfl,_,_,rfl⟩⟩
    · left
      obtain ⟨r1,r2⟩:=remove_down h2 (pname i)
      rw [if_pos h4.ne]
      rcases h4 with ⟨_,h4⟩ | ⟨h4,h5⟩
      · exact absurd rfl h4
      · exact ⟨by omega,r1,.inr ⟨h4,by omega⟩⟩
    · rw [if_pos h4.ne,h1]
      rcases h4 with ⟨_,h4⟩ | ⟨h4,h5⟩
      · exact absurd rfl h4
      rcases hrm o2 a2 f' fs k4 hF.ris ⟨_,hg⟩ (hF.part i) hoff with ⟨r1,o3,f3,r2⟩ | ⟨r1,r2⟩
      · exact .inl ⟨by omega,by rw [r2];rfl,.inr ⟨h4,by omega⟩⟩
      · right;left
        rw [r2]
        exact ⟨_,_,rfl,fun c=>by have:=h2 (k3 c);omega,h4,by omega⟩
    · rw [h1]
      simp only
      rcases hrm o2 a2 (Dk.fput f' (sname i) ⟨FB (fold 0 (sort L)),FB (fold 0 (sort L))⟩) (Dk.fput fs (sname i) ⟨FB (rows n s es i),FB (rows n s es i)⟩) (rising_fput k4 _ _) (rising_fput hF.ris _ _) ⟨_,by rw [fget_fput,if_neg ps_ne];exact hg⟩ (by rw [fget_fput,if_neg ps_ne];exact hF.part i) (fun m hm=>by
        rw [fget_fput,fget_fput,hoff m hm];unfold rows;rw [<-hL]) with ⟨r1,o3,f3,r2⟩ | ⟨r1,r2⟩
      · exact .inl ⟨by omega,by rw [r2];rfl,.inl ⟨by rw [r2];rfl,o3,f3,by rw [r2]⟩⟩
      · right;right
        rw [r2]
        exact ⟨_,_,rfl,fun c=>by have:=h2 (k3 c);omega⟩
end
/-! ### all of them -/
theorem undo_go {d:Disk} (hu:d.down=false):∀ (c k:Nat) (o:Int) (a:Nat) (fs:Fs),rising fs->
    (1<=a/\(undo c k (dk d o a fs)).down=true)\/∃o' a' fs',undo c k (dk d o a fs)=dk d o' a' fs'/\(a=0->a'=0)/\rising fs'/\(∀ j,k<=j->j < k+c->fget fs' (sname j)=none)/\∀ m,(∀ j,k<=j->j < k+c->m≠sname j)->fget fs' m=fget fs m
  | 0,k,o,a,fs,hr=>.inr ⟨o,a,fs,rfl,id,hr,fun j h1 h2=>by omega,fun m _=>rfl⟩
  | c+1,k,o,a,fs,hr=>by
    rw [undo]
    by_cases a1:a=1
    · subst a1;left
      rw [remove_fall hu]
      exact ⟨Nat.le_refl _,undo_down _ _ _ rfl⟩
    have hrm:((dk d o a fs).remove (sname k)).1=dk d (nx o) (a - 1) (fdel fs (sname k)):=by
      cases hf:fget fs (sname k) with
      | none=>rw [remove_none hu o a fs a1 hf]
      | some f=>rw [remove_up hu o a fs a1 hf]
    rw [hrm]
    rcases undo_go hu c (k+1) (nx o) (a - 1) (fdel fs (sname k)) (rising_fdel hr _) with ⟨h1,h2⟩ | ⟨o',a',f',h1,h2,h3,h4,h5⟩
    · exact .inl ⟨by omega,h2⟩
    · refine .inr ⟨o',a',f',h1,fun e=>h2 (by omega),h3,fun j j1 j2=>?_,fun m hm=>?_⟩
      · by_cases e:j=k
        · subst e
          rw [h5 _ (fun i i1 i2 c=>by have:=sname_inj c;omega),fget_fdel,if_pos rfl]
        · exact h4 j (by omega) (by omega)
      · rw [h5 m (fun i i1 i2=>hm i (by omega) (by omega)),fget_fdel,if_neg (hm k (Nat.le_refl _) (by omega))]
/-- shards 0 to i are there, over what was there -/
structure Made (n s:Int) (es:List E) (u:Nat) (fs0:Fs) (i:Nat) (fs:Fs):Prop where
  free:Free fs i u
  get:∀ j,j < i->fget fs (sname j)=some ⟨FB (rows n s es j),FB (rows n s es j)⟩
  off:∀ m,(∀ j,j < i->m≠sname j)->fget fs m=fget fs0 m
  used:Dk.used fs<=Dk.used fs0+2*cum n s es i
  len:fs.length=fs0.length+i
theorem Made.start {n s:Int} {es:List E} {u:Nat} {fs0:Fs} (h:Free fs0 0 u):Made n s es u fs0 0 fs0:=⟨h,fun j hj=>absurd hj (Nat.not_lt_zero _),fun m _=>rfl,Nat.le_add_right _ _,rfl⟩
theorem Made.step {n s:Int} {es:List E} {u:Nat} {fs0 fs:Fs} {i:Nat} (hi:i < u) (h:Made n s es u fs0 i fs):Made n s es u fs0 (i+1) (Dk.fput fs (sname i) ⟨FB (rows n s es i),FB (rows n s es i)⟩):=by
  have hno:=h.free.shard i (Nat.le_refl _) hi
  refine ⟨h.free.step _,fun j hj=>?_,fun m hm=>?_,?_,?_⟩
  · rw [fget_fput]
    by_cases e:j=i
    · rw [e,if_pos rfl]
    · rw [if_neg (fun c=>e (sname_inj c))];exact h.get j (by omega)
  · rw [fget_fput,if_neg (hm i (by omega))];exact h.off m fun j hj=>hm j (by omega)
  · rw [used_fput_new hno,sec_FBn,rows_len]
    have h1:=secN_le (mine n s i es).length
    have h2:=h.used
    have h3:=cum_succ n s es i
    omega
  · rw [Xs.fput_len hno,h.len];omega
section
variable {d:Disk} (hu:d.down=false) {n s:Int} {es:List E} (h32:E32 es) {budget:Int} (hb1:1<=budget)
include hu h32 hb1
theorem builds_go (hlen:es.length<=1000000) {u:Nat} {fs0:Fs} (hF0:Free fs0 0 u):∀ (k i:Nat) (o:Int) (a:Nat) (fs:Fs),i+k < 5000->i+k<=u->Made n s es u fs0 i fs->
    (1<=a/\(builds n s es budget k i (dk d o a fs)).1.down=true/\(((builds n s es budget k i (dk d o a fs)).2=7/\∃o' f',(builds n s es budget k i (dk d o a fs)).1=dn d o' f')\/((builds n s es budget k i (dk d o a fs)).2=6/\d.room < used fs0+6*es.length)))\/
    (∃o' a',(builds n s es budget k i (dk d o a fs))=(dk d o' a' fs0,6)/\(a=0->a'=0)/\d.room < used fs0+6*es.length)\/
    ∃o' a' fs',builds n s es budget k i (dk d o a fs)=(dk d o' a' fs',0)/\(a=0->a'=0)/\Made n s es u fs0 (i+k) fs'
  | 0,i,o,a,fs,_,_,hM=>.inr (.inr ⟨o,a,fs,rfl,id,hM⟩)
  | k+1,i,o,a,fs,hk,hku,hM=>by
    have hU:=hM.used
    have h3:=cum_succ n s es i
    have h4:=cum_le n s es (i+1)
    rw [builds]
    rcases one_go hu h32 hb1 (n:=n) (s:=s) (i:=i) (by omega) (by omega) hlen hM.free o a with ⟨h1,h2,h5⟩ | ⟨o',a',h1,h2,h5,h6⟩ | ⟨o',a',h1,h2⟩
    · left
      rw [if_pos (by rcases h5 with ⟨h5,_⟩ | ⟨h5,_⟩<;>rw [h5]<;>decide)]
      refine ⟨h1,undo_down _ _ _ h2,?_⟩
      rcases h5 with ⟨h5,o3,f3,h7⟩ | ⟨h5,h6⟩
      · obtain ⟨o4,h8⟩:=undo_dn d i 0 o3 f3
        exact .inl ⟨h5,o4,f3,by rw [h7];exact h8⟩
      · exact .inr ⟨h5,by omega⟩
    · rw [if_pos (by rw [h5];decide),h1,h5]
      rcases undo_go hu i 0 o' a' fs hM.free.ris with ⟨q1,q2⟩ | ⟨o2,a2,f2,q1,q2,q3,q4,q5⟩
      · exact .inl ⟨by omega,q2,.inr ⟨rfl,by omega⟩⟩
      · right;left
        rw [q1,show f2=fs0 from files_ext q3 hF0.ris fun m=>by
          by_cases e:∃j,j < i/\m=sname j
          · obtain ⟨j,j2,j3⟩:=e
            rw [j3,q4 j (Nat.zero_le _) (by omega)]
            exact (hF0.shard j (Nat.zero_le _) (by omega)).symm
          · rw [q5 m fun j _ j2 c=>e ⟨j,by omega,c⟩]
            exact hM.off m fun j hj c=>e ⟨j,hj,c⟩]
        exact ⟨o2,a2,rfl,fun c=>q2 (h2 c),by omega⟩
    · rw [h1,if_neg (by simp)]
      rcases builds_go hlen hF0 k (i+1) o' a' _ (by omega) (by omega) (hM.step (by omega)) with ⟨q1,q2,q3⟩ | ⟨o2,a2,q1,q2,q3⟩ | ⟨o2,a2,f2,q1,q2,q3⟩
      · exact .inl ⟨by omega,q2,q3⟩
      · exact .inr (.inl ⟨o2,a2,q1,fun c=>q2 (h2 c),q3⟩)
      · exact .inr (.inr ⟨o2,a2,f2,q1,fun c=>q2 (h2 c),by rw [show i+(k+1)=i+1+k from by omega];exact q3⟩)
end
/-! ### all edges, once each -/
theorem mine_perm (n s:Int) (es:List E):∀ i,((List.range i).flatMap fun j=>mine n s j es).Perm (es.filter fun e=>decide (ofv n s e.t < i))
  | 0=>by simp
  | i+1=>by
    rw [List.range_succ,List.flatMap_append]
    have ih:=mine_perm n s es i
    have h:=List.filter_append_perm (fun e=>decide (ofv n s e.t < i)) (es.filter fun e:E=>decide (ofv n s e.t < i+1))
    rw [List.filter_filter,List.filter_filter] at h
    refine List.Perm.trans ?_ h
    refine (ih.append (List.Perm.refl _)).trans ?_
    rw [List.flatMap_singleton]
    unfold mine
    refine List.Perm.of_eq ?_
    congr 1
    · refine List.filter_congr fun e _=>?_
      rw [<-Bool.decide_and];exact decide_eq_decide.2 (by omega)
    · refine List.filter_congr fun e _=>?_
      rw [<-decide_not,<-Bool.decide_and];exact decide_eq_decide.2 (by omega)
theorem ofv_lt {n s v:Int} (h:Oc.part n s=true) (h0:0<=v) (h1:v < n):ofv n s v < s.toNat:=by
  unfold ofv
  simp only [Oc.part,decide_eq_true_eq] at h
  rw [if_neg (by simp only [Oc.part,not_or,Bool.not_eq_false,decide_eq_true_eq];omega)]
  have hs:s.toNat≠0:=by omega
  have key:(List.range s.toNat).findIdx (fun (i:Nat)=>decide (v < bnd n s ((i:Int)+1))) < (List.range s.toNat).length:=by
    rw [List.findIdx_lt_length]
    refine ⟨s.toNat - 1,List.mem_range.2 (by omega),decide_eq_true ?_⟩
    unfold bnd
    rw [show (((s.toNat - 1:Nat):Int)+1)=s from by omega,Int.mul_ediv_cancel_left _ (by omega)]
    exact h1
  rwa [List.length_range] at key
theorem all_perm {n s:Int} {es:List E} (h:Oc.part n s=true) (hg:Tr.graph n es=true):((List.range s.toNat).flatMap fun j=>mine n s j es).Perm es:=by
  refine (mine_perm n s es s.toNat).trans (List.Perm.of_eq (List.filter_eq_self.2 fun e he=>decide_eq_true ?_))
  simp only [Tr.graph,decide_eq_true_eq] at hg
  exact ofv_lt h (by omega) (hg.2.2.2 e he).2
end Go.Cg.Sh
end
section
namespace Go.Cg.Sh
set_option linter.unusedVariables false
set_option linter.unusedSimpArgs false
open Go.Cg.Dk Go.Cg.Cl Go.Cg.Xs
open Go.Cg.Rn hiding HeapOk MInv NextP UpEx DnEx lst
open Go.Cg.Tr (E)

def All2 {α β:Type} (p:α->β->Prop):List α->List β->Prop
  | [],[]=>True
  | a::l,b::m=>p a b/\All2 p l m
  | _,_=>False
theorem All2.snoc {α β:Type} {p:α->β->Prop} {x:α} {y:β} (h:p x y):∀ {l:List α} {m:List β},All2 p l m->All2 p (l++[x]) (m++[y])
  | [],[],_=>⟨h,trivial⟩
  | _::_,_::_,k=>⟨k.1,All2.snoc h k.2⟩
  | [],_::_,k=>k.elim
  | _::_,[],k=>k.elim
theorem All2.len {α β:Type} {p:α->β->Prop}:∀ {l:List α} {m:List β},All2 p l m->l.length=m.length
  | [],[],_=>rfl
  | _::_,_::_,k=>congrArg (·+1) (All2.len k.2)
  | [],_::_,k=>k.elim
  | _::_,[],k=>k.elim
/-! ### sorted by where edges come from -/
def frm (r:R):Nat:=(unpack r).f
theorem drop_filter {b:Int}:∀ {l:List R},(l.Pairwise fun x y=>frm x<=frm y)->l.dropWhile (fun r=>decide ((frm r:Int) < b))=l.filter fun r=>decide (b<=(frm r:Int))
  | [],_=>rfl
  | x::l,h=>by
    have h2:=List.pairwise_cons.1 h
    rw [List.dropWhile_cons,List.filter_cons]
    by_cases e:(frm x:Int) < b
    · rw [if_pos (decide_eq_true e),if_neg (by simp;omega)];exact drop_filter h2.2
    · rw [if_neg (by simp;omega),if_pos (by simp;omega)]
      congr 1
      exact (List.filter_eq_self.2 fun y hy=>by have:=h2.1 y hy;simp;omega).symm
theorem take_filter {b:Int}:∀ {l:List R},(l.Pairwise fun x y=>frm x<=frm y)->l.takeWhile (fun r=>decide ((frm r:Int) < b))=l.filter fun r=>decide ((frm r:Int) < b)
  | [],_=>rfl
  | x::l,h=>by
    have h2:=List.pairwise_cons.1 h
    rw [List.takeWhile_cons,List.filter_cons]
    by_cases e:(frm x:Int) < b
    · rw [if_pos (decide_eq_true e),if_pos (decide_eq_true e),take_filter h2.2]
    · rw [if_neg (by simp;omega),if_neg (by simp;omega)]
      exact (List.filter_eq_nil_iff.2 fun y hy=>by have:=h2.1 y hy;simp;omega).symm
/-- what is left of a row when j windows are gone -/
def left (n s:Int) (l:List R) (j:Nat):List R:=l.filter fun r=>decide (∀ i,i < j->bnd n s ((i:Int)+1)<=(frm r:Int))
theorem left_zero (n s:Int) (l:List R):left n s l 0=l:=List.filter_eq_self.2 fun r _=>by simp
theorem left_sorted {n s:Int} {l:List R} (h:l.Pairwise fun x y=>frm x<=frm y) (j:Nat):(left n s l j).Pairwise fun x y=>frm x<=frm y:=List.Pairwise.filter _ h
theorem left_succ {n s:Int} {l:List R} (h:l.Pairwise fun x y=>frm x<=frm y) (j:Nat):(left n s l j).dropWhile (fun r=>decide ((frm r:Int) < bnd n s ((j:Int)+1)))=left n s l (j+1):=by
  rw [drop_filter (left_sorted h j)]
  unfold left
  rw [List.filter_filter]
  refine List.filter_congr fun r _=>?_
  rw [<-Bool.decide_and]
  refine decide_eq_decide.2 ⟨fun ⟨h1,h2⟩ i hi=>?_,fun h1=>⟨h1 j (by omega),fun i hi=>h1 i (by omega)⟩⟩
  rcases Nat.lt_or_ge i j with k | k
  · exact h2 i k
  · rw [show i=j from by omega];exact h1
theorem ofv_eq {n s:Int} (h:Oc.part n s=true) {v:Int} (h0:0<=v) (h1:v < n) {j:Nat} (hj:j < s.toNat):ofv n s v=j↔v < bnd n s ((j:Int)+1)/\∀ i,i < j->bnd n s ((i:Int)+1)<=v:=by
  have hlt:=ofv_lt h h0 h1
  have hf:ofv n s v=(List.range s.toNat).findIdx fun (i:Nat)=>decide (v < bnd n s ((i:Int)+1)):=by
    unfold ofv;rw [if_neg (by rw [h];simp;omega)]
  constructor
  · rintro rfl
    rw [hf] at hj ⊢
    have h2:=List.findIdx_getElem (p:=fun (i:Nat)=>decide (v < bnd n s ((i:Int)+1))) (xs:=List.range s.toNat) (w:=by simpa using hj)
    rw [List.getElem_range] at h2
    refine ⟨of_decide_eq_true h2,fun i hi=>?_⟩
    have h3:=List.not_of_lt_findIdx hi
    simp only [List.getElem_range,decide_eq_true_eq] at h3
    simpa using h3
  · rintro ⟨h2,h3⟩
    rcases Nat.lt_trichotomy (ofv n s v) j with k | k | k
    · have h4:=h3 _ k
      rw [hf] at hlt h4
      have h5:=List.findIdx_getElem (p:=fun (i:Nat)=>decide (v < bnd n s ((i:Int)+1))) (xs:=List.range s.toNat) (w:=by simpa using hlt)
      rw [List.getElem_range] at h5
      have:=of_decide_eq_true h5;omega
    · exact k
    · rw [hf] at k
      have h5:=List.not_of_lt_findIdx k
      simp only [List.getElem_range,decide_eq_true_eq] at h5
      exact absurd h2 (by simpa using h5)
theorem win_eq {n s:Int} (hp:Oc.part n s=true) {l:List R} (h:l.Pairwise fun x y=>frm x<=frm y) (hl:∀ r∈l,(frm r:Int) < n) {j:Nat} (hj:j < s.toNat):(left n s l j).takeWhile (fun r=>decide ((frm r:Int) < bnd n s ((j:Int)+1)))=l.filter fun r=>decide (ofv n s (frm r)=j):=by
  rw [take_filter (left_sorted h j)]
  unfold left
  rw [List.filter_filter]
  refine List.filter_congr fun r hr=>?_
  rw [<-Bool.decide_and]
  exact decide_eq_decide.2 (ofv_eq hp (by omega) (hl r hr) hj).symm
/-! ### a shard that is gone through -/
/-- not begun -/
def Fr (fs:Fs) (c:Cur) (l:List R):Prop:=∃f,fget fs c.1.1=some f/\c.1.2.1=f.now.length/\Rds f.now c.1.2.2 l 0/\RsOk f.now.length c.1.2.2
/-- the next edge is there -/
def At (fs:Fs) (c:Cur) (l:List R):Prop:=(l=[]/\c.2.2=false)\/∃r tl,l=r::tl/\c.2.1=unpack r/\c.2.2=true/\Fr fs c tl
section
variable {d:Disk} {r:Nat} {fs:Fs}
theorem moves_up (h:Is d r fs) {c:Cur} {l:List R} (hc:Fr fs c l):∃d' c',moves c d=(d',c',0)/\Is d' r fs/\At fs c' l:=by
  obtain ⟨f,h1,h2,h3,h4⟩:=hc
  have hr:=rnext_pure h.q.up d.ops 0 h1 c.1.2.2
  rw [<-h.self] at hr
  rcases hr with ⟨h5,_⟩ | ⟨o',a',h5,h6⟩
  · omega
  rw [h6 rfl] at h5
  unfold moves
  rw [h2,h5]
  cases l with
  | nil=>
    have h3:pnext f.now c.1.2.2=(c.1.2.2,none,0):=h3
    rw [h3]
    exact ⟨_,_,rfl,h.same o',.inl ⟨rfl,rfl⟩⟩
  | cons x tl=>
    obtain ⟨s',k1,k2⟩:=h3
    have hk:=pnext_ok h4
    rw [k1] at hk ⊢
    exact ⟨_,_,rfl,h.same o',.inr ⟨x,tl,rfl,rfl,rfl,f,h1,rfl,k2,hk.1⟩⟩
theorem At.small {c:Cur} {l:List R} (h:At fs c l):l.length<=cleft c:=by
  rcases h with ⟨rfl,_⟩ | ⟨x,tl,rfl,_,_,f,h1,h2,h3,h4⟩
  · exact Nat.zero_le _
  · have:=rds_len tl _ h4 h3
    unfold cleft;rw [h2,List.length_cons];omega
theorem take1_up (e:Int):∀ (k:Nat) (c:Cur) (l:List R) (out:List E) (d:Disk),Is d r fs->At fs c l->l.length < k->
    ∃d' c',take1 e k c out d=(d',c',out++(l.takeWhile fun x=>decide ((frm x:Int) < e)).map unpack,0)/\Is d' r fs/\At fs c' (l.dropWhile fun x=>decide ((frm x:Int) < e))
  | 0,_,_,_,_,_,_,hk=>absurd hk (Nat.not_lt_zero _)
  | k+1,c,l,out,d,h,hc,hk=>by
    rw [take1]
    rcases hc with ⟨rfl,h1⟩ | ⟨x,tl,rfl,h1,h2,h3⟩
    · rw [if_neg (by rw [h1];simp)]
      exact ⟨d,c,by simp,h,.inl ⟨rfl,h1⟩⟩
    · have hfx:((c.2.1.f:Nat):Int)=(frm x:Int):=by rw [h1];rfl
      rw [List.takeWhile_cons,List.dropWhile_cons]
      by_cases e1:(frm x:Int) < e
      · rw [if_pos ⟨h2,by rw [hfx];exact e1⟩,if_pos (decide_eq_true e1),if_pos (decide_eq_true e1)]
        obtain ⟨d1,c1,k1,k2,k3⟩:=moves_up h h3
        rw [k1,if_neg (by simp)]
        obtain ⟨d2,c2,j1,j2,j3⟩:=take1_up e k c1 tl (out++[c.2.1]) d1 k2 k3 (by simpa using hk)
        exact ⟨d2,c2,by rw [j1,h1];simp,j2,j3⟩
      · rw [if_neg (by rw [hfx];exact fun c=>e1 c.2),if_neg (by simpa using e1),if_neg (by simpa using e1)]
        exact ⟨d,c,by simp,h,.inr ⟨x,tl,rfl,h1,h2,h3⟩⟩
theorem window_up (e:Int) (b:Bool):∀ (cs done:List Cur) (ls:List (List R)) (out:List E) (d:Disk),Is d r fs->All2 (if b then At fs else Fr fs) cs ls->
    ∃d' cs',window e b done cs out d=(d',done++cs',out++ls.flatMap fun l=>(l.takeWhile fun x=>decide ((frm x:Int) < e)).map unpack,0)/\Is d' r fs/\All2 (At fs) cs' (ls.map fun l=>l.dropWhile fun x=>decide ((frm x:Int) < e))
  | [],done,[],out,d,h,_=>⟨d,[],by simp [window],h,trivial⟩
  | [],_,_::_,_,_,_,hc=>hc.elim
  | _::_,_,[],_,_,_,hc=>hc.elim
  | c::cs,done,l::ls,out,d,h,hc=>by
    obtain ⟨h1,h2⟩:=hc
    obtain ⟨d1,c1,k1,k2,k3,k4⟩:∃d1 c1,(if b then c else (moves c d).2.1)=c1/\(if b then d else (moves c d).1)=d1/\Is d1 r fs/\At fs c1 l/\¬ (b=false/\(moves c d).2.2≠0):=by
      cases b with
      | true=>exact ⟨d,c,rfl,rfl,h,h1,by simp⟩
      | false=>
        obtain ⟨d1,c1,j1,j2,j3⟩:=moves_up h h1
        exact ⟨d1,c1,by rw [j1];rfl,by rw [j1];rfl,j2,j3,by rw [j1];simp⟩
    obtain ⟨k4,k5⟩:=k4
    obtain ⟨d2,c2,j1,j2,j3⟩:=take1_up e (cleft c1+1) c1 l out d1 k3 k4 (by have:=k4.small;omega)
    obtain ⟨d3,cs3,q1,q2,q3⟩:=window_up e b cs (done++[c2]) ls (out++(l.takeWhile fun x=>decide ((frm x:Int) < e)).map unpack) d2 j2 h2
    rw [window,if_neg k5]
    simp only
    rw [k1,k2,j1,if_neg (by simp)]
    simp only
    rw [q1]
    exact ⟨d3,c2::cs3,by simp,q2,j3,q3⟩
end
/-! ### a sweep -/
structure SwAt (n s:Int) (fs:Fs) (ls:List (List R)) (j:Nat) (w:Sw):Prop where
  en:w.ends=ends n s
  at_:w.at_=j
  err:w.err=0
  bg:w.begun=decide (0 < j)
  cs:All2 (if decide (0 < j) then At fs else Fr fs) w.l (ls.map fun l=>left n s l j)
def win (n s:Int) (ls:List (List R)) (j:Nat):List E:=ls.flatMap fun l=>(l.filter fun r=>decide (ofv n s (frm r)=j)).map unpack
theorem ends_len (n s:Int):(ends n s).length=s.toNat:=by simp [ends]
theorem next_end {n s:Int} {fs:Fs} {ls:List (List R)} {w:Sw} (h:SwAt n s fs ls s.toNat w) (d:Disk):next w d=(d,w,[],false,0):=by
  unfold next
  rw [if_pos (.inr (by rw [h.at_,h.en,ends_len])),h.err]
theorem next_up {d:Disk} {r:Nat} {fs:Fs} {n s:Int} (hp:Oc.part n s=true) {ls:List (List R)} (hs:∀ l∈ls,l.Pairwise fun x y=>frm x<=frm y) (hn:∀ l∈ls,∀ r∈l,(frm r:Int) < n) {j:Nat} (hj:j < s.toNat) {w:Sw} (h:Is d r fs) (hw:SwAt n s fs ls j w):
    ∃d' w',next w d=(d',w',win n s ls j,true,0)/\Is d' r fs/\SwAt n s fs ls (j+1) w':=by
  have hcs:=hw.cs
  rw [<-hw.bg] at hcs
  obtain ⟨d1,cs1,k1,k2,k3⟩:=window_up (r:=r) (bnd n s ((j:Int)+1)) w.begun w.l [] (ls.map fun l=>left n s l j) [] d h hcs
  have he:w.ends.getD w.at_ 0=bnd n s ((j:Int)+1):=by
    rw [hw.en,hw.at_];unfold ends
    rw [List.getD_eq_getElem?_getD,List.getElem?_map,List.getElem?_range hj];rfl
  unfold next
  rw [if_neg (by rw [hw.err,hw.at_,hw.en,ends_len];omega)]
  simp only
  rw [he,k1,if_neg (by simp)]
  simp only [List.nil_append]
  refine ⟨_,_,Prod.ext rfl (Prod.ext rfl (Prod.ext ?_ rfl)),k2,hw.en,by rw [<-hw.at_],rfl,by simp,?_⟩
  · show (ls.map fun l=>left n s l j).flatMap _=win n s ls j
    unfold win
    rw [List.flatMap_map]
    refine congrArg List.flatten (List.map_congr_left fun l hl=>?_)
    rw [win_eq hp (hs l hl) (hn l hl) hj]
  · rw [if_pos (by simp)]
    have:(ls.map fun l=>left n s l (j+1))=(ls.map fun l=>left n s l j).map fun l=>l.dropWhile fun x=>decide ((frm x:Int) < bnd n s ((j:Int)+1)):=by
      rw [List.map_map]
      exact List.map_congr_left fun l hl=>(left_succ (hs l hl) j).symm
    rw [this];exact k3
theorem opens_up {r:Nat} {fs:Fs} {ls:List (List R)}:∀ (k i:Nat) (cs:List Cur) (d:Disk),Is d r fs->All2 (Fr fs) cs (ls.take i)->i+k=ls.length->(∀ j,j < ls.length->fget fs (sname j)=some ⟨FB (ls.getD j []),FB (ls.getD j [])⟩/\Bd (ls.getD j []))->
    ∃d' cs',opens k i cs d=(d',cs',0)/\Is d' r fs/\All2 (Fr fs) cs' ls
  | 0,i,cs,d,h,hc,hi,_=>⟨d,cs,rfl,h,by rw [List.take_of_length_le (by omega)] at hc;exact hc⟩
  | k+1,i,cs,d,h,hc,hi,hf=>by
    obtain ⟨g1,g2⟩:=hf i (by omega)
    have hs:=size_up h.q.up d.ops 0 fs (by decide) g1
    rw [<-h.self] at hs
    rw [opens,hs,if_neg (by simp)]
    refine opens_up k (i+1) _ _ (h.same _) ?_ (by omega) hf
    rw [List.take_succ_eq_append_getElem (by omega)]
    refine All2.snoc ?_ hc
    rw [List.getD_eq_getElem?_getD,List.getElem?_eq_getElem (by omega)] at g1 g2
    exact ⟨_,g1,by rw [List.getD_eq_getElem?_getD,List.getElem?_eq_getElem (by omega)],rds_FB g2,RsOk.start _⟩
theorem newSweep_up {d:Disk} {r:Nat} {fs:Fs} {n s:Int} (hp:Oc.part n s=true) {ls:List (List R)} (hl:ls.length=s.toNat) (h:Is d r fs) (hf:∀ j,j < ls.length->fget fs (sname j)=some ⟨FB (ls.getD j []),FB (ls.getD j [])⟩/\Bd (ls.getD j [])):
    ∃d' w,newSweep n s d=(d',some w,0)/\Is d' r fs/\SwAt n s fs ls 0 w:=by
  obtain ⟨d1,cs,k1,k2,k3⟩:=opens_up s.toNat 0 [] d h (by rw [List.take_zero];trivial) (by omega) hf
  unfold newSweep
  rw [if_neg (by rw [hp];simp),k1,if_neg (by simp)]
  refine ⟨_,_,rfl,k2,rfl,rfl,rfl,rfl,?_⟩
  rw [if_neg (by decide)]
  have:(ls.map fun l=>left n s l 0)=ls:=by
    conv=>rhs;rw [<-List.map_id ls]
    exact List.map_congr_left fun l _=>left_zero n s l
  rw [this];exact k3
theorem opens_none {r:Nat} {fs:Fs} {ls:List (List R)} {m:Nat} (hm:fget fs (sname m)=none):∀ (k i:Nat) (cs:List Cur) (d:Disk),Is d r fs->i<=m->m < i+k->(∀ j,j < m->∃f,fget fs (sname j)=some f)->
    ∃d' cs',opens k i cs d=(d',cs',4)/\Is d' r fs
  | 0,i,cs,d,h,h1,h2,_=>by omega
  | k+1,i,cs,d,h,h1,h2,hf=>by
    rcases Nat.lt_or_ge i m with hi | hi
    · obtain ⟨f,g1⟩:=hf i hi
      have hs:=size_up h.q.up d.ops 0 fs (by decide) g1
      rw [<-h.self] at hs
      rw [opens,hs,if_neg (by simp)]
      exact opens_none (ls:=ls) hm k (i+1) _ _ (h.same _) (by omega) (by omega) hf
    · have e:i=m:=by omega
      subst e
      have hs:=size_none h.q.up d.ops 0 fs (by decide) hm
      rw [<-h.self] at hs
      rw [opens,hs,if_pos (by simp)]
      exact ⟨_,_,rfl,h.same _⟩
end Go.Cg.Sh
end
section
namespace Go.Cg.Sh
set_option linter.unusedVariables false
set_option linter.unusedSimpArgs false
open Go.Cg.Dk Go.Cg.Cl Go.Cg.Xs
open Go.Cg.Rn hiding HeapOk MInv NextP UpEx DnEx lst
open Go.Cg.Tr (E)

/-! ### counts -/
theorem split_size {n s:Int} {es:List E} {i:Nat} (hi:i < 5000) {d:Disk} (hok:d.Ok) (hp:fget d.files (pname i)=none\/True) (h:(split n s es i d).2=0):((split n s es i d).1.size (pname i)).2.1<=17*(mine n s i es).length+6:=by
  obtain ⟨L,hL⟩:∃L,L=(mine n s i es).map pack:=⟨_,rfl⟩
  have hLl:L.length=(mine n s i es).length:=by rw [hL,List.length_map]
  unfold split at h ⊢
  rw [<-hL] at h ⊢
  have hup:d.down=false:=by
    cases hd:d.down with
    | false=>rfl
    | true=>
      exfalso
      have hc:(d.create (pname i)).2=7:=by
        unfold Disk.create;simp only;rw [if_pos (begin_down hd)]
      rw [Rn.write_bad (by rw [hc];decide),hc] at h
      cases h
  have hnone:fget d.files (pname i)=none:=by
    cases hf:fget d.files (pname i) with
    | none=>rfl
    | some f=>
      exfalso
      have hc:(d.create (pname i)).2≠0:=by
        by_cases a1:d.armed=1
        · have:=create_fall (d:=d) hup d.ops d.files (n:=pname i)
          rw [<-a1,mk_self] at this;rw [this];simp
        · have hb:=mk_begin hup d.ops d.armed d.files a1
          rw [mk_self] at hb
          unfold Disk.create;simp only
          rw [hb,if_neg (by rw [mk_down hup];decide),if_neg (by rw [pname_may (by omega)];decide),if_pos (by show (fget d.files (pname i)).isSome=true;rw [hf];rfl)]
          simp
      rw [Rn.write_bad hc] at h
      exact hc h
  have hw:=write_all hup d.ops d.armed hok.ris (pname_may (i:=i) (by omega)) hnone L
  rw [mk_self] at hw
  have hlen:(FB L).length<=17*L.length+6:=by rw [FB_len];split<;>omega
  rcases hw with ⟨_,o',f',h1,_⟩ | ⟨o',a',f',h1,_⟩ | ⟨o',a',f',h1,_,_,h2,_⟩
  · rw [h1] at h;cases h
  · rw [h1] at h;cases h
  · rw [h1]
    simp only
    by_cases a1:a'=1
    · rw [a1,size_fall hup];exact Nat.zero_le _
    · rw [size_up hup _ _ _ a1 (f:=⟨FB L,FB L⟩) (by rw [h2,if_pos rfl])]
      simp only;omega
theorem oneB_cnt {n s:Int} {es:List E} {budget:Int} {i:Nat} (hi:i < 5000) {d:Disk} (hok:d.Ok):(oneB n s es budget i d).1.files.length<=d.files.length+4*(mine n s i es).length+5:=by
  have hw:(split n s es i d).1.files.length<=d.files.length+1:=write_cnt _ _ _
  unfold oneB
  split
  · omega
  · rename_i h
    have hs:=sort_cnt (nin:=pname i) (out:=sname i) (temp:=nRun) (b:=budget) (fan:=4) (how:=0) (split n s es i d).1
    have hz:=split_size hi hok (.inr trivial) (show (split n s es i d).2=0 by omega)
    simp only;omega
theorem one_cnt {n s:Int} {es:List E} {budget:Int} {i:Nat} (hi:i < 5000) {d:Disk} (hok:d.Ok):(one n s es budget i d).1.files.length<=d.files.length+4*(mine n s i es).length+5:=by
  have h1:=oneB_cnt (n:=n) (s:=s) (es:=es) (budget:=budget) hi hok
  have h2:=len_remove (oneB n s es budget i d).1 (pname i)
  unfold one;simp only;omega
/-! ### a disk that is up -/
theorem is_keep {d:Disk} {r:Nat} {fs fs':Fs} (h:Is d r fs) (o:Int) (ris:rising fs') (fine:∀ m f,fget fs' m=some f->f.syn.length<=f.now.length) (nam:∀ m f,fget fs' m=some f->m.length<=24) (us:used fs'<=r):Is (dk d o 0 fs') r fs':=
  ⟨⟨⟨ris,fun p hp=>fine _ _ (fget_of_mem ris hp),by show used fs'<=d.room;rw [h.rm];exact us,h.q.ok.room,Nat.zero_le _,fun p hp=>nam _ _ (fget_of_mem ris hp)⟩,h.q.up,rfl⟩,h.rm,rfl⟩
theorem Made.nam {n s:Int} {es:List E} {u i:Nat} {fs0 fs:Fs} (h:Made n s es u fs0 i fs) (hi:i < 5000) (h0:∀ m f,fget fs0 m=some f->m.length<=24):∀ m f,fget fs m=some f->m.length<=24:=fun m f hf=>by
  by_cases e:∃j,j < i/\m=sname j
  · obtain ⟨j,j1,rfl⟩:=e
    exact may_len (by rw [sname_may (by omega)];decide)
  · rw [h.off m fun j hj c=>e ⟨j,hj,c⟩] at hf;exact h0 m f hf
theorem Made.one {n s:Int} {es:List E} {u u' i:Nat} {fs0 fs1 fs2:Fs} (h1:Made n s es u fs0 i fs1) (h2:Made n s es u' fs0 i fs2):fs1=fs2:=files_ext h1.free.ris h2.free.ris fun m=>by
  by_cases e:∃j,j < i/\m=sname j
  · obtain ⟨j,j1,rfl⟩:=e
    rw [h1.get j j1,h2.get j j1]
  · rw [h1.off m fun j hj c=>e ⟨j,hj,c⟩,h2.off m fun j hj c=>e ⟨j,hj,c⟩]
theorem part_le {n s:Int} (h:Oc.part n s=true):0<=n/\n<=1048576/\1<=s/\s<=4096:=by simpa only [Oc.part,decide_eq_true_eq] using h
section
variable {d:Disk} {r:Nat} {fs0:Fs} (h:Is d r fs0) {n s:Int} {es:List E} (hp:Oc.part n s=true) (hg:Tr.graph n es=true) (h32:E32 es) {budget:Int} (hb1:1<=budget)
include h hp hg h32 hb1
theorem build_two {u:Nat} (hF:Free fs0 0 u) (hu:s.toNat<=u) (hlen:es.length<=1000000):
    (∃d',build n s es budget d=(d',6)/\Is d' r fs0/\r < used fs0+6*es.length)\/∃d' fs',build n s es budget d=(d',0)/\Made n s es u fs0 s.toNat fs'/\d'.files=fs'/\(used fs'<=r\/d'.Ok->Is d' r fs'):=by
  have hpl:=part_le hp
  have hb:build n s es budget d=builds n s es budget s.toNat 0 d:=by unfold build;rw [if_neg (by rw [hp,hg];simp;omega)]
  have hs:=builds_go h.q.up h32 hb1 (n:=n) (s:=s) hlen hF s.toNat 0 d.ops 0 fs0 (by omega) (by omega) (Made.start hF)
  rw [<-h.self] at hs
  rw [hb]
  rcases hs with ⟨h1,_⟩ | ⟨o',a',h1,h2,h3⟩ | ⟨o',a',f',h1,h2,h3⟩
  · omega
  · rw [h2 rfl] at h1
    exact .inl ⟨_,h1,h.same o',by have:=h.rm;omega⟩
  · rw [h2 rfl] at h1
    rw [Nat.zero_add] at h3
    refine .inr ⟨_,f',h1,h3,rfl,fun hk=>?_⟩
    rcases hk with hk | hk
    · refine is_keep h o' h3.free.ris h3.free.fine (h3.nam (by omega) fun m f hf=>?_) hk
      have:=h.q.ok.nam
      rw [h.fl] at this
      exact this _ (mem_of_fget hf)
    · exact ⟨⟨hk,h.q.up,rfl⟩,h.rm,rfl⟩
theorem build_up {u:Nat} (hF:Free fs0 0 u) (hu:s.toNat<=u) (hlen:es.length<=1000000) (hr:used fs0+6*es.length<=r):∃d' fs',build n s es budget d=(d',0)/\Made n s es u fs0 s.toNat fs'/\Is d' r fs':=by
  rcases build_two h hp hg h32 hb1 hF hu hlen with ⟨_,_,_,h3⟩ | ⟨d',f',h1,h2,_,h4⟩
  · omega
  · have h5:=h2.used
    have h6:=cum_le n s es s.toNat
    exact ⟨d',f',h1,h2,h4 (.inl (by omega))⟩
end
theorem Free.nil (u:Nat):Free [] 0 u:=⟨List.Pairwise.nil,fun m f hf=>(nomatch hf),fun _=>rfl,fun _=>rfl,fun _ _ _=>rfl⟩
/-! ### what shards, and windows, have -/
def edgesOf (n s:Int) (es:List E) (i:Nat):List E:=(rows n s es i).map unpack
def lsOf (n s:Int) (es:List E):List (List R):=(List.range s.toNat).map (rows n s es)
def winOf (n s:Int) (es:List E) (j:Nat):List E:=win n s (lsOf n s es) j
theorem rows_bd {n s:Int} {es:List E} (h:E32 es) (i:Nat):Bd (rows n s es i):=sorted_bd (pack_bd (h.mine n s i))
theorem frm_eq {x:R} (h:x.1 < 18446744073709551616):frm x=x.1 / 4294967296:=by unfold frm unpack;simp only;omega
theorem rows_up {n s:Int} {es:List E} (h:E32 es) (i:Nat):(rows n s es i).Pairwise fun x y=>frm x<=frm y:=by
  have hb:=rows_bd (n:=n) (s:=s) h i
  have hu:Up (rows n s es i):=by unfold rows;rw [fold_zero];exact sort_up _
  refine (List.pairwise_iff_getElem.2 fun a b ha hb2 hab=>?_)
  have h1:=List.pairwise_iff_getElem.1 hu a b ha hb2 hab
  rw [ltb_not] at h1
  rw [frm_eq (hb _ (List.getElem_mem ha)).1,frm_eq (hb _ (List.getElem_mem hb2)).1]
  exact Nat.div_le_div_right (by omega)
theorem edges_perm {n s:Int} {es:List E} (h:E32 es) (i:Nat):(edgesOf n s es i).Perm (mine n s i es):=by
  unfold edgesOf rows
  rw [fold_zero]
  refine ((sort_perm _).map unpack).trans ?_
  rw [List.map_map]
  refine List.Perm.of_eq ?_
  conv=>rhs;rw [<-List.map_id (mine n s i es)]
  exact List.map_congr_left fun e he=>unpack_pack (h.mine n s i e he)
theorem rows_lt {n s:Int} {es:List E} (h:E32 es) (hg:Tr.graph n es=true) (i:Nat):∀ x∈rows n s es i,(frm x:Int) < n:=by
  intro x hx
  have h1:unpack x∈edgesOf n s es i:=List.mem_map_of_mem hx
  have h2:=(List.mem_filter.1 ((edges_perm h i).mem_iff.1 h1)).1
  simp only [Tr.graph,decide_eq_true_eq] at hg
  exact (hg.2.2.2 _ h2).1
theorem flat_perm {α β:Type} {f g:α->List β}:∀ {l:List α},(∀ x∈l,(f x).Perm (g x))->(l.flatMap f).Perm (l.flatMap g)
  | [],_=>List.Perm.refl _
  | x::l,h=>by
    simp only [List.flatMap_cons]
    exact (h x List.mem_cons_self).append (flat_perm fun y hy=>h y (List.mem_cons_of_mem _ hy))
theorem own_perm {n s:Int} {es:List E} (h:E32 es) (hp:Oc.part n s=true) (hg:Tr.graph n es=true):((List.range s.toNat).flatMap (edgesOf n s es)).Perm es:=by
  refine List.Perm.trans ?_ (all_perm hp hg)
  exact flat_perm fun i _=>edges_perm h i
theorem flat_add {α β:Type} (f g:α->List β):∀ l:List α,(l.flatMap fun x=>f x++g x).Perm (l.flatMap f++l.flatMap g)
  | []=>List.Perm.refl _
  | x::l=>by
    simp only [List.flatMap_cons]
    refine (List.Perm.append_left _ (flat_add f g l)).trans ?_
    rw [List.append_assoc,List.append_assoc]
    refine List.Perm.append_left _ ?_
    rw [<-List.append_assoc,<-List.append_assoc]
    exact List.Perm.append_right _ List.perm_append_comm
theorem flat_swap {α β γ:Type} (f:α->β->List γ) (m:List α):∀ l:List β,(m.flatMap fun a=>l.flatMap fun b=>f a b).Perm (l.flatMap fun b=>m.flatMap fun a=>f a b)
  | []=>by simp
  | b::l=>by
    simp only [List.flatMap_cons]
    exact (flat_add (fun a=>f a b) (fun a=>l.flatMap fun b=>f a b) m).trans (List.Perm.append_left _ (flat_swap f m l))
theorem parts_perm {α:Type} (q:α->Nat):∀ (k:Nat) (l:List α),((List.range k).flatMap fun j=>l.filter fun x=>decide (q x=j)).Perm (l.filter fun x=>decide (q x < k))
  | 0,l=>by simp
  | k+1,l=>by
    rw [List.range_succ,List.flatMap_append]
    have ih:=parts_perm q k l
    have h:=List.filter_append_perm (fun x=>decide (q x < k)) (l.filter fun x=>decide (q x < k+1))
    rw [List.filter_filter,List.filter_filter] at h
    refine List.Perm.trans ?_ h
    refine (ih.append (List.Perm.refl _)).trans ?_
    rw [List.flatMap_singleton]
    refine List.Perm.of_eq ?_
    congr 1
    · refine List.filter_congr fun e _=>?_
      rw [<-Bool.decide_and];exact decide_eq_decide.2 (by omega)
    · refine List.filter_congr fun e _=>?_
      rw [<-decide_not,<-Bool.decide_and];exact decide_eq_decide.2 (by omega)
theorem win_perm {n s:Int} {es:List E} (h:E32 es) (hp:Oc.part n s=true) (hg:Tr.graph n es=true):((List.range s.toNat).flatMap (winOf n s es)).Perm es:=by
  refine List.Perm.trans ?_ (own_perm h hp hg)
  unfold winOf win lsOf
  refine (flat_swap (fun j (l:List R)=>(l.filter fun r=>decide (ofv n s (frm r)=j)).map unpack) _ _).trans ?_
  rw [List.flatMap_map]
  refine flat_perm fun i _=>?_
  rw [<-List.map_flatMap]
  refine List.Perm.map _ ((parts_perm (fun r:R=>ofv n s (frm r)) s.toNat (rows n s es i)).trans (List.Perm.of_eq (List.filter_eq_self.2 fun r hr=>decide_eq_true ?_)))
  exact ofv_lt hp (by omega) (rows_lt h hg i r hr)
section
variable {n s:Int} {es:List E} {u:Nat} {fs0 fs:Fs} {d:Disk} {r:Nat} (h32:E32 es)
include h32
theorem reads_up {i:Nat} (hM:Made n s es u fs0 i fs) (h:Is d r fs) {j:Nat} (hj:j < i):∃d',reads j d=(d',edgesOf n s es j,0)/\Is d' r fs:=by
  obtain ⟨d',h1,h2⟩:=h.read (hM.get j hj) (rows_bd h32 j)
  refine ⟨d',?_,h2⟩
  unfold reads;rw [h1];rfl
omit h32 in
theorem reads_none (h:Is d r fs) {j:Nat} (hj:fget fs (sname j)=none):∃d',reads j d=(d',[],4)/\Is d' r fs:=by
  have hs:=size_none h.q.up d.ops 0 fs (by decide) hj
  rw [<-h.self] at hs
  refine ⟨dk d (nx d.ops) 0 fs,?_,h.same _⟩
  unfold reads;rw [read_bad (by rw [hs];simp),hs];rfl
theorem sweep_new (hp:Oc.part n s=true) (hM:Made n s es u fs0 s.toNat fs) (h:Is d r fs):∃d' w,newSweep n s d=(d',some w,0)/\Is d' r fs/\SwAt n s fs (lsOf n s es) 0 w:=by
  have hl:(lsOf n s es).length=s.toNat:=by unfold lsOf;simp
  refine newSweep_up hp hl h fun j hj=>?_
  rw [hl] at hj
  have e:(lsOf n s es).getD j []=rows n s es j:=by
    unfold lsOf;rw [List.getD_eq_getElem?_getD,List.getElem?_map,List.getElem?_range hj];rfl
  rw [e]
  exact ⟨hM.get j hj,rows_bd h32 j⟩
theorem sweep_next (hp:Oc.part n s=true) (hg:Tr.graph n es=true) (h:Is d r fs) {j:Nat} (hj:j < s.toNat) {w:Sw} (hw:SwAt n s fs (lsOf n s es) j w):∃d' w',next w d=(d',w',winOf n s es j,true,0)/\Is d' r fs/\SwAt n s fs (lsOf n s es) (j+1) w':=
  next_up hp (fun l hl=>by obtain ⟨i,_,rfl⟩:=List.mem_map.1 hl;exact rows_up h32 i) (fun l hl=>by obtain ⟨i,_,rfl⟩:=List.mem_map.1 hl;exact rows_lt h32 hg i) hj h hw
end
end Go.Cg.Sh
end
section
namespace Go.Cg.Sh
set_option linter.unusedVariables false
set_option linter.unusedSimpArgs false
open Go.Cg.Rn (R Up ltb sort ins)
open Go.Cg.Tr (E)

/-- by where they lead to -/
def pack2 (e:E):R:=(e.t*4294967296+e.f,e.w)
def eins (pk:E->R) (x:E):List E->List E
  | []=>[x]
  | y::l=>if ltb (pk x) (pk y) then x::y::l else y::eins pk x l
def esort (pk:E->R):List E->List E
  | []=>[]
  | x::l=>eins pk x (esort pk l)
/-- edges that are packed to the same are the same -/
def Inj (pk:E->R):Prop:=∀ a b:E,(a.f < 4294967296/\a.t < 4294967296/\a.w < 4294967296)->(b.f < 4294967296/\b.t < 4294967296/\b.w < 4294967296)->pk a=pk b->a=b
theorem pack_inj:Inj pack:=fun a b ha hb h=>by
  obtain ⟨f,t,w⟩:=a;obtain ⟨f',t',w'⟩:=b
  simp only [pack,Prod.mk.injEq] at *
  congr 1<;>omega
theorem pack2_inj:Inj pack2:=fun a b ha hb h=>by
  obtain ⟨f,t,w⟩:=a;obtain ⟨f',t',w'⟩:=b
  simp only [pack2,Prod.mk.injEq] at *
  congr 1<;>omega
theorem map_inj {pk:E->R} (hi:Inj pk):∀ {l m:List E},E32 l->E32 m->l.map pk=m.map pk->l=m
  | [],[],_,_,_=>rfl
  | [],_::_,_,_,h=>by simp at h
  | _::_,[],_,_,h=>by simp at h
  | a::l,b::m,hl,hm,h=>by
    simp only [List.map_cons,List.cons.injEq] at h
    rw [hi a b (hl a List.mem_cons_self) (hm b List.mem_cons_self) h.1,map_inj hi (fun e he=>hl e (List.mem_cons_of_mem _ he)) (fun e he=>hm e (List.mem_cons_of_mem _ he)) h.2]
theorem eins_map (pk:E->R) (x:E):∀ l:List E,(eins pk x l).map pk=ins (pk x) (l.map pk)
  | []=>rfl
  | y::l=>by
    rw [List.map_cons,ins,eins]
    split
    · rfl
    · rw [List.map_cons,eins_map pk x l]
theorem esort_map (pk:E->R):∀ l:List E,(esort pk l).map pk=sort (l.map pk)
  | []=>rfl
  | x::l=>by rw [esort,eins_map,esort_map pk l];rfl
theorem eins_perm (pk:E->R) (x:E):∀ l:List E,(eins pk x l).Perm (x::l)
  | []=>List.Perm.refl _
  | y::l=>by
    rw [eins];split
    · exact List.Perm.refl _
    · exact ((eins_perm pk x l).cons y).trans (List.Perm.swap _ _ _)
theorem esort_perm (pk:E->R):∀ l:List E,(esort pk l).Perm l
  | []=>List.Perm.refl _
  | x::l=>(eins_perm pk x _).trans ((esort_perm pk l).cons x)
theorem E32.perm {l m:List E} (h:E32 l) (p:m.Perm l):E32 m:=fun e he=>h e (p.mem_iff.1 he)
theorem E32.sort {l:List E} (h:E32 l) (pk:E->R):E32 (esort pk l):=h.perm (esort_perm pk l)
theorem E32.take {l:List E} (h:E32 l) (i:Nat):E32 (l.take i):=fun e he=>h e (List.mem_of_mem_take he)
theorem E32.at {l:List E} (h:E32 l) {i:Nat} (hi:i < l.length):(l.getD i e0).f < 4294967296/\(l.getD i e0).t < 4294967296/\(l.getD i e0).w < 4294967296:=by
  rw [List.getD_eq_getElem?_getD,List.getElem?_eq_getElem hi];exact h _ (List.getElem_mem hi)
theorem E32.ins {l:List E} {x:E} (h:E32 l) (hx:x.f < 4294967296/\x.t < 4294967296/\x.w < 4294967296) (pk:E->R):E32 (eins pk x l):=
  fun e he=>(List.mem_cons.1 ((eins_perm pk x l).mem_iff.1 he)).elim (fun c=>c▸hx) (h e)
@[simp] theorem esort_len (pk:E->R) (l:List E):(esort pk l).length=l.length:=(esort_perm pk l).length_eq
theorem esort_up (pk:E->R) (l:List E):Up ((esort pk l).map pk):=by rw [esort_map];exact Rn.sort_up _
/-- one more behind comes to its place -/
theorem esort_snoc {pk:E->R} (hi:Inj pk) {l:List E} {x:E} (h:E32 (l++[x])):eins pk x (esort pk l)=esort pk (l++[x]):=by
  have hl:E32 l:=fun e he=>h e (List.mem_append_left _ he)
  have hx:=h x (List.mem_append_right _ (by simp))
  refine map_inj hi ((hl.sort pk).ins hx pk) (h.sort pk) ?_
  rw [eins_map,esort_map,esort_map,List.map_append,List.map_cons,List.map_nil,Rn.sort_app_one]
theorem take_snocE {l:List E} {i:Nat} (h:i < l.length):l.take (i+1)=l.take i++[l.getD i e0]:=by
  rw [List.take_add_one,List.getElem?_eq_getElem h,List.getD_eq_getElem?_getD,List.getElem?_eq_getElem h];rfl
theorem esort_take {pk:E->R} (hi:Inj pk) {l:List E} (h:E32 l) {i:Nat} (hil:i < l.length):eins pk (l.getD i e0) (esort pk (l.take i))=esort pk (l.take (i+1)):=by
  rw [take_snocE hil]
  exact esort_snoc hi (by rw [<-take_snocE hil];exact h.take _)
theorem esort_one {pk:E->R} (hi:Inj pk) {l m:List E} (hl:E32 l) (h:l.Perm m):esort pk l=esort pk m:=by
  refine map_inj hi (hl.sort pk) ((hl.perm h.symm).sort pk) ?_
  rw [esort_map,esort_map,Rn.sort_of_perm (h.map pk)]
theorem edges_sort {n s:Int} {es:List E} (h:E32 es) (i:Nat):edgesOf n s es i=esort pack (mine n s i es):=by
  unfold edgesOf rows
  rw [Xs.fold_zero,<-esort_map,List.map_map]
  conv=>rhs;rw [<-List.map_id (esort pack (mine n s i es))]
  exact List.map_congr_left fun e he=>unpack_pack (((h.mine n s i).sort pack) e he)
/-! ### one comes to its place, step by step -/
theorem midE_get {l:List E} {g:E} {k j:Nat} (hk:k<=l.length) (hj:j < k):(l.take k++g::l.drop k).getD j e0=l.getD j e0:=by
  rw [List.getD_eq_getElem?_getD,List.getD_eq_getElem?_getD,List.getElem?_append_left (by simp;omega),List.getElem?_take,if_pos hj]
theorem midE_set {l:List E} {g x:E} {k:Nat} (hk:k<=l.length):(l.take k++g::l.drop k).set k x=l.take k++x::l.drop k:=by
  have e:(l.take k).length=k:=by simp;omega
  rw [List.set_append,if_neg (by omega),e,Nat.sub_self];rfl
theorem midE_step {l:List E} {x:E} {k:Nat} (hk:k<=l.length) (h0:0 < k) (hx:x=l.getD (k - 1) e0):l.take k++x::l.drop k=l.take (k - 1)++l.getD (k - 1) e0::l.drop (k - 1):=by
  have e1:l.take k=l.take (k - 1)++[l.getD (k - 1) e0]:=by
    rw [show k=(k - 1)+1 from by omega,List.take_add_one,List.getElem?_eq_getElem (by omega),List.getD_eq_getElem?_getD,List.getElem?_eq_getElem (by omega)];simp
  have e2:l.drop (k - 1)=l.getD (k - 1) e0::l.drop k:=by
    rw [List.drop_eq_getElem_cons (by omega),List.getD_eq_getElem?_getD,List.getElem?_eq_getElem (by omega),show k - 1+1=k from by omega];rfl
  rw [e1,e2,hx];simp
theorem mid_perm {α:Type} (l:List α) (r:α) (k:Nat):(l.take k++r::l.drop k).Perm (r::l):=by
  refine List.perm_middle.trans ?_
  rw [List.take_append_drop]
theorem mid_doneR {l:List R} {r z:R} {k:Nat} (hu:Up l) (hk:k<=l.length) (ha:∀ x∈l.drop k,ltb r x=true) (hb:0 < k->ltb r (l.getD (k - 1) z)=false):l.take k++r::l.drop k=ins r l:=by
  refine Rn.up_one ((mid_perm l r k).trans (Rn.ins_perm r l).symm) ?_ (Rn.ins_up r hu)
  have hu2:Up (l.take k++l.drop k):=by rw [List.take_append_drop];exact hu
  obtain ⟨h1,h2,h3⟩:=List.pairwise_append.1 hu2
  refine List.pairwise_append.2 ⟨h1,List.pairwise_cons.2 ⟨fun x hx=>Rn.ltb_as (ha x hx),h2⟩,fun a hma b hb2=>?_⟩
  rcases List.mem_cons.1 hb2 with rfl | hb2
  · have h0:0 < k:=by
      rcases Nat.eq_zero_or_pos k with h | h
      · subst h;simp at hma
      · exact h
    have hlast:=hb h0
    obtain ⟨j,hj,rfl⟩:=List.getElem_of_mem hma
    have hjk:j < k:=by simp at hj;omega
    rw [List.getElem_take]
    by_cases e:j=k - 1
    · subst e;rw [List.getD_eq_getElem?_getD,List.getElem?_eq_getElem (by omega)] at hlast;exact hlast
    · have h4:=List.pairwise_iff_getElem.1 hu j (k - 1) (by omega) (by omega) (by omega)
      rw [List.getD_eq_getElem?_getD,List.getElem?_eq_getElem (by omega)] at hlast
      exact Rn.ltb_ntr hlast h4
  · exact h3 a hma b hb2
theorem midE_done {pk:E->R} (hi:Inj pk) {l:List E} {x:E} {k:Nat} (h:E32 l) (hx:x.f < 4294967296/\x.t < 4294967296/\x.w < 4294967296) (hu:Up (l.map pk)) (hk:k<=l.length) (ha:∀ y∈l.drop k,ltb (pk x) (pk y)=true) (hb:0 < k->ltb (pk x) (pk (l.getD (k - 1) e0))=false):l.take k++x::l.drop k=eins pk x l:=by
  refine map_inj hi (fun e he=>?_) (h.ins hx pk) ?_
  · rcases List.mem_cons.1 ((mid_perm l x k).mem_iff.1 he) with rfl | he
    · exact hx
    · exact h e he
  · rw [eins_map,List.map_append,List.map_cons,List.map_take,List.map_drop]
    refine mid_doneR (z:=pk e0) hu (by simpa using hk) (fun y hy=>?_) (fun h0=>?_)
    · rw [<-List.map_drop] at hy
      obtain ⟨e,he,rfl⟩:=List.mem_map.1 hy
      exact ha e he
    · have:=hb h0
      rwa [List.getD_eq_getElem?_getD,List.getElem?_map,show (l[k - 1]?.map pk).getD (pk e0)=pk (l[k - 1]?.getD e0) from by cases l[k - 1]? <;>rfl,<-List.getD_eq_getElem?_getD]
/-- which of two edges stands ahead -/
def less (a b:E):Bool:=ltb (pack a) (pack b)
def less2 (a b:E):Bool:=ltb (pack2 a) (pack2 b)
theorem less_eq {a b:E} (ha:a.t < 4294967296) (hb:b.t < 4294967296):less a b=decide (a.f < b.f\/a.f=b.f/\(a.t < b.t\/a.t=b.t/\a.w < b.w)):=by
  unfold less ltb pack;exact decide_eq_decide.2 (by simp only;omega)
theorem less2_eq {a b:E} (ha:a.f < 4294967296) (hb:b.f < 4294967296):less2 a b=decide (a.t < b.t\/a.t=b.t/\(a.f < b.f\/a.f=b.f/\a.w < b.w)):=by
  unfold less2 ltb pack2;exact decide_eq_decide.2 (by simp only;omega)
/-- a place is made -/
theorem shift_step {l:List E} {x:E} {k j:Nat} (hj:k < j) (hjl:j<=l.length) {o:List E} (ho:o=l.take j++(if j=l.length then x else l.getD j e0)::l.drop j):o.set j (o.getD (j - 1) e0)=l.take (j - 1)++(if j - 1=l.length then x else l.getD (j - 1) e0)::l.drop (j - 1):=by
  rw [if_neg (by omega),ho,midE_get hjl (by omega),midE_set hjl]
  exact midE_step hjl (by omega) rfl
end Go.Cg.Sh
namespace Go.Cg.Sh
set_option linter.unusedVariables false
set_option linter.unusedSimpArgs false
theorem bnd_mono {n s:Int} (hn:0<=n) (hs:1<=s) {i j:Int} (h:i<=j):bnd n s i<=bnd n s j:=Int.ediv_le_ediv (by omega) (Int.mul_le_mul_of_nonneg_right h hn)
theorem search_done {n y:Int} {S i:Nat} (hp:Oc.part n (S:Int)=true) (h0:0<=y) (h1:y < n) (hi:i<=S) (ha:∀ k,k < i->bnd n S ((k:Int)+1)<=y) (hb:∀ k,i<=k->k < S->y < bnd n S ((k:Int)+1)):ofv n S y=i:=by
  have hpl:=part_le hp
  have hlt:i < S:=by
    rcases Nat.lt_or_ge i S with h | h
    · exact h
    · exfalso
      have h2:=ha (S - 1) (by omega)
      unfold bnd at h2
      rw [show ((S - 1:Nat):Int)+1=(S:Int) from by omega,Int.mul_ediv_cancel_left _ (by omega)] at h2
      omega
  exact (ofv_eq hp h0 h1 (by simpa using hlt)).2 ⟨hb i (Nat.le_refl _) hlt,ha⟩
theorem ofv_bad {n s y:Int} (h:¬ (Oc.part n s=true/\0<=y/\y < n)):ofv n s y=0:=by
  unfold ofv;rw [if_pos]
  by_cases hp:Oc.part n s=true
  · right;have:¬ (0<=y/\y < n):=fun c=>h ⟨hp,c⟩;omega
  · left;simpa using hp
end Go.Cg.Sh
namespace Go.Cg.Sh
set_option linter.unusedVariables false
set_option linter.unusedSimpArgs false
open Go.Cg.Rn (R)
open Go.Cg.Tr (E)
/-- what was written when so many edges were gone through -/
def pk (n s:Int) (es:List E) (k i:Nat):List R:=(mine n s k (es.take i)).map pack
theorem pk_no {n s:Int} {es:List E} {k i:Nat} (hi:i < es.length) (h:¬ ofv n s (es.getD i e0).t=k):pk n s es k (i+1)=pk n s es k i:=by
  unfold pk mine
  rw [take_snocE hi,List.filter_append,List.filter_cons,if_neg (by simpa using h),List.filter_nil,List.append_nil]
theorem pk_yes {n s:Int} {es:List E} {k i:Nat} (hi:i < es.length) (h:ofv n s (es.getD i e0).t=k):pk n s es k (i+1)=pk n s es k i++[pack (es.getD i e0)]:=by
  unfold pk mine
  rw [take_snocE hi,List.filter_append,List.filter_cons,if_pos (by simpa using h),List.filter_nil,List.map_append,List.map_cons,List.map_nil]
theorem pk_all {n s:Int} {es:List E} {k i:Nat} (hi:es.length<=i):pk n s es k i=(mine n s k es).map pack:=by unfold pk;rw [List.take_of_length_le hi]
theorem pk_rest (n s:Int) (es:List E) (k i:Nat):(mine n s k es).map pack=pk n s es k i++(mine n s k (es.drop i)).map pack:=by
  unfold pk mine
  rw [<-List.map_append,<-List.filter_append,List.take_append_drop]
theorem pk_stop {n s:Int} {es:List E} {k i:Nat} {nm:Dk.Nm} {d:Dk.Disk} (h:(Rn.wputs nm (pk n s es k i) [] d).2.2≠0):Rn.wputs nm ((mine n s k es).map pack) [] d=Rn.wputs nm (pk n s es k i) [] d:=by
  rw [pk_rest n s es k i,Rn.wputs_app,if_pos h]
theorem pack_lt {e:E} (h:e.f < 4294967296/\e.t < 4294967296/\e.w < 4294967296):(pack e).1 < 18446744073709551616/\(pack e).2 < 18446744073709551616:=by
  obtain ⟨f,t,w⟩:=e
  unfold pack
  simp only at *
  omega
end Go.Cg.Sh
namespace Go.Cg.Sh
set_option linter.unusedVariables false
set_option linter.unusedSimpArgs false
open Go.Cg.Rn (R)
open Go.Cg.Tr (E)
/-- where all intervals begin, and the last one ends -/
def bnds (n s:Int):List Int:=if Oc.part n s=true then (List.range (s.toNat+1)).map fun (i:Nat)=>bnd n s (i:Int) else []
theorem bnds_of {n s:Int} (hp:Oc.part n s=true) {xs:List Int} {K:Nat} (hK:K=(s+1).toNat) (hl:xs.length=K) (h:∀ j,j < K->xs.getD j 0=bnd n s (j:Int)):xs=bnds n s:=by
  have hpl:=part_le hp
  unfold bnds
  rw [if_pos hp]
  apply List.ext_getElem
  · rw [List.length_map,List.length_range];omega
  · intro j h1 h2
    have:=h j (by omega)
    rw [List.getD_eq_getElem?_getD,List.getElem?_eq_getElem h1] at this
    rw [List.getElem_map,List.getElem_range];exact this
theorem set_getD {l:List Int} {i j:Nat} {x:Int} (hi:i < l.length):(l.set i x).getD j 0=if j=i then x else l.getD j 0:=Xs.getD_set hi
theorem build_bad {n s:Int} {es:List E} {budget:Int} {d:Dk.Disk} (h:Oc.part n s=false\/Tr.graph n es=false\/budget < 1):build n s es budget d=(d,1):=if_pos h
theorem build_ok {n s:Int} {es:List E} {budget:Int} {d:Dk.Disk} (h:¬ (Oc.part n s=false\/Tr.graph n es=false\/budget < 1)):build n s es budget d=builds n s es budget s.toNat 0 d:=if_neg h
theorem builds_bad {n s:Int} {es:List E} {budget:Int} {k i:Nat} {d:Dk.Disk} (h:(one n s es budget i d).2≠0):builds n s es budget (k+1) i d=(undo i 0 (one n s es budget i d).1,(one n s es budget i d).2):=by rw [builds,if_pos h]
theorem builds_one {n s:Int} {es:List E} {budget:Int} {k i:Nat} {d:Dk.Disk} (h:(one n s es budget i d).2=0):builds n s es budget (k+1) i d=builds n s es budget k (i+1) (one n s es budget i d).1:=by rw [builds,if_neg (by omega)]
theorem reads_bad {i:Nat} {d:Dk.Disk} (h:(Rn.read (sname i) d).2.2≠0):reads i d=((Rn.read (sname i) d).1,[],(Rn.read (sname i) d).2.2):=by unfold reads;rw [if_pos h]
theorem reads_ok {i:Nat} {d:Dk.Disk} (h:(Rn.read (sname i) d).2.2=0):reads i d=((Rn.read (sname i) d).1,(Rn.read (sname i) d).2.1.map unpack,0):=by unfold reads;rw [if_neg (by omega),h]
end Go.Cg.Sh
namespace Go.Cg.Sh
set_option linter.unusedVariables false
set_option linter.unusedSimpArgs false
open Go.Cg.Rn (R)
open Go.Cg.Tr (E)
section
variable {e:Int} {c:Cur} {l dn:List Cur} {out:List E} {d:Dk.Disk} {k:Nat}
theorem window_bad (he:(moves c d).2.2≠0):window e false dn (c::l) out d=((moves c d).1,dn++(moves c d).2.1::l,[],(moves c d).2.2):=by rw [window,if_pos ⟨rfl,he⟩]
theorem window_f (he:(moves c d).2.2=0):window e false dn (c::l) out d=if (take1 e (cleft (moves c d).2.1+1) (moves c d).2.1 out (moves c d).1).2.2.2≠0 then ((take1 e (cleft (moves c d).2.1+1) (moves c d).2.1 out (moves c d).1).1,dn++(take1 e (cleft (moves c d).2.1+1) (moves c d).2.1 out (moves c d).1).2.1::l,[],(take1 e (cleft (moves c d).2.1+1) (moves c d).2.1 out (moves c d).1).2.2.2) else window e false (dn++[(take1 e (cleft (moves c d).2.1+1) (moves c d).2.1 out (moves c d).1).2.1]) l (take1 e (cleft (moves c d).2.1+1) (moves c d).2.1 out (moves c d).1).2.2.1 (take1 e (cleft (moves c d).2.1+1) (moves c d).2.1 out (moves c d).1).1:=by
  rw [window,if_neg (fun h=>h.2 he)];rfl
theorem window_t:window e true dn (c::l) out d=if (take1 e (cleft c+1) c out d).2.2.2≠0 then ((take1 e (cleft c+1) c out d).1,dn++(take1 e (cleft c+1) c out d).2.1::l,[],(take1 e (cleft c+1) c out d).2.2.2) else window e true (dn++[(take1 e (cleft c+1) c out d).2.1]) l (take1 e (cleft c+1) c out d).2.2.1 (take1 e (cleft c+1) c out d).1:=by
  rw [window,if_neg (fun h=>by cases h.1)];rfl
theorem take1_stop (h:¬ (c.2.2=true/\(c.2.1.f:Int) < e)) (hk:1<=k):take1 e k c out d=(d,c,out,0):=by
  cases k with
  | zero=>rfl
  | succ k=>rw [take1,if_neg h]
theorem take1_bad (h:c.2.2=true/\(c.2.1.f:Int) < e) (he:(moves c d).2.2≠0):take1 e (k+1) c out d=((moves c d).1,(moves c d).2.1,[],(moves c d).2.2):=by rw [take1,if_pos h,if_pos he]
theorem take1_more (h:c.2.2=true/\(c.2.1.f:Int) < e) (he:(moves c d).2.2=0):take1 e (k+1) c out d=take1 e k (moves c d).2.1 (out++[c.2.1]) (moves c d).1:=by rw [take1,if_pos h,if_neg (by omega)]
theorem moves_cnt (c:Cur) (d:Dk.Disk):(moves c d).1.files.length=d.files.length:=Rn.rnext_cnt _ _ _ _
end
end Go.Cg.Sh
namespace Go.Cg.Sh
set_option linter.unusedVariables false
set_option linter.unusedSimpArgs false
open Go.Cg.Rn
/-- how many records are to come, at most -/
def rpot (c:Cur):Nat:=(c.1.2.1 - c.1.2.2.1)+c.1.2.2.2.1.length
def cpot (c:Cur):Nat:=rpot c+(if c.2.2=true then 16 else 0)
theorem rpot_moves (c:Cur) (d:Dk.Disk) (hp:c.1.2.2.1<=c.1.2.1) (ho:RsOk c.1.2.1 c.1.2.2):cpot (moves c d).2.1<=rpot c:=by
  obtain ⟨⟨n,sz,p,t,sh⟩,ed,is⟩:=c
  simp only at hp ho
  show ((sz - (rnext n sz (p,t,sh) d).2.1.1)+(rnext n sz (p,t,sh) d).2.1.2.1.length)+(if (rnext n sz (p,t,sh) d).2.2.1.isSome=true then 16 else 0)<=(sz - p)+t.length
  unfold rnext
  split
  · rename_i hc
    split
    · simp
    · rename_i h0
      have h1:=rin_text (n:=n) (sz:=sz) (p:=p) (sh:=sh) (d:=d) (by simpa using h0)
      have h2:=rin_le (n:=n) (sh:=sh) (d:=d) hp (by simpa using h0)
      simp only [Option.isSome_some,if_true,List.length_drop]
      omega
  · split
    · simp
    · rename_i hne
      have h1:=ho.text hne
      simp only [Option.isSome_some,if_true,List.length_drop] at *
      omega
theorem cpot_ge (c:Cur):rpot c<=cpot c:=Nat.le_add_right _ _
theorem rpot_le {c:Cur} (hz:c.1.2.1<=17592186044416) (ho:RsOk c.1.2.1 c.1.2.2):rpot c<=17592186045216:=by
  have:=ho.len
  unfold rpot;omega
end Go.Cg.Sh
namespace Go.Cg.Sh
set_option linter.unusedVariables false
set_option linter.unusedSimpArgs false
open Go.Cg.Dk
theorem begin_files {d:Disk} (h:d.begin_.down=false):d.begin_.files=d.files:=by
  unfold Disk.begin_ Disk.crash at *
  simp only at *
  split
  · rfl
  · rename_i h0
    rw [if_neg h0] at h
    split
    · rename_i h1
      rw [if_pos h1] at h
      split
      · rfl
      · rename_i h2
        rw [if_neg h2] at h;cases h
    · rfl
theorem size_same {d:Disk} {n:Nm} (h:(d.size n).2.2=0):(d.size n).1.files=d.files/\∃f,fget d.files n=some f/\(d.size n).2.1=f.now.length:=by
  unfold Disk.size at *
  simp only at *
  cases hd:d.begin_.down with
  | true=>rw [if_pos hd] at h;cases h
  | false=>
    have hf:=begin_files hd
    simp only [hd,Bool.false_eq_true,if_false,hf] at h ⊢
    cases hg:fget d.files n with
    | none=>rw [hg] at h;cases h
    | some f=>exact ⟨hf,f,rfl,rfl⟩
/-- how much shards have, at most -/
def szs (fs:Fs):Nat->Nat
  | 0=>0
  | i+1=>szs fs i+(match fget fs (sname i) with | some f=>f.now.length | none=>0)
theorem szs_same {fs fs':Fs}:∀ i,(∀ j,j < i->fget fs (sname j)=fget fs' (sname j))->szs fs i=szs fs' i
  | 0,_=>rfl
  | i+1,h=>by rw [szs,szs,szs_same i (fun j hj=>h j (by omega)),h i (by omega)]
theorem szs_le:∀ (i:Nat) (fs:Fs),rising fs->szs fs i<=16*used fs
  | 0,_,_=>Nat.zero_le _
  | i+1,fs,hr=>by
    rw [szs]
    cases hg:fget fs (sname i) with
    | none=>simp only;have:=szs_le i fs hr;omega
    | some f=>
      simp only
      have h1:=used_fdel hr hg
      have h2:=szs_le i (fdel fs (sname i)) (rising_fdel hr _)
      have h3:szs fs i=szs (fdel fs (sname i)) i:=szs_same i fun j hj=>by rw [fget_fdel,if_neg (fun c=>by have:=sname_inj c;omega)]
      have h4:f.now.length<=16*sectors f.now.length:=by unfold sectors;omega
      omega
theorem opens_bad {k i:Nat} {l:List Cur} {d:Disk} (h:(d.size (sname i)).2.2≠0):opens (k+1) i l d=((d.size (sname i)).1,l,(d.size (sname i)).2.2):=by rw [opens,if_pos h]
theorem opens_one {k i:Nat} {l:List Cur} {d:Disk} (h:(d.size (sname i)).2.2=0):opens (k+1) i l d=opens k (i+1) (l++[((sname i,(d.size (sname i)).2.1,(0,[],false)),⟨0,0,0⟩,false)]) (d.size (sname i)).1:=by rw [opens,if_neg (by omega)]
theorem newSweep_arg {n s:Int} {d:Disk} (h:Oc.part n s=false):newSweep n s d=(d,none,1):=if_pos h
theorem newSweep_bad {n s:Int} {d:Disk} (hp:Oc.part n s=true) (h:(opens s.toNat 0 [] d).2.2≠0):newSweep n s d=((opens s.toNat 0 [] d).1,none,(opens s.toNat 0 [] d).2.2):=by unfold newSweep;rw [if_neg (by rw [hp];simp),if_pos h]
theorem newSweep_ok {n s:Int} {d:Disk} (hp:Oc.part n s=true) (h:(opens s.toNat 0 [] d).2.2=0):newSweep n s d=((opens s.toNat 0 [] d).1,some ⟨(opens s.toNat 0 [] d).2.1,ends n s,0,0,false⟩,0):=by unfold newSweep;rw [if_neg (by rw [hp];simp),if_neg (by omega)]
theorem bnds_ends {n s:Int} (h:Oc.part n s=true):∃x,bnds n s=x::ends n s:=by
  refine ⟨bnd n s 0,?_⟩
  unfold bnds ends
  rw [if_pos h,List.range_succ_eq_map,List.map_cons,List.map_map]
  congr 1
theorem next_bad {s:Sw} {d:Disk} (h:s.err≠0\/s.at_=s.ends.length):next s d=(d,s,[],false,s.err):=if_pos h
theorem next_go {s:Sw} {d:Disk} (h:¬ (s.err≠0\/s.at_=s.ends.length)):next s d=if (window (s.ends.getD s.at_ 0) s.begun [] s.l [] d).2.2.2≠0 then ((window (s.ends.getD s.at_ 0) s.begun [] s.l [] d).1,{ s with l:=(window (s.ends.getD s.at_ 0) s.begun [] s.l [] d).2.1,err:=(window (s.ends.getD s.at_ 0) s.begun [] s.l [] d).2.2.2 },[],false,(window (s.ends.getD s.at_ 0) s.begun [] s.l [] d).2.2.2) else ((window (s.ends.getD s.at_ 0) s.begun [] s.l [] d).1,{ s with l:=(window (s.ends.getD s.at_ 0) s.begun [] s.l [] d).2.1,at_:=s.at_+1,begun:=true,err:=0 },(window (s.ends.getD s.at_ 0) s.begun [] s.l [] d).2.2.1,true,0):=if_neg h
end Go.Cg.Sh
namespace Go.Cg.Sh
set_option linter.unusedVariables false
set_option linter.unusedSimpArgs false
open Go.Cg.Rn
open Go.Cg.Tr (E)
def COk (c:Cur):Prop:=RsOk c.1.2.1 c.1.2.2/\c.1.2.2.1<=c.1.2.1
theorem COk.moves {c:Cur} (h:COk c) (d:Dk.Disk):COk (moves c d).2.1/\cpot (Sh.moves c d).2.1<=cpot c:=
  ⟨⟨(h.1.next (n:=c.1.1) (d:=d)).1,Xs.rnext_pos h.2⟩,Nat.le_trans (rpot_moves c d h.2 h.1) (cpot_ge c)⟩
theorem take1_pot (e:Int):∀ (k:Nat) (c:Cur) (out:List E) (d:Dk.Disk),COk c->COk (take1 e k c out d).2.1/\cpot (take1 e k c out d).2.1<=cpot c
  | 0,c,_,_,h=>⟨h,Nat.le_refl _⟩
  | k+1,c,out,d,h=>by
    have hm:=h.moves d
    rw [take1]
    split
    · split
      · exact hm
      · have h2:=take1_pot e k (moves c d).2.1 (out++[c.2.1]) (moves c d).1 hm.1
        exact ⟨h2.1,Nat.le_trans h2.2 hm.2⟩
    · exact ⟨h,Nat.le_refl _⟩
theorem window_pot (e:Int) (b:Bool):∀ (l dn:List Cur) (out:List E) (d:Dk.Disk),(∀ c∈l,COk c)->((window e b dn l out d).2.1.map cpot).sum<=((dn++l).map cpot).sum
  | [],dn,out,d,_=>by simp [window]
  | c::l,dn,out,d,h=>by
    have hc:=h c List.mem_cons_self
    have hm:=hc.moves d
    obtain ⟨c1,d1,h1,h2,h3,h4⟩:∃c1 d1,(if b then c else (moves c d).2.1)=c1/\(if b then d else (moves c d).1)=d1/\COk c1/\cpot c1<=cpot c:=by
      cases b with
      | true=>exact ⟨c,d,rfl,rfl,hc,Nat.le_refl _⟩
      | false=>exact ⟨_,_,rfl,rfl,hm.1,hm.2⟩
    have ht:=take1_pot e (cleft c1+1) c1 out d1 h3
    rw [window]
    split
    · simp only [List.map_append,List.map_cons,List.sum_append,List.sum_cons];have:=hm.2;omega
    · simp only
      rw [h1,h2]
      split
      · simp only [List.map_append,List.map_cons,List.sum_append,List.sum_cons];have:=ht.2;omega
      · have ih:=window_pot e b l (dn++[(take1 e (cleft c1+1) c1 out d1).2.1]) (take1 e (cleft c1+1) c1 out d1).2.2.1 (take1 e (cleft c1+1) c1 out d1).1 (fun x hx=>h x (List.mem_cons_of_mem _ hx))
        refine Nat.le_trans ih ?_
        simp only [List.map_append,List.map_cons,List.map_nil,List.sum_append,List.sum_cons,List.sum_nil];have:=ht.2;omega
end Go.Cg.Sh
end
section
namespace Go.Cg.Sh
set_option linter.unusedVariables false
set_option linter.unusedSimpArgs false
open Go.Cg.Dk Go.Cg.Cl Go.Cg.Xs
open Go.Cg.Rn hiding HeapOk MInv NextP UpEx DnEx lst
open Go.Cg.Tr (E)

theorem shown_edges:edgesOf 2 2 [⟨1,0,3⟩] 0=[⟨1,0,3⟩]/\edgesOf 2 2 [⟨1,0,3⟩] 1=[]/\winOf 2 2 [⟨1,0,3⟩] 0=[]/\winOf 2 2 [⟨1,0,3⟩] 1=[⟨1,0,3⟩]:=⟨rfl,rfl,rfl,rfl⟩
theorem shown_plan:∃d1 d2 d3 d4 d5 d6 w0 w1 w2,build 2 2 [⟨1,0,3⟩] 5 (fresh 100)=(d1,0)/\reads 0 d1=(d2,[⟨1,0,3⟩],0)/\reads 1 d2=(d3,[],0)/\newSweep 2 2 d3=(d4,some w0,0)/\next w0 d4=(d5,w1,[],true,0)/\next w1 d5=(d6,w2,[⟨1,0,3⟩],true,0)/\next w2 d6=(d6,w2,[],false,0)/\
    d1.files.length<=9/\d2.files.length<=9/\d3.files.length<=9/\d4.files.length<=9/\d5.files.length<=9/\d6.files.length<=9:=by
  have i0:Is (fresh 100) 100 []:=Xs.Is.fresh (k:=100) rfl (by decide)
  have h32:E32 [⟨1,0,3⟩]:=by intro e he;rw [List.mem_singleton.1 he];decide
  have hp:Oc.part 2 2=true:=by decide
  have hg:Tr.graph 2 [⟨1,0,3⟩]=true:=by
    unfold Tr.graph;rw [decide_eq_true_eq]
    exact ⟨by decide,by decide,by decide,fun e he=>by rw [List.mem_singleton.1 he];decide⟩
  obtain ⟨d1,fs,e1,hM,i1⟩:=build_up i0 hp hg h32 (budget:=5) (by decide) (Free.nil 2) (Nat.le_refl _) (by decide) (by decide)
  obtain ⟨d2,e2,i2⟩:=reads_up h32 hM i1 (j:=0) (by decide)
  obtain ⟨d3,e3,i3⟩:=reads_up h32 hM i2 (j:=1) (by decide)
  obtain ⟨d4,w0,e4,i4,s0⟩:=sweep_new h32 hp hM i3
  obtain ⟨d5,w1,e5,i5,s1⟩:=sweep_next h32 hp hg i4 (j:=0) (by decide) s0
  obtain ⟨d6,w2,e6,i6,s2⟩:=sweep_next h32 hp hg i5 (j:=1) (by decide) s1
  have e7:=next_end s2 d6
  obtain ⟨q1,q2,q3,q4⟩:=shown_edges
  rw [q1] at e2;rw [q2] at e3;rw [q3] at e5;rw [q4] at e6
  have hl:=hM.len
  have hl:fs.length=2:=hl
  have c1:=i1.cnt;have c2:=i2.cnt;have c3:=i3.cnt;have c4:=i4.cnt;have c5:=i5.cnt;have c6:=i6.cnt
  exact ⟨d1,d2,d3,d4,d5,d6,w0,w1,w2,e1,e2,e3,e4,e5,e6,e7,by omega,by omega,by omega,by omega,by omega,by omega⟩
/-! ### a shard that is there already -/
theorem builds_split {n s:Int} {es:List E} {budget:Int}:∀ (a b i:Nat) (d:Disk),builds n s es budget (a+b) i d=if (builds n s es budget a i d).2≠0 then builds n s es budget a i d else builds n s es budget b (i+a) (builds n s es budget a i d).1
  | 0,b,i,d=>by rw [Nat.zero_add,if_neg (by simp [builds])];rfl
  | a+1,b,i,d=>by
    rw [show a+1+b=(a+b)+1 from by omega,builds,builds]
    split
    · rfl
    · rw [builds_split a b (i+1),show i+1+a=i+(a+1) from by omega]
theorem one_is {d:Disk} {r:Nat} {fs:Fs} (h:Is d r fs) {n s:Int} {es:List E} (h32:E32 es) {budget:Int} (hb1:1<=budget) {i u:Nat} (hi:i < 5000) (hF:Free fs i u) {g:Fl} (hg:fget fs (sname i)=some g) (hr:used fs+2*es.length<=r):∃d',one n s es budget i d=(d',5)/\Is d' r fs:=by
  obtain ⟨L,hL⟩:∃L,L=(mine n s i es).map pack:=⟨_,rfl⟩
  have hLl:L.length=(mine n s i es).length:=by rw [hL,List.length_map]
  have hmn:(mine n s i es).length<=es.length:=List.length_filter_le _ _
  have hse:=secN_le L.length
  obtain ⟨d1,e1,i1⟩:=h.write (pname_may (i:=i) (by omega)) (hF.part i) (l:=L) (by omega)
  obtain ⟨d2,e2,i2⟩:=i1.sort_is (nin:=pname i) (out:=sname i) (temp:=nRun) (b:=budget) (fan:=4) (how:=0) (by rw [fget_fput,if_pos rfl]) (by rw [fget_fput,if_neg (fun c=>ps_ne c.symm)];exact hg) (sname_may (by omega)) hb1 (by decide) (by decide)
  have hB:oneB n s es budget i d=(d2,5):=by unfold oneB split;rw [<-hL,e1,if_neg (by simp)];simp only;rw [e2]
  have hrm:=remove_up i2.q.up d2.ops 0 (Dk.fput fs (pname i) ⟨FB L,FB L⟩) (by decide) (n:=pname i) (f:=⟨FB L,FB L⟩) (by rw [fget_fput,if_pos rfl])
  rw [<-i2.self,show fdel (Dk.fput fs (pname i) ⟨FB L,FB L⟩) (pname i)=fs from files_ext (rising_fdel (rising_fput hF.ris _ _) _) hF.ris fun m=>by
    rw [fget_fdel,fget_fput]
    by_cases e:m=pname i
    · rw [if_pos e,e];exact (hF.part i).symm
    · rw [if_neg e,if_neg e]] at hrm
  refine ⟨dk d2 (nx d2.ops) 0 fs,?_,?_⟩
  · unfold one;rw [hB];simp only;rw [hrm,if_pos (by decide)]
  · refine is_keep i2 _ hF.ris hF.fine (fun m f hf=>?_) (by omega)
    have:=h.q.ok.nam
    rw [h.fl] at this
    exact this _ (mem_of_fget hf)
theorem build_is {d:Disk} {r:Nat} {fs0:Fs} (h:Is d r fs0) {n:Int} {es:List E} (hp:Oc.part n 4=true) (hg:Tr.graph n es=true) (h32:E32 es) {budget:Int} (hb1:1<=budget) {m:Nat} (hm:m < 4) (hF:Free fs0 0 m) {g:Fl} (hgm:fget fs0 (sname m)=some g) (hlen:es.length<=1000000) (hr:used fs0+6*es.length<=r):∃d',build n 4 es budget d=(d',5)/\Is d' r fs0:=by
  have hb:build n 4 es budget d=builds n 4 es budget (m+(4 - m)) 0 d:=by
    unfold build;rw [if_neg (by rw [hp,hg];simp;omega),show (4:Int).toNat=m+(4 - m) from by show 4=_;omega]
  have hs:=builds_go h.q.up h32 hb1 (n:=n) (s:=4) hlen hF m 0 d.ops 0 fs0 (by omega) (by omega) (Made.start hF)
  rw [<-h.self] at hs
  rcases hs with ⟨h1,_⟩ | ⟨_,_,_,_,h3⟩ | ⟨o',a',f',h1,h2,h3⟩
  · omega
  · have:=h.rm;omega
  rw [h2 rfl] at h1
  rw [Nat.zero_add] at h3
  have hnam:∀ m f,fget fs0 m=some f->m.length<=24:=fun m f hf=>by
    have:=h.q.ok.nam
    rw [h.fl] at this
    exact this _ (mem_of_fget hf)
  have hcm:=cum_le n 4 es m
  have hus:=h3.used
  have i1:Is (dk d o' 0 f') r f':=is_keep h o' h3.free.ris h3.free.fine (h3.nam (by omega) hnam) (by have h7:=cum_le n 4 es m;omega)
  obtain ⟨d2,e2,i2⟩:=one_is i1 h32 hb1 (n:=n) (s:=4) (i:=m) (by omega) h3.free (g:=g) (by rw [h3.off _ fun j hj c=>by have:=sname_inj c;omega];exact hgm) (by omega)
  have hu:=undo_go i2.q.up m 0 d2.ops 0 f' h3.free.ris
  rw [<-i2.self] at hu
  rcases hu with ⟨h4,_⟩ | ⟨o3,a3,f3,q1,q2,q3,q4,q5⟩
  · omega
  rw [q2 rfl,show f3=fs0 from files_ext q3 hF.ris fun x=>by
    by_cases e:∃j,j < m/\x=sname j
    · obtain ⟨j,j1,rfl⟩:=e
      rw [q4 j (Nat.zero_le _) (by omega)];exact (hF.shard j (Nat.zero_le _) j1).symm
    · rw [q5 x fun j _ j2 c=>e ⟨j,by omega,c⟩]
      exact h3.off x fun j hj c=>e ⟨j,hj,c⟩] at q1
  refine ⟨dk d2 o3 0 fs0,?_,?_⟩
  · rw [hb,builds_split,h1,if_neg (by simp),show 4 - m=(3 - m)+1 from by omega]
    simp only
    rw [Nat.zero_add,builds,e2,if_pos (by simp),q1]
  · exact is_keep i2 o3 hF.ris hF.fine hnam (by omega)
end Go.Cg.Sh
end
section
namespace Go.Cg.Sh
set_option linter.unusedVariables false
set_option linter.unusedSimpArgs false
open Go.Cg.Rn (R)
open Go.Cg.Tr (E)
theorem mine_no {n s:Int} {es:List E} {k i:Nat} (hi:i < es.length) (h:¬ ofv n s (es.getD i e0).t=k):mine n s k (es.take (i+1))=mine n s k (es.take i):=by
  unfold mine
  rw [take_snocE hi,List.filter_append,List.filter_cons,if_neg (by simpa using h),List.filter_nil,List.append_nil]
theorem mine_yes {n s:Int} {es:List E} {k i:Nat} (hi:i < es.length) (h:ofv n s (es.getD i e0).t=k):mine n s k (es.take (i+1))=mine n s k (es.take i)++[es.getD i e0]:=by
  unfold mine
  rw [take_snocE hi,List.filter_append,List.filter_cons,if_pos (by simpa using h),List.filter_nil]
theorem winOf_eq (n s:Int) (es:List E) (j:Nat):winOf n s es j=(List.range s.toNat).flatMap fun i=>(edgesOf n s es i).filter fun e=>decide (ofv n s e.f=j):=by
  unfold winOf win lsOf edgesOf
  rw [List.flatMap_map]
  simp only [List.filter_map]
  rfl
/-- a window, so far -/
def wpart (n s:Int) (es:List E) (j i k:Nat):List E:=((List.range i).flatMap fun i=>(edgesOf n s es i).filter fun e=>decide (ofv n s e.f=j))++((edgesOf n s es i).take k).filter fun e=>decide (ofv n s e.f=j)
theorem wpart_zero (n s:Int) (es:List E) (j:Nat):wpart n s es j 0 0=[]:=by unfold wpart;simp
theorem wpart_no {n s:Int} {es:List E} {j i k:Nat} (hk:k < (edgesOf n s es i).length) (h:¬ ofv n s ((edgesOf n s es i).getD k e0).f=j):wpart n s es j i (k+1)=wpart n s es j i k:=by
  unfold wpart
  rw [take_snocE hk,List.filter_append,List.filter_cons,if_neg (by simpa using h),List.filter_nil,List.append_nil]
theorem wpart_yes {n s:Int} {es:List E} {j i k:Nat} (hk:k < (edgesOf n s es i).length) (h:ofv n s ((edgesOf n s es i).getD k e0).f=j):wpart n s es j i (k+1)=wpart n s es j i k++[(edgesOf n s es i).getD k e0]:=by
  unfold wpart
  rw [take_snocE hk,List.filter_append,List.filter_cons,if_pos (by simpa using h),List.filter_nil,List.append_assoc]
theorem wpart_next {n s:Int} {es:List E} {j i k:Nat} (hk:(edgesOf n s es i).length<=k):wpart n s es j (i+1) 0=wpart n s es j i k:=by
  unfold wpart
  rw [List.range_succ,List.flatMap_append,List.flatMap_singleton,List.take_zero,List.filter_nil,List.append_nil,List.take_of_length_le hk]
theorem wpart_all {n s:Int} {es:List E} {j i:Nat} (h:i=s.toNat):wpart n s es j i 0=winOf n s es j:=by
  subst h;rw [winOf_eq];unfold wpart;simp
theorem mine_len (n s:Int) (i:Nat) (es:List E):(mine n s i es).length<=es.length:=List.length_filter_le _ _
theorem edges_len {n s:Int} {es:List E} (h:E32 es) (i:Nat):(edgesOf n s es i).length=(mine n s i es).length:=(edges_perm h i).length_eq
theorem edges_le {n s:Int} {es:List E} (h:E32 es) (i:Nat):(edgesOf n s es i).length<=es.length:=by rw [edges_len h];exact mine_len _ _ _ _
theorem edges_32 {n s:Int} {es:List E} (h:E32 es) (i:Nat):E32 (edgesOf n s es i):=(h.mine n s i).perm (edges_perm h i)
theorem edges_lt {n s:Int} {es:List E} (h:E32 es) (hg:Tr.graph n es=true) {i k:Nat} (hk:k < (edgesOf n s es i).length):(((edgesOf n s es i).getD k e0).f:Int) < n:=by
  have h2:=(List.mem_filter.1 ((edges_perm h i).mem_iff.1 (show (edgesOf n s es i).getD k e0∈edgesOf n s es i by rw [List.getD_eq_getElem?_getD,List.getElem?_eq_getElem hk];exact List.getElem_mem _))).1
  simp only [Tr.graph,decide_eq_true_eq] at hg
  exact (hg.2.2.2 _ h2).1
theorem wpart_le {n s:Int} {es:List E} (h:E32 es) (hn:es.length<=1048576) {j i k:Nat}:(wpart n s es j i k).length<=1048576*i+1048576:=by
  have key:∀ i:Nat,((List.range i).flatMap fun i=>(edgesOf n s es i).filter fun e=>decide (ofv n s e.f=j)).length<=1048576*i:=by
    intro i
    induction i with
    | zero=>simp
    | succ i ih=>
      rw [List.range_succ,List.flatMap_append,List.flatMap_singleton,List.length_append]
      have h1:=edges_le (n:=n) (s:=s) h i
      have h2:((edgesOf n s es i).filter fun e=>decide (ofv n s e.f=j)).length<=(edgesOf n s es i).length:=List.length_filter_le _ _
      omega
  unfold wpart
  rw [List.length_append]
  have h1:=key i
  have h2:(((edgesOf n s es i).take k).filter fun e=>decide (ofv n s e.f=j)).length<=((edgesOf n s es i).take k).length:=List.length_filter_le _ _
  have h3:=edges_le (n:=n) (s:=s) h i
  rw [List.length_take] at h2
  omega
theorem graph_at {n:Int} {es:List E} (hg:Tr.graph n es=true) {k:Nat} (hk:k < es.length):((es.getD k e0).f:Int) < n/\((es.getD k e0).t:Int) < n:=by
  simp only [Tr.graph,decide_eq_true_eq] at hg
  exact hg.2.2.2 _ (by rw [List.getD_eq_getElem?_getD,List.getElem?_eq_getElem hk];exact List.getElem_mem _)
end Go.Cg.Sh
end
section
namespace Go.Cg.Sh
set_option linter.unusedVariables false
set_option linter.unusedSimpArgs false
open Go.Cg.Dk Go.Cg.Cl Go.Cg.Xs
open Go.Cg.Rn hiding HeapOk MInv NextP UpEx DnEx lst
open Go.Cg.Tr (E)

/-- all shards are there, on a disk that is up -/
def Rd12 (n s:Int) (es:List E) (d:Disk):Prop:=∃fs,Made n s es s.toNat [] s.toNat fs/\Is d 10000 fs
/-- and a sweep over them has told j windows -/
def Sw12 (n s:Int) (es:List E) (j:Nat) (d:Disk) (w:Sw):Prop:=∃fs,Made n s es s.toNat [] s.toNat fs/\Is d 10000 fs/\SwAt n s fs (lsOf n s es) j w
theorem Sw12.rd {n s:Int} {es:List E} {j:Nat} {d:Disk} {w:Sw} (h:Sw12 n s es j d w):Rd12 n s es d:=by
  obtain ⟨fs,h1,h2,_⟩:=h;exact ⟨fs,h1,h2⟩
theorem Rd12.cnt {n s:Int} {es:List E} {d:Disk} (h:Rd12 n s es d):d.files.length=s.toNat:=by
  obtain ⟨fs,h1,h2⟩:=h
  have:=h1.len
  rw [h2.cnt,this];simp
theorem Rd12.read {n s:Int} {es:List E} {d:Disk} (h32:E32 es) (h:Rd12 n s es d) {j:Nat} (hj:j < s.toNat):∃d',reads j d=(d',edgesOf n s es j,0)/\Rd12 n s es d':=by
  obtain ⟨fs,h1,h2⟩:=h
  obtain ⟨d',e,i⟩:=reads_up h32 h1 h2 hj
  exact ⟨d',e,fs,h1,i⟩
theorem Sw12.read {n s:Int} {es:List E} {k:Nat} {d:Disk} {w:Sw} (h32:E32 es) (h:Sw12 n s es k d w) {j:Nat} (hj:j < s.toNat):∃d',reads j d=(d',edgesOf n s es j,0)/\Sw12 n s es k d' w:=by
  obtain ⟨fs,h1,h2,h3⟩:=h
  obtain ⟨d',e,i⟩:=reads_up h32 h1 h2 hj
  exact ⟨d',e,fs,h1,i,h3⟩
theorem Sw12.next {n s:Int} {es:List E} {j:Nat} {d:Disk} {w:Sw} (h32:E32 es) (hp:Oc.part n s=true) (hg:Tr.graph n es=true) (h:Sw12 n s es j d w) (hj:j < s.toNat):∃d' w',Sh.next w d=(d',w',winOf n s es j,true,0)/\Sw12 n s es (j+1) d' w':=by
  obtain ⟨fs,h1,h2,h3⟩:=h
  obtain ⟨d',w',e,i,k⟩:=sweep_next h32 hp hg h2 hj h3
  exact ⟨d',w',e,fs,h1,i,k⟩
theorem Sw12.end_ {n s:Int} {es:List E} {j:Nat} {d:Disk} {w:Sw} (h:Sw12 n s es j d w) (hj:j=s.toNat):Sh.next w d=(d,w,[],false,0):=by
  subst hj;obtain ⟨fs,h1,h2,h3⟩:=h;exact next_end h3 d
theorem Rd12.used_eq {n s:Int} {es:List E} {c d:Disk} (h:Rd12 n s es c) (k:Rd12 n s es d):c.used=d.used:=by
  obtain ⟨f,h1,h2⟩:=h
  obtain ⟨g,k1,k2⟩:=k
  have e:f=g:=files_ext h1.free.ris k1.free.ris fun m=>by
    by_cases e:∃j,j < s.toNat/\m=sname j
    · obtain ⟨j,hj,rfl⟩:=e
      rw [h1.get j hj,k1.get j hj]
    · rw [h1.off m fun j hj c=>e ⟨j,hj,c⟩,k1.off m fun j hj c=>e ⟨j,hj,c⟩]
  show used c.files=used d.files
  rw [h2.fl,k2.fl,e]
theorem Rd12.clean {n s:Int} {es:List E} {fs:Fs} (h:Made n s es s.toNat [] s.toNat fs):Cl.Clean fs:=fun m f hf=>by
  by_cases e:∃j,j < s.toNat/\m=sname j
  · obtain ⟨j,hj,rfl⟩:=e
    rw [h.get j hj] at hf
    cases hf;rfl
  · rw [h.off m fun j hj c=>e ⟨j,hj,c⟩] at hf;cases hf
theorem Rd12.crash {n s:Int} {es:List E} {d:Disk} (h:Rd12 n s es d) (k:List Bool):Rd12 n s es (d.crash k).restart:=by
  obtain ⟨fs,h1,h2⟩:=h
  have ha:=crash_q h2.q (by rw [h2.fl];exact Rd12.clean h1) k
  refine ⟨fs,h1,ha.q,by rw [ha.room,h2.rm],files_ext ha.q.ok.ris h1.free.ris fun m=>by rw [ha.get,h2.fl]⟩
theorem Rd12.list {n s:Int} {es:List E} {d:Disk} (h:Rd12 n s es d):∃d' ns,d.list=(d',ns,0)/\ns.length=s.toNat/\Rd12 n s es d':=by
  obtain ⟨fs,h1,h2⟩:=h
  obtain ⟨d',ns,e,i,hn⟩:=h2.list
  exact ⟨d',ns,e,by rw [hn,h1.len];simp,fs,h1,i⟩
theorem Rd12.sweep {n s:Int} {es:List E} {d:Disk} (h32:E32 es) (hp:Oc.part n s=true) (h:Rd12 n s es d):∃d' w,newSweep n s d=(d',some w,0)/\Sw12 n s es 0 d' w:=by
  obtain ⟨fs,h1,h2⟩:=h
  obtain ⟨d',w,e,i,k⟩:=sweep_new h32 hp h1 h2
  exact ⟨d',w,e,fs,h1,i,k⟩
theorem is10:Is (fresh 10000) 10000 []:=Xs.Is.fresh (k:=10000) rfl (by decide)
theorem is_rd {n s:Int} {es:List E} {b:Int} {d:Disk} (h:Is d 10000 []) (h32:E32 es) (hp:Oc.part n s=true) (hg:Tr.graph n es=true) (hl:es.length<=40) (hb:1<=b):∃d1,build n s es b d=(d1,0)/\Rd12 n s es d1:=by
  obtain ⟨d1,fs,e1,hM,i1⟩:=build_up h hp hg h32 hb (Free.nil s.toNat) (Nat.le_refl _) (by omega) (by show 0+_<=_;omega)
  exact ⟨d1,e1,fs,hM,i1⟩
theorem part_few {n s:Int} (h0:0<=n) (h1:n<=60) (h2:1<=s) (h3:s<=60):Oc.part n s=true:=by simp only [Oc.part,decide_eq_true_eq];omega
section
variable {n s:Int} {es:List E} (h32:E32 es) (hp:Oc.part n s=true) (hg:Tr.graph n es=true) (hl:es.length<=40)
include h32 hp hg hl
theorem tells12_plan {b:Int} (hb:1<=b) (hs:s<=60):∃d1 d2 d3 ns w0,build n s es b (fresh 10000)=(d1,0)/\Disk.list (d1.crash []).restart=(d2,ns,0)/\((ns.length:Nat):Int)=s/\newSweep n s d2=(d3,some w0,0)/\Sw12 n s es 0 d3 w0/\d1.files.length<=99/\(d1.crash []).files.length<=99/\(d1.crash []).restart.files.length<=99/\d2.files.length<=99:=by
  have hpl:=part_le hp
  obtain ⟨d1,e1,r1⟩:=is_rd is10 h32 hp hg hl hb
  have r2:=r1.crash []
  obtain ⟨d2,ns,e2,hn,r3⟩:=r2.list
  obtain ⟨d3,w0,e3,r4⟩:=r3.sweep h32 hp
  have c1:=r1.cnt;have c2:=r2.cnt;have c3:=r3.cnt
  exact ⟨d1,d2,d3,ns,w0,e1,e2,by omega,e3,r4,by omega,by show ((d1.crash []).restart).files.length<=99;omega,by omega,by omega⟩
theorem all12_plan (hs:s<=60):∃d1 d3 w0,build n s es 10 (fresh 10000)=(d1,0)/\newSweep n s d1=(d3,some w0,0)/\Sw12 n s es 0 d3 w0/\d1.files.length<=99:=by
  obtain ⟨d1,e1,r1⟩:=is_rd is10 h32 hp hg hl (b:=10) (by decide)
  obtain ⟨d3,w0,e3,r4⟩:=r1.sweep h32 hp
  have c1:=r1.cnt
  exact ⟨d1,d3,w0,e1,e3,r4,by omega⟩
end
/-! ### all of them, one behind the other -/
def wcat (n s:Int) (es:List E) (i:Nat):List E:=(List.range i).flatMap (winOf n s es)
def ocat (n s:Int) (es:List E) (i:Nat):List E:=(List.range i).flatMap (edgesOf n s es)
theorem wcat_succ (n s:Int) (es:List E) (i:Nat):wcat n s es (i+1)=wcat n s es i++winOf n s es i:=by unfold wcat;rw [List.range_succ,List.flatMap_append,List.flatMap_singleton]
theorem ocat_succ (n s:Int) (es:List E) (i:Nat):ocat n s es (i+1)=ocat n s es i++edgesOf n s es i:=by unfold ocat;rw [List.range_succ,List.flatMap_append,List.flatMap_singleton]
theorem wcat_mono (n s:Int) (es:List E) (i:Nat):∀ k,(wcat n s es i).length<=(wcat n s es (i+k)).length
  | 0=>Nat.le_refl _
  | k+1=>by
    have h:=wcat_mono n s es i k
    rw [show i+(k+1)=i+k+1 from by omega,wcat_succ,List.length_append];omega
theorem ocat_mono (n s:Int) (es:List E) (i:Nat):∀ k,(ocat n s es i).length<=(ocat n s es (i+k)).length
  | 0=>Nat.le_refl _
  | k+1=>by
    have h:=ocat_mono n s es i k
    rw [show i+(k+1)=i+k+1 from by omega,ocat_succ,List.length_append];omega
section
variable {n s:Int} {es:List E} (h32:E32 es) (hp:Oc.part n s=true) (hg:Tr.graph n es=true)
include h32 hp hg
theorem wcat_all:(wcat n s es s.toNat).Perm es:=win_perm h32 hp hg
theorem ocat_all:(ocat n s es s.toNat).Perm es:=own_perm h32 hp hg
theorem wcat_len {i:Nat} (hi:i<=s.toNat):(wcat n s es i).length<=es.length:=by
  have h:=wcat_mono n s es i (s.toNat - i)
  rw [show i+(s.toNat - i)=s.toNat from by omega,(wcat_all h32 hp hg).length_eq] at h;exact h
theorem ocat_len {i:Nat} (hi:i<=s.toNat):(ocat n s es i).length<=es.length:=by
  have h:=ocat_mono n s es i (s.toNat - i)
  rw [show i+(s.toNat - i)=s.toNat from by omega,(ocat_all h32 hp hg).length_eq] at h;exact h
theorem wcat_same {i:Nat} (hi:i=s.toNat):E32 (wcat n s es i)/\esort pack2 (wcat n s es i)=esort pack2 es:=by
  subst hi
  have h:=wcat_all h32 hp hg
  exact ⟨h32.perm h,(esort_one pack2_inj h32 h.symm).symm⟩
theorem ocat_same {i:Nat} (hi:i=s.toNat):E32 (ocat n s es i)/\esort pack2 (ocat n s es i)=esort pack2 es:=by
  subst hi
  have h:=ocat_all h32 hp hg
  exact ⟨h32.perm h,(esort_one pack2_inj h32 h.symm).symm⟩
end
/-! ### what may not be -/
theorem errors12_bad {n s:Int} {es:List E} {b:Int} (h:Oc.part n s=false\/Tr.graph n es=false\/b < 1):∃d2,build n s es b (fresh 10000)=(fresh 10000,1)/\(fresh 10000).list=(d2,[],0)/\Is d2 10000 []:=by
  obtain ⟨d2,ns,e,i,hn⟩:=is10.list
  have:ns=[]:=List.eq_nil_of_length_eq_zero hn
  subst this
  exact ⟨d2,build_bad h,e,i⟩
theorem errors12_plan {n:Int} {es:List E} {d:Disk} (h:Is d 10000 []) (h32:E32 es) (hp:Oc.part n 4=true) (hg:Tr.graph n es=true) (hl:es.length<=40) {m:Nat} (hm:m < 4):∃d1 d2 d3 d4 d5,d.create (sname m)=(d1,0)/\d1.append (sname m) [120]=(d2,0)/\build n 4 es 3 d2=(d3,5)/\d3.list=(d4,[sname m],0)/\d4.size (sname m)=(d5,1,0)/\
    d.files.length<=9/\d1.files.length<=9/\d2.files.length<=9/\d3.files.length<=9/\d4.files.length<=9:=by
  have e1:=create_up h.q.up d.ops 0 [] (by decide) (n:=sname m) (sname_may (by omega)) rfl
  rw [<-h.self] at e1
  have i1:=h.put (nx d.ops) (n:=sname m) (f:=⟨[],[]⟩) (sname_may (by omega)) (Nat.le_refl _) (by rw [used_fput_new rfl];simp [used,sectors])
  have e2:=append_up i1.q.up (nx d.ops) 0 (Dk.fput [] (sname m) ⟨[],[]⟩) (by decide) (n:=sname m) (f:=⟨[],[]⟩) [120] (by rw [fget_fput,if_pos rfl]) (by rw [i1.rm,used_fput_new rfl];simp [used,sectors])
  have hfs:Dk.fput (Dk.fput [] (sname m) ⟨[],[]⟩) (sname m) ⟨[120],[]⟩=Dk.fput [] (sname m) ⟨[120],[]⟩:=files_ext (rising_fput (rising_fput List.Pairwise.nil _ _) _ _) (rising_fput List.Pairwise.nil _ _) fun x=>by
    rw [fget_fput,fget_fput,fget_fput];split<;>rfl
  simp only [List.nil_append] at e2
  rw [hfs] at e2
  have hus:used (Dk.fput [] (sname m) ⟨([120]:By),[]⟩)<=1:=by rw [used_fput_new rfl];simp [used,sectors]
  have i2:=h.put (nx (nx d.ops)) (n:=sname m) (f:=⟨[120],[]⟩) (sname_may (by omega)) (Nat.zero_le _) (by omega)
  have hg2:fget (Dk.fput [] (sname m) ⟨([120]:By),[]⟩) (sname m)=some ⟨[120],[]⟩:=by rw [fget_fput,if_pos rfl]
  have hno:∀ x,x≠sname m->fget (Dk.fput [] (sname m) ⟨([120]:By),[]⟩) x=none:=fun x hx=>by rw [fget_fput,if_neg hx];rfl
  have hfi:∀ x f,fget (Dk.fput [] (sname m) ⟨([120]:By),[]⟩) x=some f->f.syn.length<=f.now.length:=by
    intro x f hf
    rw [fget_fput] at hf
    split at hf
    · cases hf;exact Nat.zero_le _
    · cases hf
  have hF:Free (Dk.fput [] (sname m) ⟨([120]:By),[]⟩) 0 m:=⟨rising_fput List.Pairwise.nil _ _,hfi,fun k=>hno _ ts_ne,fun k=>hno _ ps_ne,fun k _ hk=>hno _ fun c=>by have:=sname_inj c;omega⟩
  obtain ⟨d3,e3,i3⟩:=build_is i2 hp hg h32 (budget:=3) (by decide) hm hF hg2 (by omega) (by omega)
  have e4:=list_up i3.q.up d3.ops 0 (Dk.fput [] (sname m) ⟨([120]:By),[]⟩) (by decide)
  rw [<-i3.self] at e4
  have i4:=i3.same (nx d3.ops)
  have e5:=size_up i4.q.up (nx d3.ops) 0 (Dk.fput [] (sname m) ⟨([120]:By),[]⟩) (by decide) hg2
  have k1:∀ f,(Dk.fput [] (sname m) f).length=1:=fun f=>one_len
  have hd1:(dk d (nx d.ops) 0 (Dk.fput [] (sname m) ⟨[],[]⟩)).append (sname m) [120]=(dk d (nx (nx d.ops)) 0 (Dk.fput [] (sname m) ⟨[120],[]⟩),0):=e2
  refine ⟨_,_,d3,_,_,e1,hd1,e3,e4,e5,by rw [h.fl];simp,?_,?_,by rw [i3.fl,k1];decide,?_⟩
  · show (Dk.fput [] (sname m) ⟨[],[]⟩).length<=9;rw [k1];decide
  · show (Dk.fput [] (sname m) ⟨[120],[]⟩).length<=9;rw [k1];decide
  · show (Dk.fput [] (sname m) ⟨[120],[]⟩).length<=9;rw [k1];decide
/-! ### a disk that is full -/
theorem space12_plan {n s:Int} {es:List E} (h32:E32 es) (hp:Oc.part n s=true) (hg:Tr.graph n es=true) (hl:es.length<=40) (hs:s<=60) {b:Int} (hb:1<=b) {ro:Nat} (hro:ro<=200):∃d1 e,build n s es b (fresh ((ro:Nat):Int))=(d1,e)/\d1.files.length<=99/\(d1.Ok->∃d2 ns,d1.list=(d2,ns,0)/\
    ((e=6/\ns.length=0/\ro < 10*es.length)\/(e=0/\((ns.length:Nat):Int)=s/\d2.used<=ro))):=by
  have hpl:=part_le hp
  have i0:Is (fresh ((ro:Nat):Int)) ro []:=Xs.Is.fresh rfl (by omega)
  rcases build_two i0 hp hg h32 hb (Free.nil s.toNat) (Nat.le_refl _) (by omega) with ⟨d1,e1,i1,h3⟩ | ⟨d1,fs,e1,hM,hf,h4⟩
  · obtain ⟨d2,ns,e2,i2,hn⟩:=i1.list
    have h3:ro < 0+6*es.length:=h3
    exact ⟨d1,6,e1,by rw [i1.cnt];simp,fun _=>⟨d2,ns,e2,.inl ⟨rfl,hn,by omega⟩⟩⟩
  · have hL:fs.length=s.toNat:=by rw [hM.len];simp
    refine ⟨d1,0,e1,by rw [hf];omega,fun hok=>?_⟩
    have i1:=h4 (.inr hok)
    obtain ⟨d2,ns,e2,i2,hn⟩:=i1.list
    exact ⟨d2,ns,e2,.inr ⟨rfl,by omega,by have:=i2.q.ok.fit;rw [i2.rm] at this;exact this⟩⟩
/-! ### a shard that is not there -/
theorem none12_plan {n:Int} {es:List E} (h32:E32 es) (h0:0<=n) (h60:n<=60) (hg:Tr.graph n es=true) (hl:es.length<=40) {m:Nat} (hm:m < 4):∃d1 d2 d3 d4 d5 d6 w,build n 4 es 5 (fresh 10000)=(d1,0)/\d1.remove (sname m)=(d2,0)/\reads m d2=(d3,[],4)/\newSweep n 4 d3=(d4,none,4)/\newSweep n ((m:Nat):Int) d4=(d5,w,if m=0 then 1 else 0)/\reads 4 d5=(d6,[],4)/\newSweep (-1) 4 d6=(d6,none,1)/\
    d1.files.length<=9/\d2.files.length<=9/\d3.files.length<=9/\d4.files.length<=9/\d5.files.length<=9/\d6.files.length<=9:=by
  have hp:Oc.part n 4=true:=part_few h0 h60 (by decide) (by decide)
  obtain ⟨d1,fs,e1,hM,i1⟩:=build_up is10 hp hg h32 (budget:=5) (by decide) (Free.nil 5) (by decide) (by omega) (by show 0+_<=_;omega)
  have hM:Made n 4 es 5 [] 4 fs:=hM
  have e2:=remove_up i1.q.up d1.ops 0 fs (by decide) (hM.get m hm)
  rw [<-i1.self] at e2
  have i2:Is (dk d1 (nx d1.ops) 0 (fdel fs (sname m))) 10000 (fdel fs (sname m)):=is_keep i1 _ (rising_fdel hM.free.ris _) (fun x f hf=>by
    rw [fget_fdel] at hf
    split at hf
    · cases hf
    · exact hM.free.fine x f hf) (fun x f hf=>by
    rw [fget_fdel] at hf
    split at hf
    · cases hf
    · exact hM.nam (by omega) (fun _ _ c=>nomatch c) x f hf) (by have h1:=used_fdel_le hM.free.ris (sname m);have h2:=i1.q.ok.fit;rw [i1.rm] at h2;have h3:d1.used=used d1.files:=rfl;rw [h3,i1.fl] at h2;omega)
  have gm:fget (fdel fs (sname m)) (sname m)=none:=by rw [fget_fdel,if_pos rfl]
  have gj:∀ j,j < m->fget (fdel fs (sname m)) (sname j)=some ⟨FB (rows n 4 es j),FB (rows n 4 es j)⟩:=fun j hj=>by rw [fget_fdel,if_neg (fun c=>by have:=sname_inj c;omega)];exact hM.get j (by omega)
  have g4:fget (fdel fs (sname m)) (sname 4)=none:=by rw [fget_fdel,if_neg (fun c=>by have:=sname_inj c;omega)];exact hM.free.shard 4 (by decide) (by decide)
  obtain ⟨d3,e3,i3⟩:=reads_none i2 gm
  obtain ⟨d4,cs,e4,i4⟩:=opens_none (ls:=[]) gm 4 0 [] d3 i3 (Nat.zero_le _) (by omega) (fun j hj=>⟨_,gj j hj⟩)
  have e4':newSweep n 4 d3=(d4,none,4):=by rw [newSweep_bad hp (by show (opens 4 0 [] d3).2.2≠0;rw [e4];simp)];show ((opens 4 0 [] d3).1,none,(opens 4 0 [] d3).2.2)=_;rw [e4]
  have h5:∃d5 w,newSweep n ((m:Nat):Int) d4=(d5,w,if m=0 then 1 else 0)/\Is d5 10000 (fdel fs (sname m)):=by
    rcases Nat.eq_zero_or_pos m with rfl | h
    · exact ⟨d4,none,newSweep_arg (by simp [Oc.part]),i4⟩
    · obtain ⟨d5,w,e5,i5,_⟩:=newSweep_up (part_few h0 h60 (s:=((m:Nat):Int)) (by omega) (by omega)) (ls:=(List.range m).map (rows n 4 es)) (by simp) i4 (fun j hj=>by
        simp only [List.length_map,List.length_range] at hj
        have e:((List.range m).map (rows n 4 es)).getD j []=rows n 4 es j:=by
          rw [List.getD_eq_getElem?_getD,List.getElem?_map,List.getElem?_range hj];rfl
        rw [e]
        exact ⟨gj j hj,rows_bd h32 j⟩)
      exact ⟨d5,some w,by rw [e5,if_neg (by omega)],i5⟩
  obtain ⟨d5,w,e5,i5⟩:=h5
  obtain ⟨d6,e6,i6⟩:=reads_none i5 g4
  have c0:fs.length=4:=hM.len
  have cd:(fdel fs (sname m)).length<=fs.length:=List.length_filter_le _ _
  have c1:=i1.cnt;have c2:=i2.cnt;have c3:=i3.cnt;have c4:=i4.cnt;have c5:=i5.cnt;have c6:=i6.cnt
  exact ⟨d1,_,d3,d4,d5,d6,w,e1,e2,e3,e4',e5,e6,newSweep_arg (by decide),by omega,by show (fdel fs (sname m)).length<=9;omega,by omega,by omega,by omega,by omega⟩
/-! ### a crash on the way -/
/-- a disk that is up, and has no more room than was given -/
theorem down12_plan {n:Int} {es:List E} (h32:E32 es) (h0:0<=n) (h60:n<=60) (hg:Tr.graph n es=true) (hl:es.length<=40) (at_:Nat) (keep:List Bool):∃d2 e,build n 3 es 4 ((fresh 10000).arm ((at_:Nat):Int) keep)=(d2,e)/\d2.room=10000/\((e=7/\d2.down=true)\/(e=0/\d2.down=false)):=by
  have hp:Oc.part n 3=true:=part_few h0 h60 (by decide) (by decide)
  obtain ⟨D,hD⟩:∃D:Disk,D={ fresh 10000 with keep:=keep }:=⟨_,rfl⟩
  have hDu:D.down=false:=by rw [hD];rfl
  have hDr:D.room=10000:=by rw [hD];rfl
  have ha:(fresh 10000).arm ((at_:Nat):Int) keep=dk D 0 at_ []:=by rw [hD];rfl
  rw [ha,build_ok (by rw [hp,hg];simp)]
  have hs:=builds_go hDu h32 (budget:=4) (by decide) (n:=n) (s:=3) (by omega) (Free.nil 3) 3 0 0 at_ [] (by decide) (by decide) (Made.start (Free.nil 3))
  have h3:(3:Int).toNat=3:=rfl
  rw [h3]
  generalize builds n 3 es 4 3 0 (dk D 0 at_ [])=X at hs ⊢
  rcases hs with ⟨_,h1,h2⟩ | ⟨_,_,_,_,h2⟩ | ⟨o',a',f',h1,_,_⟩
  · rcases h2 with ⟨h2,o',f',h4⟩ | ⟨_,h2⟩
    · exact ⟨_,_,rfl,by rw [h4];exact hDr,.inl ⟨h2,h1⟩⟩
    · have:used ([]:Fs)=0:=rfl
      omega
  · have:used ([]:Fs)=0:=rfl
    omega
  · exact ⟨_,_,h1,hDr,.inr ⟨rfl,hDu⟩⟩
/-- the files from i on are there -/
def Rm12 (ns:List Nm) (i:Nat) (d:Disk):Prop:=∃fs,Is d 10000 fs/\fs.map (·.1)=ns.drop i
theorem Rm12.start {d2:Disk} (hok:d2.Ok) (hr:d2.room=10000):∃d3 ns,Disk.list (Disk.restart (Disk.arm 0 [] d2))=(d3,ns,0)/\Rm12 ns 0 d3/\ns.length=d2.files.length/\d3.files.length=d2.files.length:=by
  have hq:Q (Disk.restart (Disk.arm 0 [] d2)):=⟨(hok.arm (by decide) []).restart,rfl,rfl⟩
  have i0:Is (Disk.restart (Disk.arm 0 [] d2)) 10000 d2.files:=⟨hq,hr,rfl⟩
  have e:=list_up i0.q.up (Disk.restart (Disk.arm 0 [] d2)).ops 0 d2.files (by decide)
  rw [<-i0.self] at e
  exact ⟨_,_,e,⟨d2.files,i0.same _,rfl⟩,by simp,rfl⟩
theorem Rm12.step {ns:List Nm} {i:Nat} {d:Disk} (h:Rm12 ns i d) (hi:i < ns.length):∃d',d.remove (ns.getD i [])=(d',0)/\Rm12 ns (i+1) d'/\d'.files.length<=d.files.length:=by
  obtain ⟨fs,h1,h2⟩:=h
  rw [List.drop_eq_getElem_cons hi] at h2
  cases fs with
  | nil=>cases h2
  | cons p fs=>
    obtain ⟨m,f⟩:=p
    simp only [List.map_cons,List.cons.injEq] at h2
    have hn:ns.getD i []=m:=by rw [List.getD_eq_getElem?_getD,List.getElem?_eq_getElem hi,Option.getD_some];exact h2.1.symm
    have hris:rising ((m,f)::fs):=h1.fl▸h1.q.ok.ris
    have hg:fget ((m,f)::fs) m=some f:=by unfold fget;rw [if_pos rfl]
    have e:=remove_up h1.q.up d.ops 0 ((m,f)::fs) (by decide) hg
    rw [<-h1.self] at e
    have hdel:fdel ((m,f)::fs) m=fs:=files_ext (rising_fdel hris _) (List.pairwise_cons.1 hris).2 fun x=>by
      rw [fget_fdel]
      by_cases ex:x=m
      · rw [if_pos ex,ex]
        symm
        cases hc:fget fs m with
        | none=>rfl
        | some f'=>exact absurd ((List.pairwise_cons.1 hris).1 _ (mem_of_fget hc)) (lt_irrefl _)
      · rw [if_neg ex];unfold fget;rw [if_neg (fun c=>ex c)];cases fs<;>rfl
    rw [hdel] at e
    refine ⟨_,by rw [hn];exact e,⟨fs,is_keep h1 _ (List.pairwise_cons.1 hris).2 (fun x f' hf=>?_) (fun x f' hf=>?_) ?_,h2.2⟩,?_⟩
    · have:=h1.q.ok.syn (x,f') (by rw [h1.fl];exact List.mem_cons_of_mem _ (mem_of_fget hf))
      exact this
    · have:=h1.q.ok.nam (x,f') (by rw [h1.fl];exact List.mem_cons_of_mem _ (mem_of_fget hf))
      exact this
    · have h3:=h1.q.ok.fit
      have h4:d.used=used d.files:=rfl
      rw [h1.rm,h4,h1.fl] at h3
      have h5:=used_fdel_le hris m
      rw [hdel] at h5
      omega
    · show fs.length<=d.files.length
      rw [h1.fl];simp
theorem Rm12.end_ {ns:List Nm} {i:Nat} {d:Disk} (h:Rm12 ns i d) (hi:ns.length<=i):Is d 10000 []:=by
  obtain ⟨fs,h1,h2⟩:=h
  rw [List.drop_of_length_le hi] at h2
  rw [List.map_eq_nil_iff] at h2
  subst h2;exact h1
theorem Rm12.again {ns:List Nm} {i:Nat} {d:Disk} (h:Rm12 ns i d) (hi:ns.length<=i) {n:Int} {es:List E} (h32:E32 es) (h0:0<=n) (h60:n<=60) (hg:Tr.graph n es=true) (hl:es.length<=40):∃d',build n 3 es 4 d=(d',0)/\Rd12 n 3 es d'/\d.files.length<=9:=
  let ⟨d',e,r⟩:=is_rd (h.end_ hi) h32 (part_few h0 h60 (by decide) (by decide)) hg hl (b:=4) (by decide)
  ⟨d',e,r,by rw [(h.end_ hi).fl];decide⟩
end Go.Cg.Sh
namespace Go.Cg.Sh
set_option linter.unusedVariables false
set_option linter.unusedSimpArgs false
theorem sname_7:sname 7=[115,104,97,114,100,46,55]:=by
  unfold sname
  rw [Xs.itoa_nn];unfold Go.Lib.decDigits;rfl
end Go.Cg.Sh
end
