/- Laws of the model, walks of functions of the program, and what they rest on. No condition. -/
import Derived.Test.YtoffbmhmocfmnaaGreatDoorKVaj
import Derived.Laws.BytesArg
import Derived.Laws.CopyRow
import Derived.Laws.IdiomCopy
namespace Go.Cg
set_option linter.unusedVariables false
set_option linter.unusedSimpArgs false
open Go.RowKit

theorem zeroCells_one (z:Value) (n:Nat):(Builtin.zeroCells #[z] n).toList=List.replicate n z:=by
  simp only [Builtin.zeroCells,List.size_toArray,List.length_cons,List.length_nil,Nat.zero_add,Nat.mul_one,Nat.mod_one]
  apply List.ext_getElem?
  intro j
  simp
  rw [List.getElem?_replicate]
  by_cases h:j < n
  · simp [h]
  · simp [h]
section
variable {P:Program}
theorem run_extend (w:World) (t u ty e:TypeId) (z:Value) (bytes:Nat) (E:Elem P t e 1 bytes z) (hu:P.underlying u=some (.int .i64)) (hzc:z.cells=#[z]) (hz1:z.oneCell'=true) (v:Value) (n:Nat) (xs:List Value) (hown:w.ownsRow 0 e 1 v n xs) (m:Nat) (mi:Int) (hmi:mi=m)
    (h63:n+m<=maxLen) (hbytes:(n+m)*bytes<=140737488355328):
    ∃v' w',(Builtin.append_ #[t,u] ty #[v,.int .i64 mi]).run P w=.ok v' w'/\w'.ownsRow 0 e 1 v' (n+m) (xs++List.replicate m z)/\w.grownBy w' v.ownBlock/\(v'.ownBlock=v.ownBlock\/∀ k,v'.ownBlock=some k->w.heap.size<=k):=by
  obtain ⟨i,hi,hz,hs,hby⟩:=E.parts
  subst hby
  have ht:=E.sl
  have hm63:n+m<=9223372036854775807:=by simp only [maxLen] at h63;omega
  have hw:IntKind.i64.wrap mi=mi:=wi64 (by omega) (by omega)
  have hai:∀ w,Sem.run P (asInt (.int .i64 mi)) w=.ok mi w:=fun w=>rfl
  have hneg:¬ (mi < 0):=by omega
  have htn:mi.toNat=m:=by omega
  have hmb:m*i.bytes<=(n+m)*i.bytes:=Nat.mul_le_mul_right _ (by omega)
  have hbig:¬ (281474976710656 < mi*(i.bytes:Int)):=by
    have:((m*i.bytes:Nat):Int)<=281474976710656:=by omega
    rw [Int.natCast_mul,<-hmi] at this;omega
  have hzl:∀ k,Builtin.zeroCells #[z] k=(List.replicate k z).toArray:=fun k=>by rw [<-zeroCells_one]
  have hone:∀ u∈List.replicate m z,u.oneCell'=true:=fun u hu=>by rw [(List.mem_replicate.1 hu).2];exact hz1
  rcases hown.2 with ⟨rfl,rfl⟩ | ⟨g,cap,cur,rfl,hbg,hg,hnc,hcm,hcs,htake⟩
  · have hx:xs=[]:=List.eq_nil_of_length_eq_zero (by rw [hown.1])
    subst hx
    by_cases h0:m=0
    · refine ⟨.slice none 0 0,w,?_,by subst h0;exact World.ownsRow_nil w 0 e 1,⟨rfl,rfl,rfl,Nat.le_refl _,fun _ _ _=>rfl⟩,.inl rfl⟩
      have htn0:mi.toNat=0:=by omega
      have hp0:¬ (0 < mi):=by omega
      simp [Builtin.append_,run_underlying ht,run_underlying hu,sizeOf,typeInfo,hi,hs,hw,hai,hneg,hbig,htn0,hp0]
    · have hn:¬ (0+m<=0):=by omega
      have h48:¬ (281474976710656 < Builtin.nextslicecap m 0*i.bytes):=by
        have:=growslice_fits (need:=m) (old:=0) (bytes:=i.bytes) (by omega) (by simpa using hbytes)
        omega
      have hge:=grownCap_ge w m 0 e
      have hcm:=grownCap_le_maxLen w m 0 e (by simpa using h63)
      refine ⟨.slice (some ⟨w.heap.size,0,none⟩) m (grownCap w m 0 e),w.drew.alloc (.cells ((List.replicate m z).toArray++Builtin.zeroCells z.cells (grownCap w m 0 e - m)) e),?_,?_,⟨rfl,rfl,rfl,by simp,fun k hk _=>Below.heap_alloc w.drew _ k hk⟩,.inr fun k hk=>?_⟩
      · have h64:¬ (9223372036854775807 < max mi 0):=by omega
        have hp0:¬ (mi<=0):=by omega
        simp [hp0,Builtin.append_,run_underlying ht,run_underlying hu,sizeOf,typeInfo,zeroValue,hi,hz,hs,hw,hai,hneg,hbig,htn,h0,h48,h64,Question.forced,newRow,grownCap,hzc,Builtin.firstCells,hzl]
      · rw [Nat.zero_add,List.nil_append]
        refine ⟨by simp,.inr ⟨w.heap.size,_,_,rfl,Nat.zero_le _,heap_alloc_new w.drew _,hge,hcm,?_,?_⟩⟩
        · simp only [hzc,hzl,Array.size_append,List.size_toArray,List.length_replicate];omega
        · simp only [hzc,hzl,Array.toList_append,Nat.mul_one]
          exact List.take_left' (by simp)
      · simp only [Value.ownBlock,Option.some.injEq] at hk;omega
  · have hlx:xs.length=n:=by simpa using hown.1
    by_cases hroom:n+m<=cap
    · have hfit:n*1+(List.replicate m z).length<=cur.size:=by simp only [List.length_replicate,Nat.mul_one] at hcs ⊢;omega
      have hst:=run_storeCells_at P g (n*1) e (List.replicate m z) 0 cur w hg (by simpa using hfit) hone
      simp only [Nat.add_zero,Nat.mul_one] at hst
      refine ⟨.slice (some ⟨g,0,none⟩) (n+m) cap,w.setRow g (cur.toList.take n++List.replicate m z++cur.toList.drop (n+(List.replicate m z).length)).toArray,?_,?_,⟨rfl,rfl,rfl,by simp,fun k _ hk=>setRow_other w g k _ (fun e=>hk (by simp [Value.ownBlock,e]))⟩,.inl rfl⟩
      · by_cases h0:m=0
        · have hself:w.setRow g (cur.toList.take n++List.replicate m z++cur.toList.drop (n+(List.replicate m z).length)).toArray=w:=by
            subst h0
            have e1:(cur.toList.take n++List.replicate 0 z++cur.toList.drop (n+(List.replicate 0 z).length)).toArray=cur:=by simp
            rw [e1]
            exact setRow_self w g cur e (0,0) hg
          rw [hself]
          have htn0:mi.toNat=0:=by omega
          simp [Builtin.append_,run_underlying ht,run_underlying hu,sizeOf,typeInfo,hi,hs,hw,hai,hneg,hbig,htn0,hnc,h0,storeCells,show ¬ (0 < mi) from by omega]
        · simp [Builtin.append_,run_underlying ht,run_underlying hu,sizeOf,typeInfo,zeroValue,hi,hz,hs,hw,hai,hneg,hbig,htn,h0,hroom,hzc,hzl,Addr.add_lit,hst]
      · refine ⟨by simp [hlx],.inr ⟨g,cap,_,rfl,Nat.zero_le _,setRow_heap w g cur _ e _ hg,hroom,hcm,?_,?_⟩⟩
        · simp only [List.size_toArray,List.length_append,List.length_take,List.length_drop,Array.length_toList,List.length_replicate,Nat.mul_one] at hcs hfit ⊢;omega
        · simp only [Nat.mul_one] at htake ⊢
          rw [htake]
          exact List.take_left' (by simp [hlx])
    · have holds:∀ j u,xs[j]? =some u->w.cell? ((⟨g,0,none⟩:Addr).add j)=some u:=hown.cells (g:=g) rfl
      have hfo:=run_firstCells_some (P:=P) w.drew 1 n ⟨g,0,none⟩ n cap xs (by simpa using hown.1) (by simpa using holds)
      have h48:¬ (281474976710656 < Builtin.nextslicecap (n+m) cap*i.bytes):=by
        have:=growslice_fits (need:=n+m) (old:=cap) (bytes:=i.bytes) (by omega) hbytes
        omega
      have hge:=grownCap_ge w (n+m) cap e
      have hcm':=grownCap_le_maxLen w (n+m) cap e h63
      have h0:m≠0:=by omega
      refine ⟨.slice (some ⟨w.heap.size,0,none⟩) (n+m) (grownCap w (n+m) cap e),w.drew.alloc (.cells (xs.toArray++(List.replicate m z).toArray++Builtin.zeroCells z.cells (grownCap w (n+m) cap e - (n+m))) e),?_,?_,⟨rfl,rfl,rfl,by simp,fun k hk _=>Below.heap_alloc w.drew _ k hk⟩,.inr fun k hk=>?_⟩
      · have h64:¬ (9223372036854775807 < ((n:Int)+max mi 0)):=by omega
        have hp0:¬ (mi<=0):=by omega
        simp [hp0,Builtin.append_,run_underlying ht,run_underlying hu,sizeOf,typeInfo,zeroValue,hi,hz,hs,hw,hai,hneg,hbig,htn,h0,h48,h64,hroom,Question.forced,newRow,grownCap,hzc,hzl,hfo]
      · refine ⟨by simp [hlx],.inr ⟨w.heap.size,_,_,rfl,Nat.zero_le _,heap_alloc_new w.drew _,hge,hcm',?_,?_⟩⟩
        · simp only [hzc,hzl,Array.size_append,List.size_toArray,List.length_replicate,hlx,Nat.mul_one];omega
        · simp only [hzc,hzl,Array.toList_append,Nat.mul_one]
          exact List.take_left' (by simp [hlx])
      · simp only [Value.ownBlock,Option.some.injEq] at hk;omega
end
section
variable {P:Program} {ops:Array Oper} {Q:Exit->Act->World->Prop} {a:Act} {w:World} {rest:List Oper} {o:Oper} {L:List Res} {n:Nat} {E:Env}
theorem r_extend {e t u:TypeId} {k c m bytes d:Nat} {s x:Operand} {xs xs':List Value} {A:Option Addr} {z:Value} {L':Option Addr->Nat->List Res} (i:Nat) (S:Slots a n E) (H:Sat w L) (ho:o.op=.call { callee:=.builtin .append,args:=#[s,x],argTypes:=#[t,u] })
    (hs:ev E s=some (.slice A k c)) {mi:Int} (hx:ev E x=some (.int .i64 mi)) (hL:L[i]? =some (row e 1 (.slice A k c) k xs)) (El:Elem P t e 1 bytes z) (hu:P.underlying u=some (.int .i64)) (hzc:z.cells=#[z]) (hz1:z.oneCell'=true) (hmi:mi=(m:Nat))
    (h63:k+m<=maxLen) (hbytes:(k+m)*bytes<=140737488355328) {km:Nat} (hkm:k+m=km) (hxs:xs++List.replicate m z=xs') (hL':∀ A' c',L.set i (row e 1 (.slice A' km c') km xs')=L' A' c') (hd:o.dst=some d) (hn:Nat.blt d n=true) (hw:Wt ops E o=some true)
    (K:∀ a' w' A' c',Slots a' n ((d,.slice A' km c')::E)->Sat w' (L' A' c')->wpList P ops Q rest a' w'):wpList P ops Q (o::rest) a w:=by
  subst hkm;subst hxs
  have h:=H.fetch hL
  obtain ⟨F,_,hP⟩:=h.head
  obtain ⟨v',w',hr,ho',hgr,hb⟩:=run_extend (P:=P) w t u o.type e z bytes El hu hzc hz1 _ k xs hP.1 m mi hmi h63 hbytes
  have hform:∃A' c',v'=.slice A' (k+m) c':=by
    rcases ho'.2 with ⟨h1,h2⟩ | ⟨g,cap,cur,h1,_⟩
    · exact ⟨none,0,by rw [h1,h2]⟩
    · exact ⟨_,cap,h1⟩
  obtain ⟨A',c',rfl⟩:=hform
  refine r_val S ?_ hd hn hw fun a' S'=>K a' w' A' c' S' (hL' A' c'▸(h.turnRow ho' hgr hb).back (lt_of_at hL))
  unfold execOp
  simp only [ho,resolve,invoke,builtin,Sem.run_bind,Sem.run_pure,Result.andThen_ok,List.map_toArray,List.map_cons,List.map_nil,S.eval hs,S.eval hx,hr]

/-- bytes as a string -/
theorem run_bytesStr {src dst e:TypeId} (hs:P.underlying src=some (.slice e)) (he:P.underlying e=some (.int .u8)) (hd:P.underlying dst=some .string) {A:Option Addr} {c:Nat} {l:List UInt8} (ok:SlOk L 1 A l.length c (u8s l)) (H:Sat w L):
    (convert src dst (.slice A l.length c)).run P w=.ok (.string ⟨l.toArray⟩) w:=by
  cases A with
  | none=>
    have hc:=ok.nil rfl
    have hl:l=[]:=List.eq_nil_of_length_eq_zero (by have:=ok.le;omega)
    subst hl
    exact run_convert_bytes_nil w src e hs he _ _ dst hd
  | some ad=>
    by_cases h0:l=[]
    · subst h0
      rw [run_convert_bytes_string w src dst e _ _ _ hs he hd]
      simp [Conv.bytesToString,loadCells,loadCellsFrom]
      rfl
    · obtain ⟨b,j,e1⟩:=ok.addr (sz:=0) H (List.length_pos_iff.2 h0)
      cases e1
      rw [run_convert_bytes_arg w src e hs he b j l.length c (l.map fun x=>(x.toNat:Int)) (by simp) (fun i hi=>?_) dst hd]
      · congr 1
        congr 1
        unfold strOfNums
        congr 1
        rw [List.map_map]
        congr 1
        conv=>rhs;rw [<-List.map_id l]
        exact List.map_congr_left fun x _=>by simp
      · have:=ok.cell w H (j:=i) (v:=.int .u8 ((l.getD i 0).toNat:Int)) (by have:=u8s_at hi;rwa [Nat.mul_one] at this)
        rw [this]
        simp [List.getD_eq_getElem?_getD,List.getElem?_eq_getElem hi]
theorem y_bytesStr {src dst e:TypeId} {x:Operand} (hs:P.underlying src=some (.slice e)) (he:P.underlying e=some (.int .u8)) (hd:P.underlying dst=some .string) {A:Option Addr} {c:Nat} {l:List UInt8} (ok:SlOk L 1 A l.length c (u8s l)) (S:Slots a n E) (ho:o.op=.convert src dst x) (hx:ev E x=some (.slice A l.length c)):
    Yl P L o a (str l):=yl_val (s:=convert src dst (a.eval x)) (by simp only [execOp,ho]) fun w H=>by rw [S.eval hx];exact run_bytesStr hs he hd ok H

/-! ### parts of slices -/
theorem three (p q:Prop):¬ p\/(p/\q)\/(p/\¬ q):=by
  rcases Classical.em p with h | h
  · rcases Classical.em q with g | g
    · exact .inr (.inl ⟨h,g⟩)
    · exact .inr (.inr ⟨h,g⟩)
  · exact .inl h
/-- a row's part, from a place on that is there -/
theorem y_sliceRow2 {t e:TypeId} {x h:Operand} {b m c k:Nat} {ik:IntKind} {j:Int} (S:Slots a n E) (ho:o.op=.slice t x (some h) none none) (hx:ev E x=some (.slice (some ⟨b,0,none⟩) m c)) (hh:ev E h=some (.int ik j)) (ht:P.underlying t=some (.slice e)) (hs:SizeOf P e 1) (hj:j=k) (hk:k<=m/\k < c):
    Yl P L o a (.slice (some ⟨b,k,none⟩) (m - k) (c - k)):=by
  have h:=y_sliceL (L:=L) S ho hx hh ht hs hj hk.1
  have hne:¬ c=k:=by omega
  have e:shift (some ⟨b,0,none⟩) (k*1) (decide (c=k))=some ⟨b,k,none⟩:=by simp [shift,hne,add_lit]
  rwa [e] at h

theorem SlOk.via {M:List Res} {sz m c:Nat} {A:Option Addr} {xs:List Value} (h:SlOk L sz A m c xs) (hM:∀ w,Sat w M->Sat w L):SlOk M sz A m c xs:=⟨h.nil,h.le,h.cap,h.len,fun w H=>h.rd w (hM w H)⟩
theorem SlOk.n8 {A:Option Addr} {m c:Nat} {l:List UInt8} (h:SlOk L 1 A m c (u8s l)):m=l.length:=by have:=h.len;simp at this;omega
theorem SlOk.nB {A:Option Addr} {m c:Nat} {l:List Bool} (h:SlOk L 1 A m c (bools l)):m=l.length:=by have:=h.len;simp at this;omega
theorem SlOk.part8 {A:Option Addr} {m c:Nat} {l:List UInt8} (h:SlOk L 1 A m c (u8s l)) (i k:Nat) (hi:i<=k) (hk:k<=m):SlOk L 1 (shift A (i*1) (decide (c=i))) (k - i) (c - i) (u8s ((l.drop i).take (k - i))):=by
  have:=h.part i k hi hk
  rwa [u8s_drop,u8s_take] at this
theorem SlOk.tailB {A:Option Addr} {m c:Nat} {l:List Bool} (h:SlOk L 1 A m c (bools l)) (i:Nat) (hi:i<=m):SlOk L 1 (shift A (i*1) (decide (c=i))) (m - i) (c - i) (bools (l.drop i)):=by
  have:=h.tail i hi
  rwa [bools_drop] at this

theorem copy8 (X Y:List UInt8) (j m k:Nat):(u8s X).take j++(u8s Y).take m++(u8s X).drop k=u8s (X.take j++Y.take m++X.drop k):=by simp [u8s,List.map_take,List.map_drop]
theorem torn_fin {o Y X:List UInt8} {j t:Nat} (hY:Y.length=t - j) (hk:j < t) (hX:X=o++List.replicate (t - o.length) 0) (hl:t<=X.length):
    (o++List.replicate (t - o.length) 0).take j++Y++(o++List.replicate (t - o.length) 0).drop t=X.take j++Y.take (min (t - j) (X.length - j))++X.drop (j+min (t - j) (X.length - j)):=by
  rw [<-hX,show min (t - j) (X.length - j)=t - j from by omega,show j+(t - j)=t from by omega,<-hY,List.take_length]

theorem y_copy0 {dT sT e:TypeId} {x y:Operand} {A B:Option Addr} {dl dc sl sc:Nat} (S:Slots a n E) (ho:o.op=.call { callee:=.builtin .copy,args:=#[x,y],argTypes:=#[dT,sT] }) (hx:ev E x=some (.slice A dl dc)) (hy:ev E y=some (.slice B sl sc)) (ht:P.underlying dT=some (.slice e)) (hs:(P.info? e).map (·.size)=some 1) (h0:min sl dl=0):Yl P L o a (.int .i64 0):=fun w _=>by
  have hr:=run_copy_none (P:=P) w dT sT o.type e A B dl dc sl sc ht hs h0
  unfold execOp
  simp only [ho,resolve,invoke,builtin,Sem.run_bind,Sem.run_pure,Result.andThen_ok,List.map_toArray,List.map_cons,List.map_nil,S.eval hx,S.eval hy,hr]
  rfl
def Wrote (D:Dk.Disk) (f:Dk.Fl) (b:List UInt8) (e u:Nat) (now:List UInt8):Prop:=
  (D.room < D.used+(Dk.sectors (f.now.length+b.length) - Dk.sectors f.now.length)/\e=6/\u=D.used/\now=f.now)\/
  (¬ D.room < D.used+(Dk.sectors (f.now.length+b.length) - Dk.sectors f.now.length)/\e=0/\u=D.used+(Dk.sectors (f.now.length+b.length) - Dk.sectors f.now.length)/\now=f.now++b)

/-! ### maps: a key is struck out -/
theorem erase_posn {κ ν:Type} [DecidableEq κ] (k:κ):∀ (l:List (κ×ν)),(l.map (·.1)).Nodup->(match posn l k with | some q=>l.eraseIdx q.1 | none=>l)=l.filter fun p=>decide (p.1≠k)
  | [],_=>rfl
  | p::r,h=>by
    simp only [List.map_cons,List.nodup_cons] at h
    have ih:=erase_posn k r h.2
    unfold posn
    by_cases hk:k=p.1
    · subst hk
      simp only [if_true,List.eraseIdx_cons_zero]
      rw [List.filter_cons,if_neg (by simp),eq_comm,List.filter_eq_self]
      intro q hq
      simp only [decide_eq_true_eq]
      intro e;exact h.1 (by rw [<-e];exact List.mem_map.2 ⟨q,hq,rfl⟩)
    · rw [if_neg hk,List.filter_cons,if_pos (by simpa using fun e=>hk e.symm),<-ih]
      cases posn r k with
      | none=>rfl
      | some q=>simp
theorem posn_lt {κ ν:Type} [DecidableEq κ] (k:κ):∀ (l:List (κ×ν)) (q:Nat×ν),posn l k=some q->q.1 < l.length
  | p::r,q,h=>by
    unfold posn at h
    split at h
    · simp only [Option.some.injEq] at h;subst h;simp
    · cases hp:posn r k with
      | none=>rw [hp] at h;simp at h
      | some q'=>
        rw [hp] at h
        simp only [Option.map_some,Option.some.injEq] at h
        subst h
        have:=posn_lt k r q' hp
        simp;omega
theorem r_mapDel {κ ν:Type} [DecidableEq κ] {mk:κ->Value} {mkv:ν->Value} {t kt e:TypeId} {m x:Operand} {b:Nat} {l l':List (κ×ν)} {L':List Res} (i:Nat) (k:κ) (S:Slots a n E) (H:Sat w L) (ho:o.op=.call { callee:=.builtin .delete,args:=#[m,x],argTypes:=#[t,kt] }) (hm:ev E m=some (.map (some b))) (hx:ev E x=some (mk k)) (K:KeyOk P t kt e mk)
    (hL:L[i]? =some (mp mk mkv b l)) (hn:(l.map (·.1)).Nodup) (hl':l.filter (fun p=>decide (p.1≠k))=l') (hL':L.set i (mp mk mkv b l')=L') (hd:o.dst=none) (hw:Wt ops E o=some true) (G:∀ w',Sat w' L'->wpList P ops Q rest a w'):wpList P ops Q (o::rest) a w:=by
  subst hL';subst hl'
  obtain ⟨es,clock,hb,he,hst⟩:=(H.fetch hL).map
  have hf:=run_findKey (mkv:=mkv) K k es.toList l he w
  have hc:=K.check es.isEmpty k w
  have hg:(getObj b).run P w=.ok (.map es clock) w:=by simp [getObj,Sem.run,hb]
  have hblt:b < w.heap.size:=(Array.getElem?_eq_some_iff.1 hb).1
  have key:∀ (es':Array MapEntry) (clock':Nat) (l2:List (κ×ν)),es'.toList.map (fun e=>(e.key,e.val))=l2.map (fun p=>(mk p.1,mkv p.2))->Go.MapKept.Stamped es' clock'->Sat { w with heap:=w.heap.setIfInBounds b (.map es' clock') } (L.set i (mp mk mkv b l2)):=by
    intro es' clock' l2 he' hst'
    refine Sat.back ((H.fetch hL).turn ⟨rfl,rfl,rfl,by simp⟩ fun F hF hP=>⟨F,fun k' hk'=>⟨by simpa using hF k' hk',.inl hk'⟩,⟨⟨es',clock',by simp [hblt],he',hst'⟩,hP.2⟩,fun k' hk' hnf=>?_⟩) (lt_of_at hL)
    have hne:b≠k':=fun e=>hnf ((hP.2 k').2 e.symm)
    simp [Array.getElem?_setIfInBounds_ne hne]
  have hset:∀ o':Obj,(setObj b o').run P w=.ok () { w with heap:=w.heap.setIfInBounds b o' }:=by
    intro o'
    simp only [setObj,Sem.run,hb]
  have hpe:=erase_posn k l hn
  have hres:∃es',(Builtin.delete_ #[t,kt] o.type #[.map (some b),mk k]).run P w=.ok (.tuple #[]) { w with heap:=w.heap.setIfInBounds b (.map es' clock) }/\es'.toList.map (fun e=>(e.key,e.val))=(l.filter fun p=>decide (p.1≠k)).map (fun p=>(mk p.1,mkv p.2))/\Go.MapKept.Stamped es' clock:=by
    have hun:Builtin.delete_ #[t,kt] o.type #[.map (some b),mk k]=(do
        let .map keyType _ <-underlying t | stuck "delete: map type expected"
        let .map es clock <-getObj b | stuck "delete: map expected"
        Instr.checkKey es.isEmpty 10000 keyType (mk k)
        match <-Instr.findKey keyType (mk k) es.toList with
        | some (i,_)=>setObj b (.map (es.eraseIdxIfInBounds i) clock)
        | none=>setObj b (.map es clock)
        pure (.tuple #[])):=by
      rfl
    cases hp:posn l k with
    | none=>
      rw [hp] at hpe
      refine ⟨es,?_,by rw [<-hpe];exact he,hst⟩
      rw [hun]
      simp only [Sem.run_bind,run_underlying K.mt,Result.andThen_ok,hg,hc,hf,hp,Option.map_none,hset,Sem.run_pure]
    | some q=>
      rw [hp] at hpe
      simp only at hpe
      have hq:=posn_lt k l q hp
      have hql:q.1 < es.size:=by have:=congrArg List.length he;simp at this;omega
      refine ⟨es.eraseIdxIfInBounds q.1,?_,?_,Go.MapKept.stamped_erase hst q.1⟩
      · rw [hun]
        simp only [Sem.run_bind,run_underlying K.mt,Result.andThen_ok,hg,hc,hf,hp,Option.map_some,hset,Sem.run_pure]
      · rw [<-hpe]
        have:(es.eraseIdxIfInBounds q.1).toList=es.toList.eraseIdx q.1:=by simp [Array.eraseIdxIfInBounds,hql]
        have em:∀ {α β:Type} (f:α->β) (i:Nat) (l:List α),(l.eraseIdx i).map f=(l.map f).eraseIdx i:=fun f i l=>by
          rw [List.eraseIdx_eq_take_drop_succ,List.eraseIdx_eq_take_drop_succ,List.map_append,List.map_take,List.map_drop]
        rw [this,em,he,em]
  obtain ⟨es',hr,he',hst'⟩:=hres
  refine wpList_wanted (S.wanted hw) ?_
  have hx':(execOp a.eval o).run P w=.ok (.value (.tuple #[])) { w with heap:=w.heap.setIfInBounds b (.map es' clock) }:=by
    unfold execOp
    simp only [ho,resolve,invoke,builtin,Sem.run_bind,Sem.run_pure,Result.andThen_ok,List.map_toArray,List.map_cons,List.map_nil,S.eval hm,S.eval hx,hr]
  unfold Oper.wp
  rw [hx']
  simp only [Oper.upon,hd]
  exact G _ (key es' clock _ he' hst')
end
end Go.Cg
