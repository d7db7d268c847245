/- Laws of the model, walks of functions of the program, and what they rest on. No condition. -/
import Derived.Test.YtoffbmhmocfmnaaGreatDoorKVao
import Derived.Test.YtoffbmhmocfmnaaGreatDoorKVap
namespace Go.Proofs.YtoffbmhmocfmnaaGreatDoor
open Go.RowKit Go.Cg
set_option linter.unusedVariables false
set_option linter.unusedSimpArgs false
set_option maxRecDepth 8000
set_option synthInstance.maxHeartbeats 1000000
set_option synthInstance.maxSize 1000000
open Go.Maps Go.Sort Go.Shelf Go.Proofs
open Go.WideElems (Fit rd rg)
open Go.Cg.Dk (Nm)
def strs (l:List Nm):List Value:=l.map nms
@[simp] theorem len_strs (l:List Nm):(strs l).length=l.length:=by simp [strs]
theorem one_strs (l:List Nm):∀ u∈strs l,u.oneCell'=true:=by intro u hu;simp only [strs,List.mem_map] at hu;obtain ⟨x,_,rfl⟩:=hu;rfl
theorem strs_at {l:List Nm} {i:Nat} (h:i < l.length):(strs l)[i*1]? =some (str (l.getD i [])):=by
  rw [Nat.mul_one,strs,List.getElem?_map,List.getD_eq_getElem?_getD,List.getElem?_eq_getElem h];rfl
theorem sortsA (m:Nat):AnyZ.SortsIn Tryz.prog sortedA_ren Fence.wide m:=
  ⟨fun blk off cap ss W hH hblk hsz=>callsIn_wide.2 (AnyM.slices_Sort_string sortA blk off cap ss W hH hblk hsz),
   fun p cap W=>callsIn_wide.2 (AnyM.slices_Sort_string_none sortA p cap W)⟩
theorem Sat.later {w w':World} {L:List Res} {e:TypeId} {v:Value} {n:Nat} {xs:List Value} (H:Sat w L) (h:w'.ownsRow w.heap.size e 1 v n xs) (hb:Below w.heap.size w w'):Sat w' (row e 1 v n xs::L):=
  H.add ⟨hb.os,hb.tape,hb.output,hb.size⟩ hb.block (fun k=>v.ownBlock=some k) (fun k hk=>h.lt k hk) ⟨ownsRow_base h,fun _=>Iff.rfl⟩
theorem sort_keys {ss ns:List Nm} (h:ss.Perm ns) (hs:ns.Pairwise (· < ·)):ss.mergeSort (fun x y=>decide (x<=y))=ns:=by
  rw [mergeSort_of_perm h]
  refine List.mergeSort_of_pairwise (List.Pairwise.imp ?_ hs)
  intro a b hab
  simp only [leB,decide_eq_true_eq]
  exact List.le_of_lt hab
theorem keys_ct (w:World) (fr:List Res) (mb:Nat) (H:Sat w fr):Rt Tryz.prog 46 #[.map (some mb)] w fun v w'=>∃kb,v=.func (.func 71) #[] #[.pointer (some ⟨kb,0,none⟩)]/\Sat w' (blk kb (.cells #[.map (some mb)] 62)::fr):=by
  have h:Calls Tryz.prog 46 #[.map (some mb)] w _:=callsIn_wide.1 (AnyZ.keys_in keysA Fence.wide 6 trivial rfl (some mb) w)
  refine h.mono ?_
  rintro e w' ⟨rfl,rfl⟩
  exact ⟨_,rfl,_,rfl,H.alloc _⟩
theorem sorted_ct (w:World) (fr:List Res) (kb mb:Nat) (t:Tbl) (ns:List Nm) (hp:ns.Perm (t.map (·.1))) (hs:ns.Pairwise (· < ·)) (hlen:ns.length<=4398046511104) (hn:∀ p∈t,p.1.length<=24) (H:Sat w (blk kb (.cells #[.map (some mb)] 62)::tbR mb t::fr)):
    Rt Tryz.prog 45 #[.func (.func 71) #[] #[.pointer (some ⟨kb,0,none⟩)]] w fun v w'=>∃A c,v=.slice A ns.length c/\Sat w' (row 9 1 (.slice A ns.length c) ns.length (strs ns)::blk kb (.cells #[.map (some mb)] 62)::tbR mb t::fr):=by
  obtain ⟨es,clock,hb,he,hst⟩:=(H.fetch (i:=1) rfl).map
  have hkb:=(H.cellOf (i:=0) rfl).1 (j:=0)
  have hbl:kb < w.heap.size:=by
    obtain ⟨G,hG,hb',hk⟩:=H.head
    exact hG kb ((hk kb).2 rfl)
  have hlt:t.length=ns.length:=by simpa using hp.length_eq.symm
  have hles:es.size=t.length:=by have:=congrArg List.length he;simpa [tmap] using this
  have hkey:∀ x∈es.toList,∃n:Nm,x.key=nms n/\n.length<=24:=by
    intro x hx
    have:(x.key,x.val)∈es.toList.map (fun e=>(e.key,e.val)):=List.mem_map.2 ⟨x,hx,rfl⟩
    rw [he] at this
    obtain ⟨p,hp',e⟩:=List.mem_map.1 this
    obtain ⟨q,hq,e2⟩:=List.mem_map.1 hp'
    have:=hn q hq
    subst e2
    exact ⟨q.1,(congrArg Prod.fst e).symm,this⟩
  have hrd:∀ x∈es.toList,∀ n:Nm,x.key=nms n->n.length<=24->rd (H:=Unit) Tryz.prog 9 (fun _=>some (.lit (.bool true),[])) x=some (.string n,.lit (.bool true)):=by
    intro x hx n e hl
    unfold Go.WideElems.rd
    rw [e,Go.WideMaps.keyOf_string_mk Tryz.underlying9 (by simp only [maxLen,ByteArray.size];simp;omega)]
    rfl
  have Ft:Fit (H:=Unit) Tryz.prog 9 (fun _=>some (.lit (.bool true),[])) es clock:=⟨by simp only [maxLen];omega,hst,fun x hx=>by
    obtain ⟨n,e,hl⟩:=hkey x hx
    exact ⟨_,hrd x hx n e hl⟩⟩
  have hkeys:∀ (l:List MapEntry) (t':Tbl),(∀ x∈l,x∈es.toList)->(∀ p∈t',p∈t)->l.map (fun e=>(e.key,e.val))=(tmap t').map (fun p=>(nms p.1,mkP p.2))->l.map (fun x=>strOf (rg (H:=Unit) Tryz.prog 9 (fun _=>some (.lit (.bool true),[])) x).1)=t'.map (·.1):=by
    intro l
    induction l with
    | nil=>intro t' _ _ h;cases t' with | nil=>rfl | cons p r=>simp [tmap] at h
    | cons x l ih=>
      intro t' h1 h2 h
      cases t' with
      | nil=>simp [tmap] at h
      | cons p r=>
        simp only [tmap,List.map_cons,List.cons.injEq,Prod.mk.injEq] at h
        have e:=hrd x (h1 x List.mem_cons_self) p.1 h.1.1 (hn p (h2 p List.mem_cons_self))
        simp only [List.map_cons,rg,e,Option.getD_some,strOf]
        congr 1
        exact ih r (fun y hy=>h1 y (List.mem_cons_of_mem _ hy)) (fun q hq=>h2 q (List.mem_cons_of_mem _ hq)) h.2
  have hk:=hkeys es.toList t (fun _ h=>h) (fun _ h=>h) he
  have hperm:(strKeys (H:=Unit) (.map ((es.toList.map (rg Tryz.prog 9 (fun _=>some (.lit (.bool true),[])))).foldr DataW.insert []))).Perm ns:=by
    refine List.Perm.trans ?_ hp.symm
    rw [<-hk]
    show (((es.toList.map _).foldr DataW.insert []).map _).Perm _
    refine ((Go.WideShapes.sorted_perm _).map _).trans ?_
    rw [List.map_map]
    exact List.Perm.refl _
  have hsz:Maps.size (H:=Unit) (.map ((es.toList.map (rg Tryz.prog 9 (fun _=>some (.lit (.bool true),[])))).foldr DataW.insert []))=ns.length:=by
    simp only [Maps.size,length_sorted,List.length_map,Array.length_toList];omega
  have hseq:SeqGives Fence.wide 2 Tryz.prog 71 #[.pointer (some ⟨kb,0,none⟩)] encStr (fun ss=>ss.Perm (strKeys (H:=Unit) (.map ((es.toList.map (rg Tryz.prog 9 (fun _=>some (.lit (.bool true),[])))).foldr DataW.insert [])))) (Maps.size (H:=Unit) (.map ((es.toList.map (rg Tryz.prog 9 (fun _=>some (.lit (.bool true),[])))).foldr DataW.insert []))) w:=
    AnyZ.keys_gives (ρ:=keysA_ren) { keysA with } Fence.wide _ trivial rfl (by omega) kb mb es.size _ w hbl (by simpa using hkb) ⟨es,clock,hb,Ft,Nat.le_refl _,rfl⟩
  have cS:=AnyZ.sorted_in sortedA Fence.wide 5 trivial trivial trivial trivial rfl (by omega) (sortsA _) (enters_of Tryz.func70 (by kernel_rfl) rfl) 71 #[.pointer (some ⟨kb,0,none⟩)] trivial (enters_of Tryz.func71 (by kernel_rfl) rfl) _ _ (by simp only [maxLen];omega) (by omega) w hseq
  have h:Calls Tryz.prog 45 #[.func (.func 71) #[] #[.pointer (some ⟨kb,0,none⟩)]] w _:=callsIn_wide.1 cS
  refine h.mono ?_
  rintro e w' ⟨v,ss,rfl,hS,hrow,hnil,hbw⟩
  have hSn:=hS.trans hperm
  rw [sort_keys hSn hs,show ss.length=ns.length from hSn.length_eq] at hrow
  refine ⟨v,rfl,?_⟩
  have hform:∃A c,v=.slice A ns.length c:=by
    rcases hrow.2 with ⟨h1,h2⟩ | ⟨g,cap,cur,h1,_⟩
    · exact ⟨none,0,by rw [h1,h2]⟩
    · exact ⟨_,cap,h1⟩
  obtain ⟨A,c,rfl⟩:=hform
  exact ⟨A,c,rfl,Sat.later H hrow hbw⟩
end Go.Proofs.YtoffbmhmocfmnaaGreatDoor
namespace Go.Proofs.YtoffbmhmocfmnaaGreatDoor
open Go.RowKit Go.Cg
set_option linter.unusedVariables false
set_option linter.unusedSimpArgs false
set_option maxRecDepth 8000
set_option synthInstance.maxHeartbeats 1000000
set_option synthInstance.maxSize 1000000
open Go.Cg.Dk (Fl Fs Nm crashed tornRest tornAll)
theorem crashU_ct (w:World) (fr:List Res) (db mb room used:Nat) (ops:Int) (armed:Nat) (kA:Option Addr) (kn kc:Nat) (fs:Fs) (t:Tbl) (A:Option Addr) (c:Nat) (k:List Bool) (ok:SlOk fr 1 A k.length c (bools k)) (hris:Dk.rising fs) (hsyn:∀ p∈fs,p.2.syn.length<=p.2.now.length) (hlen:∀ p∈fs,p.2.now.length<=17592186044416) (hnam:∀ p∈t,p.1.length<=24) (hcnt:fs.length<=4398046511104) (hT:Tied t fs) (hus0:Dk.used fs<=1099511627776) (H:Sat w (blk db (.cells #[.map (some mb),.int .i64 ((room:Nat):Int),.int .i64 ((used:Nat):Int),.int .i64 ops,.int .i64 ((armed:Nat):Int),.slice kA kn kc,.int .u32 (dnI false)] 71)::mp (nms) (mkP) mb (tmap t)::filesR t fs::fr)):
    Rt Tryz.prog 27 #[.pointer (some ⟨db,0,none⟩),.slice A k.length c] w fun v w'=>v=.tuple #[]/\Sat w' (blk db (.cells #[.map (some mb),.int .i64 ((room:Nat):Int),.int .i64 ((Dk.used (tornAll fs k):Nat):Int),.int .i64 ops,.int .i64 0,.slice kA kn kc,.int .u32 (dnI true)] 71)::mp (nms) (mkP) mb (tmap t)::filesR t (tornAll fs k)::fr):=by
  refine en2 Tryz.func27 rfl Tryz.ntmps27 rfl fun a S=>?_
  obtain ⟨ns,hns⟩:∃ns,ns=fs.map (·.1):=⟨_,rfl⟩
  refine sb ?_
  refine r_box (c:=#[.slice A k.length c]) S H rfl rfl rfl rfl rfl rfl fun a w b1 S H=>?_
  refine sn ?_
  refine r_seq ?_
  refine sr 4 S H (by omega) fun a w S H=>?_
  refine r_condF S rfl ?_
  refine wp_skip ?_
  refine x_then ?_
  refine sr 8 S H t0 fun a w S H=>?_
  refine sb ?_
  refine r_y S H (y_makeFunc (vs:=#[.pointer (some ⟨b1,0,none⟩)]) S rfl rfl) rfl rfl rfl fun a S=>?_
  refine rs 1 S H t0 fun a w S H=>?_
  refine sb ?_
  refine rn 4 S H t0 fun a w S H=>?_
  refine r_call (args:=#[.map (some mb)]) S rfl rfl Tryz.call46 (keys_ct (H:=H) _ _ mb) rfl rfl rfl fun v a w hR S=>?_
  obtain ⟨kb4,rfl,H⟩:=hR
  refine r_call (args:=#[.func (.func 71) #[] #[.pointer (some ⟨kb4,0,none⟩)]]) S rfl rfl Tryz.call45 (sorted_ct (H:=(pk [0,3,1,2,4] 5 H)) _ _ kb4 mb t ns (hns▸hT) (hns▸List.pairwise_map.2 hris) (by rw [hns];simp;omega) hnam) rfl rfl rfl fun v a w hR S=>?_
  obtain ⟨A5,c6,rfl,H⟩:=hR
  refine rs 2 S H t0 fun a w S H=>?_
  refine r_block ?_
  rw [<-Dk.crashed_zero fs k] at H
  refine r_loop (ι:=Nat×Nat×List Bool×Option Addr×Nat) (fun ⟨i,u,r,Ay,cy⟩ a w=>Slots a 53 [(0,.pointer (some ⟨db,0,none⟩)),(4,.func (.func 50) #[] #[.pointer (some ⟨b1,0,none⟩)]),(24,.slice A5 ns.length c6),(25,.int .i64 ((ns.length:Nat):Int)),(26,.int .i64 ((i:Nat):Int)),(53,undef)]/\Sat w (row 9 1 (.slice A5 ns.length c6) ns.length (strs ns)::blk kb4 (.cells #[.map (some mb)] 62)::blk db (.cells #[.map (some mb),.int .i64 ((room:Nat):Int),.int .i64 ((u:Nat):Int),.int .i64 ops,.int .i64 0,.slice kA kn kc,.int .u32 (dnI true)] 71)::mp (nms) (mkP) mb (tmap t)::filesR t (crashed fs k i)::blk b1 (.cells #[.slice Ay r.length cy] 56)::fr)/\(i<=fs.length/\u=Dk.used (tornAll (fs.take i) k)/\r=tornRest (fs.take i) k/\SlOk fr 1 Ay r.length cy (bools r))) (fun ⟨i,u,r,Ay,cy⟩=>fs.length - i) (0,0,k,A,c) ⟨S.sub ⟨rfl,rfl,rfl,rfl,rfl,rfl,trivial⟩,pk [0,1,4,2,5,3] 6 H,⟨Nat.zero_le _,(Dk.used_zero fs k).symm,(Dk.tornRest_zero fs k).symm,ok⟩⟩ (fun ⟨i,u,r,Ay,cy⟩ a w hI=>?_)
  obtain ⟨S,H,hI⟩:=hI
  obtain ⟨hil,hu,hr,oky⟩:=hI
  refine sr 1 S H t0 fun a w S H=>?_
  refine r_seq ?_
  refine r_test S rfl (fun h27=>?_) (fun h27=>?_)
  · skip
    refine wp_skip ?_
    refine x_then ?_
    refine r_seq ?_
    refine r_block ?_
    have hi:i < fs.length:=by rw [hns] at h27;simp at h27;omega
    obtain ⟨n,f,hn,hmem,hget,hput,hrest,hus⟩:=Dk.crash_at hris k hi
    obtain ⟨fb,hlk⟩:∃fb,tlook t n=some fb:=by
      have h1:n∈t.map (·.1):=hT.mem_iff.1 (List.mem_map.2 ⟨_,hmem,rfl⟩)
      obtain ⟨p,hp,e⟩:=List.mem_map.1 h1
      cases ht:tlook t n with
      | some b=>exact ⟨b,rfl⟩
      | none=>exact absurd e (tlook_none ht p hp)
    rw [<-hr] at hput hrest hus
    obtain ⟨o,r2,hto⟩:∃o r2,Dk.torn f r=(o,r2):=⟨_,_,rfl⟩
    have hsy:f.syn.length<=f.now.length:=hsyn _ hmem
    have hln:f.now.length<=17592186044416:=hlen _ hmem
    have hol:=(Dk.torn_len r hsy).2
    rw [hto] at hol hput hrest hus
    have hol':o.length<=f.now.length:=hol
    have hus':Dk.used (tornAll (fs.take (i+1)) k)=u+Dk.sectors o.length:=by rw [hus,hu]
    have hub:=Dk.used_take hsyn k (i+1)
    refine sb ?_
    obtain ⟨b7,rfl⟩:=H.rowAt (i:=0) rfl (by first | omega | (simp<;>omega))
    refine r_y S H (y_index S rfl rfl rfl Tryz.underlying46 Tryz.sizeOf9 (by omega) (by omega)) rfl rfl rfl fun a S=>?_
    refine r_y S H (y_loadAt S rfl rfl Tryz.isAgg9 (fun w H=>(SlOk.ofRow (i:=0) H rfl).cell w H (strs_at (i:=i) (by first | omega | (simp<;>omega))))) rfl rfl rfl fun a S=>?_
    have S:=S.retell (v':=str (n)) 29 rfl (by rw [hns,hn])
    refine rs 1 S H t0 fun a w S H=>?_
    refine sb ?_
    refine rn 5 S H t0 fun a w S H=>?_
    refine r_y S H (y_lookup (mkv:=mkP) (z:=none) 3 (n) S rfl rfl rfl (KeyOk.nm Tryz.underlying62 Tryz.underlying9) Tryz.zeroValue94 rfl) rfl rfl rfl fun a S=>?_
    have S:=S.retell (v':=.pointer (some ⟨fb,0,none⟩)) 35 rfl (by rw [tlook_tmap,hlk];rfl)
    refine rs 1 S H t0 fun a w S H=>?_
    have H:=Sat.fileOut (hT.nodup hris) hget hlk (pk [4,0,1,2,3,5] 6 H)
    obtain ⟨A1,c1,B1,e1,H⟩:=H.openFile
    refine sb ?_
    refine rn 2 S H t0 fun a w S H=>?_
    refine r_call (args:=#[.pointer (some ⟨fb,0,none⟩),.func (.func 50) #[] #[.pointer (some ⟨b1,0,none⟩)]]) S rfl rfl Tryz.call51 (torn_ct (H:=(pk [0,1,2,8,3,4,5,6,7] 9 H)) _ _ fr (fun _ H=>H.drop.drop.drop.drop.drop) fb b1 A1 c1 B1 e1 f Ay cy r oky hsy hln) rfl rfl rfl fun v a w hR S=>?_
    obtain ⟨rfl,A9,c10,okA9,H⟩:=hR
    rw [hto] at H okA9
    replace H:Sat _ (fileR fb ⟨o,o⟩::blk b1 (.cells #[.slice A9 r2.length c10] 56)::filesR (tdel t n) (crashed fs k i)::row 9 1 (.slice (some ⟨b7,0,none⟩) ns.length c6) ns.length (strs ns)::blk kb4 (.cells #[.map (some mb)] 62)::blk db (.cells #[.map (some mb),.int .i64 ((room:Nat):Int),.int .i64 ((u:Nat):Int),.int .i64 ops,.int .i64 0,.slice kA kn kc,.int .u32 (dnI true)] 71)::mp (nms) (mkP) mb (tmap t)::fr):=H
    replace okA9:SlOk fr 1 A9 r2.length c10 (bools r2):=okA9
    obtain ⟨A11,c12,B13,e14,H⟩:=H.openFile
    replace H:Sat _ (blk fb (.cells #[.slice A11 o.length c12,.slice B13 o.length e14] 105)::row 5 1 (.slice A11 o.length c12) o.length (u8s o)::row 5 1 (.slice B13 o.length e14) o.length (u8s o)::blk b1 (.cells #[.slice A9 r2.length c10] 56)::filesR (tdel t n) (crashed fs k i)::row 9 1 (.slice (some ⟨b7,0,none⟩) ns.length c6) ns.length (strs ns)::blk kb4 (.cells #[.map (some mb)] 62)::blk db (.cells #[.map (some mb),.int .i64 ((room:Nat):Int),.int .i64 ((u:Nat):Int),.int .i64 ops,.int .i64 0,.slice kA kn kc,.int .u32 (dnI true)] 71)::mp (nms) (mkP) mb (tmap t)::fr):=H
    refine sn ?_
    refine ha [0,1,2,3,4,5,6,8] 9 H fun w H HS=>?_
    refine tk 0 S HS fun a S=>?_
    refine tk 1 S HS fun a S=>?_
    refine tk 2 S HS fun a S=>?_
    refine tk 4 S HS fun a S=>?_
    refine tk 5 S HS fun a S=>?_
    refine tk 6 S HS fun a S=>?_
    refine tk 7 S HS fun a S=>?_
    refine tk 8 S HS fun a S=>?_
    refine hmemo [true,true,true,true,true,true,true,true,true,true,false,false,false,false] 4 (fun a w=>Slots a 53 [(0,.pointer (some ⟨db,0,none⟩)),(4,.func (.func 50) #[] #[.pointer (some ⟨b1,0,none⟩)]),(6,str (n)),(7,.pointer (some ⟨fb,0,none⟩)),(24,.slice (some ⟨b7,0,none⟩) ns.length c6),(25,.int .i64 ((ns.length:Nat):Int)),(26,.int .i64 ((i:Nat):Int)),(27,.bool (decide (((i:Nat):Int) < ((ns.length:Nat):Int)))),(28,.pointer (some ⟨b7,0+i*1,none⟩)),(29,str (n)),(30,.pointer (some ⟨db,0,none⟩)),(31,.pointer (some ⟨db,0,none⟩)),(32,.pointer (some ⟨db,0,none⟩)),(33,.map (some mb)),(34,str (n)),(35,.pointer (some ⟨fb,0,none⟩)),(36,.pointer (some ⟨fb,0,none⟩)),(37,.func (.func 50) #[] #[.pointer (some ⟨b1,0,none⟩)]),(39,.pointer (some ⟨db,0,none⟩)),(40,.pointer (some ⟨db,0,none⟩)),(41,.pointer (some ⟨db,2,none⟩)),(42,.int .i64 ((u:Nat):Int)),(43,.pointer (some ⟨fb,0,none⟩)),(44,.pointer (some ⟨fb,0,none⟩)),(45,.pointer (some ⟨fb,0,none⟩)),(46,.slice A11 o.length c12),(47,.int .i64 ((o.length:Nat):Int)),(48,.int .i64 ((Dk.sectors o.length:Nat):Int)),(53,undef)]/\Sat w (blk fb (.cells #[.slice A11 o.length c12,.slice B13 o.length e14] 105)::row 5 1 (.slice A11 o.length c12) o.length (u8s o)::row 5 1 (.slice B13 o.length e14) o.length (u8s o)::blk b1 (.cells #[.slice A9 r2.length c10] 56)::filesR (tdel t n) (crashed fs k i)::row 9 1 (.slice (some ⟨b7,0,none⟩) ns.length c6) ns.length (strs ns)::blk kb4 (.cells #[.map (some mb)] 62)::blk db (.cells #[.map (some mb),.int .i64 ((room:Nat):Int),.int .i64 ((u:Nat):Int),.int .i64 ops,.int .i64 0,.slice kA kn kc,.int .u32 (dnI true)] 71)::mp (nms) (mkP) mb (tmap t)::fr)) ?_ fun K0=>?_
    · rintro a w ⟨S,H⟩
      have HS:Sat w _:=pk [0,1,2,3,4,5,6,8] 9 H
      refine tkC 10 S HS (by omega) fun a S=>?_
      refine tk 11 S HS fun a S=>?_
      refine tk 12 S HS fun a S=>?_
      refine h1 13 ?_
      refine rs 1 S H t0 fun a w S H=>?_
      refine hk (pk [0,1,2,3,4,5,6,8] 9 H) fun HS=>?_
      refine hz ?_
      refine x_blockEnd ?_
      refine x_then ?_
      have H:=Sat.fileIn (hT.nodup hris) hlk (Sat.shutFile ⟨o,o⟩ (pk [0,1,2,4,3,5,6,7,8] 9 H))
      rw [hput] at H
      replace H:Sat _ (filesR t (crashed fs k (i+1))::blk b1 (.cells #[.slice A9 r2.length c10] 56)::row 9 1 (.slice (some ⟨b7,0,none⟩) ns.length c6) ns.length (strs ns)::blk kb4 (.cells #[.map (some mb)] 62)::blk db (.cells #[.map (some mb),.int .i64 ((room:Nat):Int),.int .i64 (((u:Nat):Int)+((Dk.sectors o.length:Nat):Int)),.int .i64 ops,.int .i64 0,.slice kA kn kc,.int .u32 (dnI true)] 71)::mp (nms) (mkP) mb (tmap t)::fr):=H
      refine er 2 S H (by omega) fun a w S H=>?_
      refine x_then ?_
      exact ⟨(i+1,u+Dk.sectors o.length,r2,A9,c10),⟨S.sub ⟨rfl,rfl,rfl,rfl,rfl,rfl,trivial⟩,pk [2,3,4,5,0,1] 6 H,⟨hi,hus'.symm,hrest.symm,okA9⟩⟩,by show fs.length - (i+1) < fs.length - i;omega⟩
    refine h2 3 9 ?_ ?_
    · skip
      refine rs 1 S H t0 fun a w S H=>?_
      refine hk (pk [0,1,2,3,4,5,6,8] 9 H) fun HS=>?_
      refine h1 9 ?_
      refine rs 1 S H (by omega) fun a w S H=>?_
      refine hk (pk [0,1,2,3,4,5,6,8] 9 H) fun HS=>?_
      exact K0 _ _ ⟨S.sub ⟨rfl,rfl,rfl,rfl,rfl,rfl,rfl,rfl,rfl,rfl,rfl,rfl,rfl,rfl,rfl,rfl,rfl,rfl,rfl,rfl,rfl,rfl,rfl,rfl,rfl,rfl,rfl,rfl,rfl,trivial⟩,H⟩
    · skip
      refine rs 1 S H (by omega) fun a w S H=>?_
      refine hk (pk [0,1,2,3,4,5,6,8] 9 H) fun HS=>?_
      refine h1 3 ?_
      refine rs 1 S H t0 fun a w S H=>?_
      refine hk (pk [0,1,2,3,4,5,6,8] 9 H) fun HS=>?_
      exact K0 _ _ ⟨S.sub ⟨rfl,rfl,rfl,rfl,rfl,rfl,rfl,rfl,rfl,rfl,rfl,rfl,rfl,rfl,rfl,rfl,rfl,rfl,rfl,rfl,rfl,rfl,rfl,rfl,rfl,rfl,rfl,rfl,rfl,trivial⟩,H⟩
  refine wp_exit ?_
  refine x_thenExit ?_
  refine x_thenExit ?_
  refine x_blockHere ?_
  refine r_end0 S Tryz.results27 ?_
  have hin:i=fs.length:=by rw [hns] at h27;simp at h27;omega
  have e1:Dk.used (tornAll fs k)=u:=by rw [hu,hin,List.take_length]
  rw [hin,Dk.crashed_all] at H
  rw [e1]
  exact ⟨rfl,pk [2,3,4] 6 H⟩

theorem crashD_ct (w:World) (fr:List Res) (db mb room used:Nat) (ops:Int) (armed:Nat) (kA:Option Addr) (kn kc:Nat) (fs:Fs) (t:Tbl) (A:Option Addr) (c:Nat) (k:List Bool) (H:Sat w (blk db (.cells #[.map (some mb),.int .i64 ((room:Nat):Int),.int .i64 ((used:Nat):Int),.int .i64 ops,.int .i64 ((armed:Nat):Int),.slice kA kn kc,.int .u32 (dnI true)] 71)::mp (nms) (mkP) mb (tmap t)::filesR t fs::fr)):
    Rt Tryz.prog 27 #[.pointer (some ⟨db,0,none⟩),.slice A k.length c] w fun v w'=>v=.tuple #[]/\Sat w' (blk db (.cells #[.map (some mb),.int .i64 ((room:Nat):Int),.int .i64 ((used:Nat):Int),.int .i64 ops,.int .i64 ((armed:Nat):Int),.slice kA kn kc,.int .u32 (dnI true)] 71)::mp (nms) (mkP) mb (tmap t)::filesR t fs::fr):=by
  refine en2 Tryz.func27 rfl Tryz.ntmps27 rfl fun a S=>?_
  refine sb ?_
  refine r_box (c:=#[.slice A k.length c]) S H rfl rfl rfl rfl rfl rfl fun a w b1 S H=>?_
  refine sn ?_
  refine r_seq ?_
  refine sr 4 S H (by omega) fun a w S H=>?_
  refine r_condT S rfl ?_
  refine wp_ret ?_
  refine x_thenRet ?_
  refine r_ret0 S Tryz.results27 ?_
  exact ⟨rfl,H.drop⟩

theorem Tied.nam {t:Tbl} {fs:Fs} (h:Tied t fs) (hn:∀ p∈fs,p.1.length<=24):∀ p∈t,p.1.length<=24:=by
  intro p hp
  obtain ⟨q,hq,e⟩:=List.mem_map.1 (h.mem_iff.2 (List.mem_map.2 ⟨p,hp,rfl⟩))
  have:=hn q hq
  rw [e] at this;exact this
theorem crash_ct (w:World) (fr:List Res) (db mb:Nat) (d:Dk.Disk) (kA:Option Addr) (kc:Nat) (t:Tbl) (A:Option Addr) (c:Nat) (k:List Bool) (ok:SlOk fr 1 A k.length c (bools k)) (hok:d.Ok) (hcnt:d.files.length<=4398046511104) (hT:Tied t d.files) (H:Sat w (dkB db mb d kA kc::tbR mb t::filesR t d.files::fr)):
    Rt Tryz.prog 27 #[.pointer (some ⟨db,0,none⟩),.slice A k.length c] w fun v w'=>v=.tuple #[]/\Sat w' (dkB db mb (d.crash k) kA kc::tbR mb t::filesR t (d.crash k).files::fr):=by
  obtain ⟨files,room,ops,armed,keep,down⟩:=d
  have hu:Dk.used files<=1099511627776:=Nat.le_trans hok.fit hok.room
  cases down with
  | true=>exact crashD_ct w fr db mb room (Dk.used files) ops armed kA keep.length kc files t A c k H
  | false=>exact crashU_ct w fr db mb room (Dk.used files) ops armed kA keep.length kc files t A c k ok hok.ris hok.syn (fun p hp=>Dk.len_le hok (Dk.fget_of_mem hok.ris hp)) (Tied.nam hT hok.nam) hcnt hT hu H
end Go.Proofs.YtoffbmhmocfmnaaGreatDoor
namespace Go.Proofs.YtoffbmhmocfmnaaGreatDoor
open Go.RowKit Go.Cg
set_option linter.unusedVariables false
set_option linter.unusedSimpArgs false
set_option maxRecDepth 8000
set_option synthInstance.maxHeartbeats 1000000
set_option synthInstance.maxSize 1000000
open Go.Cg.Dk (Fl Fs Nm)
theorem begins_ct (w:World) (fr:List Res) (db:Nat) (d:Dk.Disk) (hcnt:d.files.length<=4398046511104) (H:Sat w (diskR db d::fr)):
    Rt Tryz.prog 44 #[.pointer (some ⟨db,0,none⟩)] w fun v w'=>v=.int .i64 ((d.begin_.err:Nat):Int)/\Sat w' (diskR db d.begin_::fr):=by
  refine en1 Tryz.func44 rfl Tryz.ntmps44 rfl fun a S=>?_
  obtain ⟨mb,t,kA,kc,hok,hT,H⟩:=H.openDisk
  have har:=hok.armed
  refine sr 1 S H t0 fun a w S H=>?_
  refine sr 4 S H (by omega) fun a w S H=>?_
  refine r_seq ?_
  refine sr 5 S H t0 fun a w S H=>?_
  refine r_test S rfl (fun h11=>?_) (fun h11=>?_)
  · skip
    refine sr 8 S H (by omega) fun a w S H=>?_
    have e4:((d.armed:Nat):Int) - 1=((d.armed - 1:Nat):Int):=by omega
    rw [e4] at H
    refine sr 5 S H t0 fun a w S H=>?_
    refine r_test S rfl (fun h23=>?_) (fun h23=>?_)
    · skip
      have h1:d.armed=1:=by omega
      have hb:=Dk.begin_1 h1
      have hok1:Dk.Disk.Ok { d with ops:=IntKind.i64.wrap (d.ops+1),armed:=0 }:=⟨hok.ris,hok.syn,hok.fit,hok.room,Nat.zero_le _,hok.nam⟩
      have e5:d.armed - 1=0:=by omega
      rw [e5] at H
      obtain ⟨D,hD⟩:∃D:Dk.Disk,D={ d with ops:=IntKind.i64.wrap (d.ops+1),armed:=0 }:=⟨_,rfl⟩
      obtain ⟨d2,hd2⟩:∃d2:Dk.Disk,d2=D.crash d.keep:=⟨_,rfl⟩
      have hb2:d.begin_=d2:=by rw [hd2,hD];exact hb
      refine r_region ?_
      refine rn 5 S H t0 fun a w S H=>?_
      refine r_call (args:=#[.pointer (some ⟨db,0,none⟩),.slice kA d.keep.length kc]) S rfl rfl Tryz.call27 (crash_ct (H:=H) _ _ db mb { d with ops:=IntKind.i64.wrap (d.ops+1),armed:=0 } kA kc t _ _ _ (SlOk.ofRow (i:=0) (L:=kpR kA kc d.keep::fr) (H.drop.drop.drop) rfl) hok1 hcnt hT) rfl rfl rfl fun v a w hR S=>?_
      obtain ⟨rfl,H⟩:=hR
      rw [<-hD,<-hd2] at H
      have hkk:d2.keep=d.keep:=by rw [hd2,Dk.keep_crash,hD]
      refine r_nil ?_
      refine x_then ?_
      refine r_seq ?_
      refine sr 2 S H (by omega) fun a w S H=>?_
      refine r_cond S rfl (fun h31=>?_) (fun h31=>?_)
      · skip
        refine sr 1 S H t0 fun a w S H=>?_
        refine wp_ret ?_
        refine x_thenRet ?_
        refine r_ret1 S H Tryz.results44 (ro_tmp S rfl) ?_
        have hTb:Tied t d.begin_.files:=by unfold Tied;rw [Dk.names_begin];exact hT
        have hokb:=hok.begin_
        rw [<-hkk] at H
        rw [hb2] at hTb hokb ⊢
        exact ⟨by simp [Dk.Disk.err,h31],Sat.shutDisk _ hokb hTb (H)⟩
      refine wp_skip ?_
      refine x_then ?_
      refine sr 1 S H t0 fun a w S H=>?_
      refine wp_ret ?_
      refine r_ret1 S H Tryz.results44 (ro_tmp S rfl) ?_
      have hTb:Tied t d.begin_.files:=by unfold Tied;rw [Dk.names_begin];exact hT
      have hokb:=hok.begin_
      rw [<-hkk] at H
      rw [hb2] at hTb hokb ⊢
      exact ⟨by simp [Dk.Disk.err,h31],Sat.shutDisk _ hokb hTb (H)⟩
    refine wp_skip ?_
    refine x_then ?_
    refine r_seq ?_
    refine sr 2 S H (by omega) fun a w S H=>?_
    refine r_cond S rfl (fun h31=>?_) (fun h31=>?_)
    · skip
      refine sr 1 S H t0 fun a w S H=>?_
      refine wp_ret ?_
      refine x_thenRet ?_
      refine r_ret1 S H Tryz.results44 (ro_tmp S rfl) ?_
      have hb:=Dk.begin_2 (d:=d) (by omega)
      have hTb:Tied t d.begin_.files:=by unfold Tied;rw [Dk.names_begin];exact hT
      have hokb:=hok.begin_
      rw [hb] at hTb hokb ⊢
      exact ⟨by simp [Dk.Disk.err,h31],Sat.shutDisk _ hokb hTb (H)⟩
    refine wp_skip ?_
    refine x_then ?_
    refine sr 1 S H t0 fun a w S H=>?_
    refine wp_ret ?_
    refine r_ret1 S H Tryz.results44 (ro_tmp S rfl) ?_
    have hb:=Dk.begin_2 (d:=d) (by omega)
    have hTb:Tied t d.begin_.files:=by unfold Tied;rw [Dk.names_begin];exact hT
    have hokb:=hok.begin_
    rw [hb] at hTb hokb ⊢
    exact ⟨by simp [Dk.Disk.err,h31],Sat.shutDisk _ hokb hTb (H)⟩
  refine wp_skip ?_
  refine x_then ?_
  refine r_seq ?_
  refine sr 2 S H (by omega) fun a w S H=>?_
  refine r_cond S rfl (fun h31=>?_) (fun h31=>?_)
  · skip
    refine sr 1 S H t0 fun a w S H=>?_
    refine wp_ret ?_
    refine x_thenRet ?_
    refine r_ret1 S H Tryz.results44 (ro_tmp S rfl) ?_
    have hb:=Dk.begin_0 (d:=d) (by omega)
    have hTb:Tied t d.begin_.files:=by unfold Tied;rw [Dk.names_begin];exact hT
    have hokb:=hok.begin_
    rw [hb] at hTb hokb ⊢
    exact ⟨by simp [Dk.Disk.err,h31],Sat.shutDisk _ hokb hTb (H)⟩
  refine wp_skip ?_
  refine x_then ?_
  refine sr 1 S H t0 fun a w S H=>?_
  refine wp_ret ?_
  refine r_ret1 S H Tryz.results44 (ro_tmp S rfl) ?_
  have hb:=Dk.begin_0 (d:=d) (by omega)
  have hTb:Tied t d.begin_.files:=by unfold Tied;rw [Dk.names_begin];exact hT
  have hokb:=hok.begin_
  rw [hb] at hTb hokb ⊢
  exact ⟨by simp [Dk.Disk.err,h31],Sat.shutDisk _ hokb hTb (H)⟩

end Go.Proofs.YtoffbmhmocfmnaaGreatDoor
namespace Go.Proofs.YtoffbmhmocfmnaaGreatDoor
open Go.RowKit Go.Cg
set_option linter.unusedVariables false
set_option linter.unusedSimpArgs false
set_option maxRecDepth 8000
set_option synthInstance.maxHeartbeats 1000000
set_option synthInstance.maxSize 1000000
open Go.Cg.Dk (Fl Fs Nm)
theorem on_ct (w:World) (fr:List Res) (db:Nat) (d:Dk.Disk) (n:Nm) (hcnt:d.files.length<=4398046511104) (H:Sat w (diskR db d::fr)):
    Rt Tryz.prog 41 #[.pointer (some ⟨db,0,none⟩),str (n)] w fun v w'=>∃p e mb t kA kc,v=.tuple #[mkP p,.int .i64 ((e:Nat):Int)]/\d.begin_.Ok/\Tied t d.begin_.files/\OnSays d.begin_ n t p e/\Sat w' (dkB db mb d.begin_ kA kc::tbR mb t::filesR t d.begin_.files::kpR kA kc d.begin_.keep::fr):=by
  refine en2 Tryz.func41 rfl Tryz.ntmps41 rfl fun a S=>?_
  refine sr 2 S H t0 fun a w S H=>?_
  refine r_seq ?_
  refine sb ?_
  refine rn 1 S H t0 fun a w S H=>?_
  refine r_call (args:=#[.pointer (some ⟨db,0,none⟩)]) S rfl rfl Tryz.call44 (begins_ct (H:=H) _ _ db d hcnt) rfl rfl rfl fun v a w hR S=>?_
  obtain ⟨rfl,H⟩:=hR
  obtain ⟨D,hD⟩:∃D,D=d.begin_:=⟨_,rfl⟩
  rw [<-hD] at H S
  refine rs 1 S H t0 fun a w S H=>?_
  rcases Bool.eq_false_or_eq_true D.down with hd | hd
  · skip
    have he:((D.err:Nat):Int)=7:=by simp [Dk.Disk.err,hd]
    have S:=S.retell (v':=.int .i64 7) 9 rfl (congrArg (Value.int .i64) he)
    have S:=S.retell (v':=.int .i64 7) 6 rfl (congrArg (Value.int .i64) he)
    refine sr 2 S H t0 fun a w S H=>?_
    have S:=S.retell (v':=.bool true) 11 rfl rfl
    refine r_condT S rfl ?_
    refine sr 3 S H t0 fun a w S H=>?_
    refine wp_ret ?_
    refine x_thenRet ?_
    refine r_ret2 S H Tryz.results41 (ro_tmp S rfl) (ro_tmp S rfl) ?_
    obtain ⟨mb,t,kA,kc,hok,hT,H⟩:=H.openDisk
    rw [<-hD]
    exact ⟨none,7,mb,t,kA,kc,rfl,hok,hT,.inl ⟨hd,rfl,rfl⟩,H⟩
  have he:((D.err:Nat):Int)=0:=by simp [Dk.Disk.err,hd]
  have S:=S.retell (v':=.int .i64 0) 9 rfl (congrArg (Value.int .i64) he)
  have S:=S.retell (v':=.int .i64 0) 6 rfl (congrArg (Value.int .i64) he)
  refine sr 2 S H t0 fun a w S H=>?_
  have S:=S.retell (v':=.bool false) 11 rfl rfl
  refine r_condF S rfl ?_
  refine wp_skip ?_
  refine x_then ?_
  refine r_seq ?_
  obtain ⟨mb,t,kA,kc,hok,hT,H⟩:=H.openDisk
  have har:=hok.armed
  refine sb ?_
  refine rn 5 S H t0 fun a w S H=>?_
  refine r_y S H (y_lookup (mkv:=mkP) (z:=none) 1 (n) S rfl rfl rfl (KeyOk.nm Tryz.underlying62 Tryz.underlying9) Tryz.zeroValue94 rfl) rfl rfl rfl fun a S=>?_
  have S:=S.retell (v':=mkP (tlook t n)) 18 rfl (congrArg mkP (tlook_getD t n))
  refine rs 1 S H t0 fun a w S H=>?_
  rcases hl:tlook t n with _ | fb
  · skip
    have S:=S.retell (v':=.pointer none) 18 rfl (by rw [hl];rfl)
    have S:=S.retell (v':=.pointer none) 7 rfl (by rw [hl];rfl)
    refine sr 2 S H t0 fun a w S H=>?_
    refine r_condF S rfl ?_
    refine wp_skip ?_
    refine x_then ?_
    refine sr 2 S H t0 fun a w S H=>?_
    refine wp_ret ?_
    refine r_ret2 S H Tryz.results41 (ro_tmp S rfl) (ro_tmp S rfl) ?_
    rw [<-hD]
    have hf:Dk.fget D.files n=none:=by
      cases hf:Dk.fget D.files n with
      | none=>rfl
      | some f=>obtain ⟨fb,h⟩:=hT.look hf;rw [hl] at h;cases h
    exact ⟨none,4,mb,t,kA,kc,rfl,hok,hT,.inr (.inl ⟨hd,hf,hl,rfl,rfl⟩),H⟩
  have S:=S.retell (v':=.pointer (some ⟨fb,0,none⟩)) 18 rfl (by rw [hl];rfl)
  have S:=S.retell (v':=.pointer (some ⟨fb,0,none⟩)) 7 rfl (by rw [hl];rfl)
  refine sr 2 S H t0 fun a w S H=>?_
  refine r_condT S rfl ?_
  refine sr 3 S H t0 fun a w S H=>?_
  refine wp_ret ?_
  refine x_thenRet ?_
  refine r_ret2 S H Tryz.results41 (ro_tmp S rfl) (ro_tmp S rfl) ?_
  rw [<-hD]
  have hf:∃f,Dk.fget D.files n=some f:=by
    cases hf:Dk.fget D.files n with
    | some f=>exact ⟨f,rfl⟩
    | none=>rw [hT.lookN hf] at hl;cases hl
  obtain ⟨f,hf⟩:=hf
  exact ⟨some fb,0,mb,t,kA,kc,rfl,hok,hT,.inr (.inr ⟨hd,f,fb,hf,hl,rfl,rfl⟩),H⟩

theorem size_ct (w:World) (fr:List Res) (db:Nat) (d:Dk.Disk) (n:Nm) (hcnt:d.files.length<=4398046511104) (H:Sat w (diskR db d::fr)):
    Rt Tryz.prog 26 #[.pointer (some ⟨db,0,none⟩),str (n)] w fun v w'=>v=.tuple #[.int .i64 (((d.size n).2.1:Nat):Int),.int .i64 (((d.size n).2.2:Nat):Int)]/\Sat w' (diskR db (d.size n).1::fr):=by
  refine en2 Tryz.func26 rfl Tryz.ntmps26 rfl fun a S=>?_
  refine sr 2 S H t0 fun a w S H=>?_
  refine sb ?_
  refine rn 2 S H t0 fun a w S H=>?_
  refine r_call (args:=#[.pointer (some ⟨db,0,none⟩),str (n)]) S rfl rfl Tryz.call41 (on_ct (H:=H) _ _ db d n hcnt) rfl rfl rfl fun v a w hR S=>?_
  obtain ⟨p,e,mb,t,kA,kc,rfl,hok,hT,hon,H⟩:=hR
  have har:=hok.armed
  obtain ⟨D,hD⟩:∃D,D=d.begin_:=⟨_,rfl⟩
  rw [<-hD] at hok hT hon H har
  refine rs 5 S H t0 fun a w S H=>?_
  refine r_seq ?_
  rcases hon with ⟨hd,rfl,rfl⟩ | ⟨hd,hf,hl,rfl,rfl⟩ | ⟨hd,f,fb,hf,hl,rfl,rfl⟩
  · skip
    have S:=S.retell (v':=.pointer none) 12 rfl rfl
    have S:=S.retell (v':=.int .i64 7) 13 rfl rfl
    have S:=S.retell (v':=.pointer none) 6 rfl rfl
    have S:=S.retell (v':=.int .i64 7) 7 rfl rfl
    refine sr 2 S H t0 fun a w S H=>?_
    have S:=S.retell (v':=.bool true) 15 rfl rfl
    refine r_condT S rfl ?_
    refine sr 3 S H t0 fun a w S H=>?_
    refine wp_ret ?_
    refine x_thenRet ?_
    refine r_ret2 S H Tryz.results26 (ro_tmp S rfl) (ro_tmp S rfl) ?_
    have hs:d.size n=(D,0,7):=by unfold Dk.Disk.size;rw [<-hD];simp [hd]
    rw [hs]
    exact ⟨rfl,Sat.shutDisk D hok hT (H)⟩
  · skip
    have S:=S.retell (v':=.pointer none) 12 rfl rfl
    have S:=S.retell (v':=.int .i64 4) 13 rfl rfl
    have S:=S.retell (v':=.pointer none) 6 rfl rfl
    have S:=S.retell (v':=.int .i64 4) 7 rfl rfl
    refine sr 2 S H t0 fun a w S H=>?_
    have S:=S.retell (v':=.bool true) 15 rfl rfl
    refine r_condT S rfl ?_
    refine sr 3 S H t0 fun a w S H=>?_
    refine wp_ret ?_
    refine x_thenRet ?_
    refine r_ret2 S H Tryz.results26 (ro_tmp S rfl) (ro_tmp S rfl) ?_
    have hs:d.size n=(D,0,4):=by unfold Dk.Disk.size;rw [<-hD];simp [hd,hf]
    rw [hs]
    exact ⟨rfl,Sat.shutDisk D hok hT (H)⟩
  have S:=S.retell (v':=.pointer (some ⟨fb,0,none⟩)) 12 rfl rfl
  have S:=S.retell (v':=.int .i64 0) 13 rfl rfl
  have S:=S.retell (v':=.pointer (some ⟨fb,0,none⟩)) 6 rfl rfl
  have S:=S.retell (v':=.int .i64 0) 7 rfl rfl
  have H:=Sat.fileOut (hT.nodup hok.ris) hf hl (pk [2,0,1,3] 4 H)
  have hln:=Dk.len_le hok hf
  have hsy:f.syn.length<=f.now.length:=hok.syn _ (Dk.mem_of_fget hf)
  obtain ⟨Af,cf,Bf,ef,H⟩:=H.openFile
  refine sr 2 S H t0 fun a w S H=>?_
  have S:=S.retell (v':=.bool false) 15 rfl rfl
  refine r_condF S rfl ?_
  refine wp_skip ?_
  refine x_then ?_
  refine sr 7 S H t0 fun a w S H=>?_
  refine wp_ret ?_
  refine r_ret2 S H Tryz.results26 (ro_tmp S rfl) (ro_tmp S rfl) ?_
  have H:=Sat.fileIn (hT.nodup hok.ris) hl (Sat.shutFile f H)
  rw [Dk.fput_same hok.ris hf] at H
  have hs:d.size n=(D,f.now.length,0):=by unfold Dk.Disk.size;rw [<-hD];simp [hd,hf]
  rw [hs]
  exact ⟨rfl,Sat.shutDisk D hok hT (pk [1,2,0,3] 4 H)⟩

instance {L L':List Res} (db i:Nat) (d:Dk.Disk) (n:Nm) [hf:FdD L db d i] [hs:St L i (diskR db (d.size n).1) L']:Cal Tryz.prog L 26 [.pointer (some ⟨db,0,none⟩),str n] (.tuple #[.int .i64 (((d.size n).2.1:Nat):Int),.int .i64 (((d.size n).2.2:Nat):Int)]) L' (((d.files.length:Nat):Int)<=4398046511104):=⟨Tryz.call26,fun hc w H=>disk_at (fun fr H=>size_ct w fr db d n (by omega) H) H⟩
theorem sync_ct (w:World) (fr:List Res) (db:Nat) (d:Dk.Disk) (n:Nm) (hcnt:d.files.length<=4398046511104) (H:Sat w (diskR db d::fr)):
    Rt Tryz.prog 99 #[.pointer (some ⟨db,0,none⟩),str (n)] w fun v w'=>v=.int .i64 (((d.sync n).2:Nat):Int)/\Sat w' (diskR db (d.sync n).1::fr):=by
  refine en2 Tryz.func99 rfl Tryz.ntmps99 rfl fun a S=>?_
  have hdok:=H.diskOk
  refine sr 1 S H t0 fun a w S H=>?_
  refine sb ?_
  refine rn 2 S H t0 fun a w S H=>?_
  refine r_call (args:=#[.pointer (some ⟨db,0,none⟩),str (n)]) S rfl rfl Tryz.call41 (on_ct (H:=H) _ _ db d n hcnt) rfl rfl rfl fun v a w hR S=>?_
  obtain ⟨p,e,mb,t,kA,kc,rfl,hok,hT,hon,H⟩:=hR
  have har:=hok.armed
  obtain ⟨D,hD⟩:∃D,D=d.begin_:=⟨_,rfl⟩
  rw [<-hD] at hok hT hon H har
  refine rs 5 S H t0 fun a w S H=>?_
  refine r_seq ?_
  rcases hon with ⟨hd,rfl,rfl⟩ | ⟨hd,hf,hl,rfl,rfl⟩ | ⟨hd,f,fb,hf,hl,rfl,rfl⟩
  · skip
    have S:=S.retell (v':=.pointer none) 11 rfl rfl
    have S:=S.retell (v':=.int .i64 7) 12 rfl rfl
    have S:=S.retell (v':=.pointer none) 5 rfl rfl
    have S:=S.retell (v':=.int .i64 7) 6 rfl rfl
    refine sr 2 S H t0 fun a w S H=>?_
    have S:=S.retell (v':=.bool false) 14 rfl rfl
    refine r_condF S rfl ?_
    refine wp_skip ?_
    refine x_then ?_
    refine sr 2 S H t0 fun a w S H=>?_
    refine wp_ret ?_
    refine r_ret1 S H Tryz.results99 (ro_tmp S rfl) ?_
    have hs:d.sync n=(D,7):=by unfold Dk.Disk.sync;rw [<-hD];simp [hd]
    rw [hs]
    exact ⟨rfl,Sat.shutDisk D hok hT (H)⟩
  · skip
    have S:=S.retell (v':=.pointer none) 11 rfl rfl
    have S:=S.retell (v':=.int .i64 4) 12 rfl rfl
    have S:=S.retell (v':=.pointer none) 5 rfl rfl
    have S:=S.retell (v':=.int .i64 4) 6 rfl rfl
    refine sr 2 S H t0 fun a w S H=>?_
    have S:=S.retell (v':=.bool false) 14 rfl rfl
    refine r_condF S rfl ?_
    refine wp_skip ?_
    refine x_then ?_
    refine sr 2 S H t0 fun a w S H=>?_
    refine wp_ret ?_
    refine r_ret1 S H Tryz.results99 (ro_tmp S rfl) ?_
    have hs:d.sync n=(D,4):=by unfold Dk.Disk.sync;rw [<-hD];simp [hd,hf]
    rw [hs]
    exact ⟨rfl,Sat.shutDisk D hok hT (H)⟩
  have S:=S.retell (v':=.pointer (some ⟨fb,0,none⟩)) 11 rfl rfl
  have S:=S.retell (v':=.int .i64 0) 12 rfl rfl
  have S:=S.retell (v':=.pointer (some ⟨fb,0,none⟩)) 5 rfl rfl
  have S:=S.retell (v':=.int .i64 0) 6 rfl rfl
  have H:=Sat.fileOut (hT.nodup hok.ris) hf hl (pk [2,0,1,3] 4 H)
  have hln:=Dk.len_le hok hf
  have hsy:f.syn.length<=f.now.length:=hok.syn _ (Dk.mem_of_fget hf)
  obtain ⟨Af,cf,Bf,ef,H⟩:=H.openFile
  refine sr 2 S H t0 fun a w S H=>?_
  have S:=S.retell (v':=.bool true) 14 rfl rfl
  refine r_condT S rfl ?_
  refine r_region ?_
  refine rn 5 S H t0 fun a w S H=>?_
  refine r_call (args:=#[.slice Af f.now.length cf]) S rfl rfl Tryz.call74 (clone8_ct (H:=H) _ _ _ _ _ f.now (SlOk.ofRow (i:=1) H rfl) (by omega)) rfl rfl rfl fun v a w hR S=>?_
  obtain ⟨A5,c6,rfl,H⟩:=hR
  refine rn 3 S H t0 fun a w S H=>?_
  refine r_nil ?_
  refine x_then ?_
  refine sr 2 S H t0 fun a w S H=>?_
  refine wp_ret ?_
  refine r_ret1 S H Tryz.results99 (ro_tmp S rfl) ?_
  have H:=Sat.fileIn (hT.nodup hok.ris) hl (Sat.shutFile ⟨f.now,f.now⟩ (pk [1,2,0,4,3,5,6,7] 8 H))
  have hu:=Dk.used_fput_old (g:=⟨f.now,f.now⟩) hok.ris hf
  have hu':Dk.used (Dk.fput D.files n ⟨f.now,f.now⟩)=D.used:=by simp only at hu;unfold Dk.Disk.used;omega
  have hok2:=(hdok.sync n)
  have hs:d.sync n=({ D with files:=Dk.fput D.files n ⟨f.now,f.now⟩ },0):=by unfold Dk.Disk.sync;rw [<-hD];simp [hd,hf]
  rw [hs] at hok2
  rw [hs]
  exact ⟨rfl,Sat.shutU _ hok2 (hT.put hok.ris hf) (u:=D.used) hu'.symm (pk [2,3,0,4] 5 H)⟩

instance {L L':List Res} (db i:Nat) (d:Dk.Disk) (n:Nm) [hf:FdD L db d i] [hs:St L i (diskR db (d.sync n).1) L']:Cal Tryz.prog L 99 [.pointer (some ⟨db,0,none⟩),str n] (.int .i64 (((d.sync n).2:Nat):Int)) L' (((d.files.length:Nat):Int)<=4398046511104):=⟨Tryz.call99,fun hc w H=>disk_at (fun fr H=>sync_ct w fr db d n (by omega) H) H⟩
theorem create_ct (w:World) (fr:List Res) (db:Nat) (d:Dk.Disk) (n:Nm) (hcnt:d.files.length<=4398046511104) (H:Sat w (diskR db d::fr)):
    Rt Tryz.prog 24 #[.pointer (some ⟨db,0,none⟩),str (n)] w fun v w'=>v=.int .i64 (((d.create n).2:Nat):Int)/\Sat w' (diskR db (d.create n).1::fr):=by
  refine en2 Tryz.func24 rfl Tryz.ntmps24 rfl fun a S=>?_
  have hdok:=H.diskOk
  refine sr 1 S H t0 fun a w S H=>?_
  refine r_seq ?_
  refine sb ?_
  refine rn 2 S H t0 fun a w S H=>?_
  refine r_call (args:=#[.pointer (some ⟨db,0,none⟩),str (n)]) S rfl rfl Tryz.call41 (on_ct (H:=H) _ _ db d n hcnt) rfl rfl rfl fun v a w hR S=>?_
  obtain ⟨p,e,mb,t,kA,kc,rfl,hok,hT,hon,H⟩:=hR
  have har:=hok.armed
  obtain ⟨D,hD⟩:∃D,D=d.begin_:=⟨_,rfl⟩
  rw [<-hD] at hok hT hon H har
  refine rs 5 S H t0 fun a w S H=>?_
  refine r_block ?_
  rcases hon with ⟨hd,rfl,rfl⟩ | ⟨hd,hf,hl,rfl,rfl⟩ | ⟨hd,f,fb,hf,hl,rfl,rfl⟩
  · skip
    have S:=S.retell (v':=.pointer none) 11 rfl rfl
    have S:=S.retell (v':=.int .i64 7) 12 rfl rfl
    have S:=S.retell (v':=.pointer none) 5 rfl rfl
    have S:=S.retell (v':=.int .i64 7) 6 rfl rfl
    refine sb ?_
    refine rn 2 S H t0 fun a w S H=>?_
    have S:=S.retell (v':=.bool true) 15 rfl rfl
    refine rs 1 S H t0 fun a w S H=>?_
    refine r_condT S rfl ?_
    refine sr 2 S H t0 fun a w S H=>?_
    refine wp_ret ?_
    refine x_blockRet ?_
    refine x_thenRet ?_
    refine r_ret1 S H Tryz.results24 (ro_tmp S rfl) ?_
    have hs:d.create n=(D,7):=by unfold Dk.Disk.create;rw [<-hD];simp [hd]
    rw [hs]
    exact ⟨rfl,Sat.shutDisk D hok hT (H)⟩
  · skip
    have S:=S.retell (v':=.pointer none) 11 rfl rfl
    have S:=S.retell (v':=.int .i64 4) 12 rfl rfl
    have S:=S.retell (v':=.pointer none) 5 rfl rfl
    have S:=S.retell (v':=.int .i64 4) 6 rfl rfl
    refine sb ?_
    refine rn 2 S H t0 fun a w S H=>?_
    have S:=S.retell (v':=.bool false) 15 rfl rfl
    refine rs 1 S H t0 fun a w S H=>?_
    refine r_condF S rfl ?_
    refine sr 4 S H (by omega) fun a w S H=>?_
    refine r_cond S rfl (fun h17=>?_) (fun h17=>?_)
    · skip
      refine sr 1 S H t0 fun a w S H=>?_
      refine wp_ret ?_
      refine x_blockRet ?_
      refine x_thenRet ?_
      refine r_ret1 S H Tryz.results24 (ro_tmp S rfl) ?_
      have hm:Dk.may n=false:=by simpa using h17
      have hs:d.create n=(D,1):=by unfold Dk.Disk.create;rw [<-hD];simp [hd,hm]
      rw [hs]
      exact ⟨rfl,Sat.shutDisk D hok hT (H)⟩
    refine sb ?_
    refine rn 2 S H t0 fun a w S H=>?_
    have S:=S.retell (v':=.bool false) 23 rfl rfl
    refine rs 1 S H t0 fun a w S H=>?_
    refine r_condF S rfl ?_
    refine wp_skip ?_
    refine x_blockEnd ?_
    refine x_then ?_
    refine sb ?_
    refine rn 5 S H t0 fun a w S H=>?_
    refine r_y S H (y_build (vs:=#[]) (v:=.agg #[.slice none 0 0,.slice none 0 0]) S rfl rfl (fun w=>by kernel_rfl)) rfl rfl rfl fun a S=>?_
    refine r_box (c:=#[.slice none 0 0,.slice none 0 0]) S H rfl rfl rfl rfl rfl rfl fun a w b1 S H=>?_
    refine r_mapSet (L':=blk b1 (.cells #[.slice none 0 0,.slice none 0 0] 105)::blk db (.cells #[.map (some mb),.int .i64 ((D.room:Nat):Int),.int .i64 ((D.used:Nat):Int),.int .i64 D.ops,.int .i64 ((D.armed:Nat):Int),.slice kA D.keep.length kc,.int .u32 (dnI D.down)] 71)::mp (nms) (mkP) mb (tmap (t++[(n,b1)]))::filesR t D.files::row 4 1 (.slice kA D.keep.length kc) D.keep.length (bools D.keep)::fr) 2 (n) (some b1) S H rfl rfl rfl rfl (KeyOk.nm Tryz.underlying62 Tryz.underlying9) rfl (by rw [tupd_tmap hl];rfl) rfl rfl fun w H=>?_
    refine sn ?_
    refine sr 1 S H t0 fun a w S H=>?_
    refine wp_ret ?_
    refine r_ret1 S H Tryz.results24 (ro_tmp S rfl) ?_
    have hm:Dk.may n=true:=by simpa using h17
    have H:=(pk [0,3,1,2,4] 5 H)
    have H:=((H.nilRow 5 1).nilRow 5 1)
    have H:=pk [2,0,1,3,4,5,6] 7 H
    have H:=Sat.fileNew hl (Sat.shutFile (fb:=b1) ⟨[],[]⟩ H)
    have hu:D.used=Dk.used (Dk.fput D.files n ⟨[],[]⟩):=by rw [Dk.used_fput_new hf];rfl
    have hok2:=(hdok.create n)
    have hs:d.create n=({ D with files:=Dk.fput D.files n ⟨[],[]⟩ },0):=by unfold Dk.Disk.create;rw [<-hD];simp [hd,hm,hf]
    rw [hs] at hok2
    rw [hs]
    exact ⟨rfl,Sat.shutU _ hok2 (hT.new hf) (u:=D.used) hu (pk [1,2,0,3] 4 H)⟩
  have S:=S.retell (v':=.pointer (some ⟨fb,0,none⟩)) 11 rfl rfl
  have S:=S.retell (v':=.int .i64 0) 12 rfl rfl
  have S:=S.retell (v':=.pointer (some ⟨fb,0,none⟩)) 5 rfl rfl
  have S:=S.retell (v':=.int .i64 0) 6 rfl rfl
  have H:=Sat.fileOut (hT.nodup hok.ris) hf hl (pk [2,0,1,3] 4 H)
  have hln:=Dk.len_le hok hf
  have hsy:f.syn.length<=f.now.length:=hok.syn _ (Dk.mem_of_fget hf)
  obtain ⟨Af,cf,Bf,ef,H⟩:=H.openFile
  refine sb ?_
  refine rn 2 S H t0 fun a w S H=>?_
  have S:=S.retell (v':=.bool false) 15 rfl rfl
  refine rs 1 S H t0 fun a w S H=>?_
  refine r_condF S rfl ?_
  refine sr 4 S H (by omega) fun a w S H=>?_
  refine r_cond S rfl (fun h17=>?_) (fun h17=>?_)
  · skip
    refine sr 1 S H t0 fun a w S H=>?_
    refine wp_ret ?_
    refine x_blockRet ?_
    refine x_thenRet ?_
    refine r_ret1 S H Tryz.results24 (ro_tmp S rfl) ?_
    have hm:Dk.may n=false:=by simpa using h17
    have H:=Sat.fileIn (hT.nodup hok.ris) hl (Sat.shutFile f H)
    rw [Dk.fput_same hok.ris hf] at H
    have hs:d.create n=(D,1):=by unfold Dk.Disk.create;rw [<-hD];simp [hd,hm]
    rw [hs]
    exact ⟨rfl,Sat.shutDisk D hok hT (pk [1,2,0,3] 4 H)⟩
  refine sb ?_
  refine rn 2 S H t0 fun a w S H=>?_
  have S:=S.retell (v':=.bool true) 23 rfl rfl
  refine rs 1 S H t0 fun a w S H=>?_
  refine r_condT S rfl ?_
  refine sr 1 S H t0 fun a w S H=>?_
  refine wp_ret ?_
  refine x_blockRet ?_
  refine x_thenRet ?_
  refine r_ret1 S H Tryz.results24 (ro_tmp S rfl) ?_
  have hm:Dk.may n=true:=by simpa using h17
  have H:=Sat.fileIn (hT.nodup hok.ris) hl (Sat.shutFile f H)
  rw [Dk.fput_same hok.ris hf] at H
  have hs:d.create n=(D,5):=by unfold Dk.Disk.create;rw [<-hD];simp [hd,hm,hf]
  rw [hs]
  exact ⟨rfl,Sat.shutDisk D hok hT (pk [1,2,0,3] 4 H)⟩

instance {L L':List Res} (db i:Nat) (d:Dk.Disk) (n:Nm) [hf:FdD L db d i] [hs:St L i (diskR db (d.create n).1) L']:Cal Tryz.prog L 24 [.pointer (some ⟨db,0,none⟩),str n] (.int .i64 (((d.create n).2:Nat):Int)) L' (((d.files.length:Nat):Int)<=4398046511104):=⟨Tryz.call24,fun hc w H=>disk_at (fun fr H=>create_ct w fr db d n (by omega) H) H⟩
theorem gone_ct (w:World) (fr:List Res) (db mb:Nat) (D:Dk.Disk) (kA:Option Addr) (kc:Nat) (t:Tbl) (n:Nm) (hok:D.Ok) (hT:Tied t D.files) (H:Sat w (blk db (.cells #[.map (some mb),.int .i64 ((D.room:Nat):Int),.int .i64 ((D.used:Nat):Int),.int .i64 D.ops,.int .i64 ((D.armed:Nat):Int),.slice kA D.keep.length kc,.int .u32 (dnI D.down)] 71)::mp (nms) (mkP) mb (tmap t)::filesR t D.files::fr)):
    Rt Tryz.prog 42 #[.pointer (some ⟨db,0,none⟩),str (n)] w fun v w'=>v=.tuple #[]/\Sat w' (blk db (.cells #[.map (some mb),.int .i64 ((D.room:Nat):Int),.int .i64 ((Dk.used (Dk.fdel D.files n):Nat):Int),.int .i64 D.ops,.int .i64 ((D.armed:Nat):Int),.slice kA D.keep.length kc,.int .u32 (dnI D.down)] 71)::mp (nms) (mkP) mb (tmap (tdel t n))::filesR (tdel t n) (Dk.fdel D.files n)::fr):=by
  refine en2 Tryz.func42 rfl Tryz.ntmps42 rfl fun a S=>?_
  refine sb ?_
  refine rn 5 S H t0 fun a w S H=>?_
  refine r_y S H (y_lookup (mkv:=mkP) (z:=none) 1 (n) S rfl rfl rfl (KeyOk.nm Tryz.underlying62 Tryz.underlying9) Tryz.zeroValue94 rfl) rfl rfl rfl fun a S=>?_
  have S:=S.retell (v':=mkP (tlook t n)) 10 rfl (congrArg mkP (tlook_getD t n))
  refine rs 1 S H t0 fun a w S H=>?_
  rcases hl:tlook t n with _ | fb
  · skip
    have S:=S.retell (v':=.pointer none) 10 rfl (by rw [hl];rfl)
    have S:=S.retell (v':=.pointer none) 4 rfl (by rw [hl];rfl)
    have hf:Dk.fget D.files n=none:=by
      cases hf:Dk.fget D.files n with
      | none=>rfl
      | some f=>obtain ⟨fb,h⟩:=hT.look hf;rw [hl] at h;cases h
    refine sr 2 S H t0 fun a w S H=>?_
    refine r_condF S rfl ?_
    refine wp_skip ?_
    refine r_end0 S Tryz.results42 ?_
    rw [tdel_none hl,Dk.fdel_none hf]
    exact ⟨rfl,H⟩
  have S:=S.retell (v':=.pointer (some ⟨fb,0,none⟩)) 10 rfl (by rw [hl];rfl)
  have S:=S.retell (v':=.pointer (some ⟨fb,0,none⟩)) 4 rfl (by rw [hl];rfl)
  obtain ⟨f,hf⟩:∃f,Dk.fget D.files n=some f:=by
    cases hf:Dk.fget D.files n with
    | some f=>exact ⟨f,rfl⟩
    | none=>rw [hT.lookN hf] at hl;cases hl
  have H:=Sat.fileOut (hT.nodup hok.ris) hf hl (pk [2,0,1] 3 H)
  have hln:=Dk.len_le hok hf
  have hsy:f.syn.length<=f.now.length:=hok.syn _ (Dk.mem_of_fget hf)
  obtain ⟨Af,cf,Bf,ef,H⟩:=H.openFile
  have hu1:=Dk.used_fdel hok.ris hf
  have hu2:D.used=Dk.used D.files:=rfl
  have hfit:=hok.fit
  have hroom:=hok.room
  refine sr 2 S H t0 fun a w S H=>?_
  refine r_condT S rfl ?_
  refine r_seq ?_
  refine ha [0,1,2,3,5] 6 H fun w H HS=>?_
  refine tk 0 S HS fun a S=>?_
  refine tk 1 S HS fun a S=>?_
  refine tk 2 S HS fun a S=>?_
  refine tk 4 S HS fun a S=>?_
  refine tk 5 S HS fun a S=>?_
  refine tk 6 S HS fun a S=>?_
  refine tk 7 S HS fun a S=>?_
  refine tk 8 S HS fun a S=>?_
  refine hmemo [true,true,true,true,true,true,true,true,true,true,false,false,false,false] 4 (fun a w=>Slots a 31 [(0,.pointer (some ⟨db,0,none⟩)),(1,str (n)),(13,.pointer (some ⟨db,0,none⟩)),(16,.int .i64 ((D.used:Nat):Int)),(22,.int .i64 ((Dk.sectors f.now.length:Nat):Int)),(31,undef)]/\Sat w (blk fb (.cells #[.slice Af f.now.length cf,.slice Bf f.syn.length ef] 105)::row 5 1 (.slice Af f.now.length cf) f.now.length (u8s f.now)::row 5 1 (.slice Bf f.syn.length ef) f.syn.length (u8s f.syn)::filesR (tdel t n) D.files::blk db (.cells #[.map (some mb),.int .i64 ((D.room:Nat):Int),.int .i64 ((D.used:Nat):Int),.int .i64 D.ops,.int .i64 ((D.armed:Nat):Int),.slice kA D.keep.length kc,.int .u32 (dnI D.down)] 71)::mp (nms) (mkP) mb (tmap t)::fr)) ?_ fun K0=>?_
  · rintro a w ⟨S,H⟩
    have HS:Sat w _:=pk [0,1,2,3,5] 6 H
    refine tkC 10 S HS (by omega) fun a S=>?_
    refine tk 11 S HS fun a S=>?_
    refine tk 12 S HS fun a S=>?_
    refine h1 13 ?_
    refine rs 1 S H t0 fun a w S H=>?_
    refine hk (pk [0,1,2,3,5] 6 H) fun HS=>?_
    refine hz ?_
    refine x_then ?_
    refine r_region ?_
    refine rn 5 S H t0 fun a w S H=>?_
    refine r_mapDel (l':=tmap (tdel t n)) (L':=blk fb (.cells #[.slice Af f.now.length cf,.slice Bf f.syn.length ef] 105)::row 5 1 (.slice Af f.now.length cf) f.now.length (u8s f.now)::row 5 1 (.slice Bf f.syn.length ef) f.syn.length (u8s f.syn)::filesR (tdel t n) D.files::blk db (.cells #[.map (some mb),.int .i64 ((D.room:Nat):Int),.int .i64 (((D.used:Nat):Int) - ((Dk.sectors f.now.length:Nat):Int)),.int .i64 D.ops,.int .i64 ((D.armed:Nat):Int),.slice kA D.keep.length kc,.int .u32 (dnI D.down)] 71)::mp (nms) (mkP) mb (tmap (tdel t n))::fr) 5 (n) S H rfl rfl rfl (KeyOk.nm Tryz.underlying62 Tryz.underlying9) rfl (nodup_tmap (hT.nodup hok.ris)) (tmap_del t n) rfl rfl rfl fun w H=>?_
    refine r_nil ?_
    refine r_end0 S Tryz.results42 ?_
    have e1:(((D.used:Nat):Int) - ((Dk.sectors f.now.length:Nat):Int))=((Dk.used (Dk.fdel D.files n):Nat):Int):=by omega
    rw [e1] at H
    have H:=pk [4,5,3] 6 H
    have H:=pk [2,0,1] 3 H
    have H:=Sat.fileGone H
    exact ⟨rfl,pk [1,2,0] 3 H⟩
  refine h2 3 9 ?_ ?_
  · skip
    refine rs 1 S H t0 fun a w S H=>?_
    refine hk (pk [0,1,2,3,5] 6 H) fun HS=>?_
    refine h1 9 ?_
    refine rs 1 S H (by omega) fun a w S H=>?_
    refine hk (pk [0,1,2,3,5] 6 H) fun HS=>?_
    exact K0 _ _ ⟨S.sub ⟨rfl,rfl,rfl,rfl,rfl,rfl,trivial⟩,H⟩
  · skip
    refine rs 1 S H (by omega) fun a w S H=>?_
    refine hk (pk [0,1,2,3,5] 6 H) fun HS=>?_
    refine h1 3 ?_
    refine rs 1 S H t0 fun a w S H=>?_
    refine hk (pk [0,1,2,3,5] 6 H) fun HS=>?_
    exact K0 _ _ ⟨S.sub ⟨rfl,rfl,rfl,rfl,rfl,rfl,trivial⟩,H⟩

theorem remove_ct (w:World) (fr:List Res) (db:Nat) (d:Dk.Disk) (n:Nm) (hcnt:d.files.length<=4398046511104) (H:Sat w (diskR db d::fr)):
    Rt Tryz.prog 18 #[.pointer (some ⟨db,0,none⟩),str (n)] w fun v w'=>v=.int .i64 (((d.remove n).2:Nat):Int)/\Sat w' (diskR db (d.remove n).1::fr):=by
  refine en2 Tryz.func18 rfl Tryz.ntmps18 rfl fun a S=>?_
  refine sr 1 S H t0 fun a w S H=>?_
  refine sb ?_
  refine rn 2 S H t0 fun a w S H=>?_
  refine r_call (args:=#[.pointer (some ⟨db,0,none⟩),str (n)]) S rfl rfl Tryz.call41 (on_ct (H:=H) _ _ db d n hcnt) rfl rfl rfl fun v a w hR S=>?_
  obtain ⟨p,e,mb,t,kA,kc,rfl,hok,hT,hon,H⟩:=hR
  have har:=hok.armed
  obtain ⟨D,hD⟩:∃D,D=d.begin_:=⟨_,rfl⟩
  rw [<-hD] at hok hT hon H har
  refine rs 5 S H t0 fun a w S H=>?_
  refine r_seq ?_
  rcases hon with ⟨hd,rfl,rfl⟩ | ⟨hd,hf,hl,rfl,rfl⟩ | ⟨hd,f,fb,hf,hl,rfl,rfl⟩
  · skip
    have S:=S.retell (v':=.pointer none) 11 rfl rfl
    have S:=S.retell (v':=.int .i64 7) 12 rfl rfl
    have S:=S.retell (v':=.pointer none) 5 rfl rfl
    have S:=S.retell (v':=.int .i64 7) 6 rfl rfl
    refine sr 2 S H t0 fun a w S H=>?_
    have S:=S.retell (v':=.bool false) 14 rfl rfl
    refine r_condF S rfl ?_
    refine wp_skip ?_
    refine x_then ?_
    refine sr 2 S H t0 fun a w S H=>?_
    refine wp_ret ?_
    refine r_ret1 S H Tryz.results18 (ro_tmp S rfl) ?_
    have hs:d.remove n=(D,7):=by unfold Dk.Disk.remove;rw [<-hD];simp [hd]
    rw [hs]
    exact ⟨rfl,Sat.shutDisk D hok hT (H)⟩
  · skip
    have S:=S.retell (v':=.pointer none) 11 rfl rfl
    have S:=S.retell (v':=.int .i64 4) 12 rfl rfl
    have S:=S.retell (v':=.pointer none) 5 rfl rfl
    have S:=S.retell (v':=.int .i64 4) 6 rfl rfl
    refine sr 2 S H t0 fun a w S H=>?_
    have S:=S.retell (v':=.bool false) 14 rfl rfl
    refine r_condF S rfl ?_
    refine wp_skip ?_
    refine x_then ?_
    refine sr 2 S H t0 fun a w S H=>?_
    refine wp_ret ?_
    refine r_ret1 S H Tryz.results18 (ro_tmp S rfl) ?_
    have hs:d.remove n=(D,4):=by unfold Dk.Disk.remove;rw [<-hD];simp [hd,hf]
    rw [hs]
    exact ⟨rfl,Sat.shutDisk D hok hT (H)⟩
  have S:=S.retell (v':=.pointer (some ⟨fb,0,none⟩)) 11 rfl rfl
  have S:=S.retell (v':=.int .i64 0) 12 rfl rfl
  have S:=S.retell (v':=.pointer (some ⟨fb,0,none⟩)) 5 rfl rfl
  have S:=S.retell (v':=.int .i64 0) 6 rfl rfl
  refine sr 2 S H t0 fun a w S H=>?_
  have S:=S.retell (v':=.bool true) 14 rfl rfl
  refine r_condT S rfl ?_
  refine r_region ?_
  refine rn 2 S H t0 fun a w S H=>?_
  refine r_call (args:=#[.pointer (some ⟨db,0,none⟩),str (n)]) S rfl rfl Tryz.call42 (gone_ct (H:=H) _ _ db mb D kA kc t n hok hT) rfl rfl rfl fun v a w hR S=>?_
  obtain ⟨rfl,H⟩:=hR
  refine r_nil ?_
  refine x_then ?_
  refine sr 2 S H t0 fun a w S H=>?_
  refine wp_ret ?_
  refine r_ret1 S H Tryz.results18 (ro_tmp S rfl) ?_
  have hs:d.remove n=({ D with files:=Dk.fdel D.files n },0):=by unfold Dk.Disk.remove;rw [<-hD];simp [hd,hf]
  rw [hs]
  exact ⟨rfl,Sat.shutU _ (hok.del n) (hT.del n) (u:=Dk.used (Dk.fdel D.files n)) rfl (H)⟩

instance {L L':List Res} (db i:Nat) (d:Dk.Disk) (n:Nm) [hf:FdD L db d i] [hs:St L i (diskR db (d.remove n).1) L']:Cal Tryz.prog L 18 [.pointer (some ⟨db,0,none⟩),str n] (.int .i64 (((d.remove n).2:Nat):Int)) L' (((d.files.length:Nat):Int)<=4398046511104):=⟨Tryz.call18,fun hc w H=>disk_at (fun fr H=>remove_ct w fr db d n (by omega) H) H⟩
end Go.Proofs.YtoffbmhmocfmnaaGreatDoor
namespace Go.Proofs.YtoffbmhmocfmnaaGreatDoor
open Go.RowKit Go.Cg
set_option linter.unusedVariables false
set_option linter.unusedSimpArgs false
set_option maxRecDepth 8000
set_option synthInstance.maxHeartbeats 1000000
set_option synthInstance.maxSize 1000000
open Go.Cg.Dk (Fl Fs Nm)
theorem sec_mono {a b:Nat} (h:a<=b):Dk.sectors a<=Dk.sectors b:=Nat.div_le_div_right (by omega)
theorem writes_ct (w:World) (fr:List Res) (db mb:Nat) (D:Dk.Disk) (kA:Option Addr) (kc:Nat) (fb:Nat) (f:Fl) (Af:Option Addr) (cf:Nat) (Bf:Option Addr) (ef:Nat) (A:Option Addr) (c:Nat) (b:List UInt8) (ok:SlOk fr 1 A b.length c (u8s b)) (hfit:D.used<=D.room) (hroom:D.room<=1099511627776) (hln:f.now.length<=17592186044416) (hbl:b.length<=17592186044416) (H:Sat w (blk db (.cells #[.map (some mb),.int .i64 ((D.room:Nat):Int),.int .i64 ((D.used:Nat):Int),.int .i64 D.ops,.int .i64 ((D.armed:Nat):Int),.slice kA D.keep.length kc,.int .u32 (dnI D.down)] 71)::blk fb (.cells #[.slice Af f.now.length cf,.slice Bf f.syn.length ef] 105)::row 5 1 (.slice Af f.now.length cf) f.now.length (u8s f.now)::fr)):
    Rt Tryz.prog 48 #[.pointer (some ⟨db,0,none⟩),.pointer (some ⟨fb,0,none⟩),.int .i64 ((f.now.length:Nat):Int),.slice A b.length c] w fun v w'=>∃e u now A' c',v=.int .i64 ((e:Nat):Int)/\Wrote D f b e u now/\Sat w' (blk db (.cells #[.map (some mb),.int .i64 ((D.room:Nat):Int),.int .i64 ((u:Nat):Int),.int .i64 D.ops,.int .i64 ((D.armed:Nat):Int),.slice kA D.keep.length kc,.int .u32 (dnI D.down)] 71)::fiB fb ⟨now,f.syn⟩ A' c' Bf ef::byR A' c' now::fr):=by
  refine en4 Tryz.func48 rfl Tryz.ntmps48 rfl fun a S=>?_
  have hm:=sec_mono (Nat.le_add_right f.now.length b.length)
  have hm2:Dk.sectors (f.now.length+b.length)<=f.now.length+b.length+1:=by unfold Dk.sectors;omega
  refine sr 1 S H t0 fun a w S H=>?_
  refine r_seq ?_
  refine sb ?_
  refine rn 3 S H t0 fun a w S H=>?_
  refine scO 6 S H (fun _=>t0) fun a w S H=>?_
  refine sn ?_
  refine r_cond S rfl (fun h21=>?_) (fun h21=>?_)
  · skip
    exfalso;simp at h21;omega
  refine wp_skip ?_
  refine x_then ?_
  refine sb ?_
  refine rn 9 S H (by omega) fun a w S H=>?_
  refine r_y S H (y_max S rfl rfl rfl) rfl rfl rfl fun a S=>?_
  have S:=S.retell (v':=.int .i64 (((f.now.length+b.length):Nat):Int)) 31 rfl (int_eq (by omega))
  refine rs 1 S H t0 fun a w S H=>?_
  refine qr 10 S H (by omega) fun a w S H=>?_
  refine r_seq ?_
  refine qr 11 S H (by omega) fun a w S H=>?_
  refine r_test S rfl (fun h51=>?_) (fun h51=>?_)
  · skip
    refine sr 1 S H t0 fun a w S H=>?_
    refine wp_ret ?_
    refine x_thenRet ?_
    refine r_ret1 S H Tryz.results48 (ro_tmp S rfl) ?_
    exact ⟨6,D.used,f.now,Af,cf,rfl,.inl ⟨by omega,rfl,rfl,rfl⟩,H⟩
  refine wp_skip ?_
  refine x_then ?_
  refine sr 9 S H (by omega) fun a w S H=>?_
  refine r_seq ?_
  refine ha [0] 3 H fun w H HS=>?_
  refine tk 0 S HS fun a S=>?_
  refine tk 1 S HS fun a S=>?_
  refine tk 2 S HS fun a S=>?_
  refine tk 3 S HS fun a S=>?_
  refine tk 5 S HS fun a S=>?_
  refine tk 6 S HS fun a S=>?_
  refine tk 7 S HS fun a S=>?_
  refine tk 8 S HS fun a S=>?_
  refine hmemo [true,true,true,true,true,true,true,true,true,true,true,true,true,false,false,false] 3 (fun a w=>∃A1:Option Addr,∃c2:Nat,Slots a 83 [(1,.pointer (some ⟨fb,0,none⟩)),(2,.int .i64 ((f.now.length:Nat):Int)),(3,.slice A b.length c),(8,.int .i64 0),(60,.pointer (some ⟨fb,0,none⟩)),(72,.slice A1 ((f.now++List.replicate b.length 0).length) c2),(83,undef)]/\Sat w (blk db (.cells #[.map (some mb),.int .i64 ((D.room:Nat):Int),.int .i64 (((D.used:Nat):Int)+(((Dk.sectors (f.now.length+b.length):Nat):Int) - ((Dk.sectors f.now.length:Nat):Int))),.int .i64 D.ops,.int .i64 ((D.armed:Nat):Int),.slice kA D.keep.length kc,.int .u32 (dnI D.down)] 71)::blk fb (.cells #[.slice Af f.now.length cf,.slice Bf f.syn.length ef] 105)::row 5 1 (.slice A1 ((f.now++List.replicate b.length 0).length) c2) ((f.now++List.replicate b.length 0).length) (u8s (f.now++List.replicate b.length 0))::fr)) ?_ fun K0=>?_
  · rintro a w ⟨A1,c2,S,H⟩
    have HS:Sat w _:=pk [0] 3 H
    refine tk 13 S HS fun a S=>?_
    refine tk 14 S HS fun a S=>?_
    refine h1 15 ?_
    refine rs 1 S H t0 fun a w S H=>?_
    refine hk (pk [0] 3 H) fun HS=>?_
    refine hz ?_
    refine x_then ?_
    rcases Nat.eq_zero_or_pos b.length with hb0 | hb0
    · skip
      refine sb ?_
      refine rn 5 S H t0 fun a w S H=>?_
      refine r_y S H (y_sliceL (k:=f.now.length) S rfl rfl rfl Tryz.underlying50 Tryz.sizeOf5 (by first | omega | (simp<;>omega)) (by first | omega | (simp<;>omega))) rfl rfl rfl fun a S=>?_
      refine rn 1 S H t0 fun a w S H=>?_
      refine r_y S H (y_copy0 S rfl rfl rfl Tryz.underlying50 (by kernel_rfl) (by first | omega | (simp<;>omega))) rfl rfl rfl fun a S=>?_
      refine sn ?_
      refine sr 1 S H t0 fun a w S H=>?_
      refine wp_ret ?_
      refine r_ret1 S H Tryz.results48 (ro_tmp S rfl) ?_
      have eu:((D.used:Nat):Int)+(((Dk.sectors (f.now.length+b.length):Nat):Int) - ((Dk.sectors f.now.length:Nat):Int))=((D.used+(Dk.sectors (f.now.length+b.length) - Dk.sectors f.now.length):Nat):Int):=by omega
      rw [eu] at H
      have ex:f.now++List.replicate b.length 0=f.now++b:=by simp [List.eq_nil_of_length_eq_zero hb0]
      have el:(f.now++List.replicate b.length 0).length=(f.now++b).length:=by simp
      rw [el,ex] at H
      exact ⟨0,_,f.now++b,_,_,rfl,.inr ⟨by omega,rfl,rfl,rfl⟩,H⟩
    have hcap:=(SlOk.ofRow (i:=2) H rfl).le
    obtain ⟨bn,rfl⟩:=H.rowAt (i:=2) rfl (by simp;omega)
    refine sb ?_
    refine rn 5 S H t0 fun a w S H=>?_
    refine r_y S H (y_sliceRow2 (k:=f.now.length) S rfl rfl rfl Tryz.underlying50 Tryz.sizeOf5 rfl (by simp at hcap ⊢;omega)) rfl rfl rfl fun a S=>?_
    refine rn 1 S H t0 fun a w S H=>?_
    refine r_copy (L':=blk db (.cells #[.map (some mb),.int .i64 ((D.room:Nat):Int),.int .i64 (((D.used:Nat):Int)+(((Dk.sectors (f.now.length+b.length):Nat):Int) - ((Dk.sectors f.now.length:Nat):Int))),.int .i64 D.ops,.int .i64 ((D.armed:Nat):Int),.slice kA D.keep.length kc,.int .u32 (dnI D.down)] 71)::blk fb (.cells #[.slice (some ⟨bn,0,none⟩) ((f.now++List.replicate b.length 0).length) c2,.slice Bf f.syn.length ef] 105)::row 5 1 (.slice (some ⟨bn,0,none⟩) ((f.now++List.replicate b.length 0).length) c2) ((f.now++List.replicate b.length 0).length) (u8s ((f.now++List.replicate b.length 0).take f.now.length++b.take (min b.length ((f.now++List.replicate b.length 0).length - f.now.length))++(f.now++List.replicate b.length 0).drop (f.now.length+min b.length ((f.now++List.replicate b.length 0).length - f.now.length))))::fr) 2 S H rfl rfl rfl Tryz.underlying50 (by kernel_rfl) (((ok.more _).more _).more _) (one_u8s _) rfl (by first | omega | (simp<;>omega)) (by rw [copy8];rfl) rfl rfl rfl fun a w S H=>?_
    refine sn ?_
    refine sr 1 S H t0 fun a w S H=>?_
    refine wp_ret ?_
    refine r_ret1 S H Tryz.results48 (ro_tmp S rfl) ?_
    have eu:((D.used:Nat):Int)+(((Dk.sectors (f.now.length+b.length):Nat):Int) - ((Dk.sectors f.now.length:Nat):Int))=((D.used+(Dk.sectors (f.now.length+b.length) - Dk.sectors f.now.length):Nat):Int):=by omega
    rw [eu] at H
    have ex:(f.now++List.replicate b.length 0).take f.now.length++b.take (min b.length ((f.now++List.replicate b.length 0).length - f.now.length))++(f.now++List.replicate b.length 0).drop (f.now.length+min b.length ((f.now++List.replicate b.length 0).length - f.now.length))=f.now++b:=by simp
    have el:(f.now++List.replicate b.length 0).length=(f.now++b).length:=by simp
    rw [ex,el] at H
    exact ⟨0,_,f.now++b,_,_,rfl,.inr ⟨by omega,rfl,rfl,rfl⟩,H⟩
  refine h2 4 9 ?_ ?_
  · skip
    refine rs 1 S H t0 fun a w S H=>?_
    refine hk (pk [0] 3 H) fun HS=>?_
    refine h1 9 ?_
    refine rs 1 S H t0 fun a w S H=>?_
    refine hk (pk [0] 3 H) fun HS=>?_
    refine tk 10 S HS fun a S=>?_
    refine tkC 11 S HS (by omega) fun a S=>?_
    refine h1 12 ?_
    refine r_extend (m:=b.length) (xs':=u8s (f.now++List.replicate b.length 0)) (km:=(f.now++List.replicate b.length 0).length) (L':=fun A5 c6=>blk db (.cells #[.map (some mb),.int .i64 ((D.room:Nat):Int),.int .i64 (((D.used:Nat):Int)+(((Dk.sectors (f.now.length+b.length):Nat):Int) - ((Dk.sectors f.now.length:Nat):Int))),.int .i64 D.ops,.int .i64 ((D.armed:Nat):Int),.slice kA D.keep.length kc,.int .u32 (dnI D.down)] 71)::blk fb (.cells #[.slice Af f.now.length cf,.slice Bf f.syn.length ef] 105)::row 5 1 (.slice A5 ((f.now++List.replicate b.length 0).length) c6) ((f.now++List.replicate b.length 0).length) (u8s (f.now++List.replicate b.length 0))::fr) 2 S H rfl rfl rfl rfl el50 Tryz.underlying3 rfl rfl (by first | omega | (simp<;>omega)) (by simp only [maxLen];first | omega | (simp<;>omega)) (by first | omega | (simp<;>omega)) (by simp) (by simp [u8s]) (fun _ _=>rfl) rfl rfl rfl fun a w A5 c6 S H=>?_
    refine sn ?_
    refine hk (pk [0] 3 H) fun HS=>?_
    exact K0 _ _ ⟨_,_,S.sub ⟨rfl,rfl,rfl,rfl,rfl,rfl,rfl,trivial⟩,H⟩
  · skip
    refine rs 1 S H t0 fun a w S H=>?_
    refine hk (pk [0] 3 H) fun HS=>?_
    refine tk 10 S HS fun a S=>?_
    refine tkC 11 S HS (by omega) fun a S=>?_
    refine h1 4 ?_
    refine rs 1 S H t0 fun a w S H=>?_
    refine hk (pk [0] 3 H) fun HS=>?_
    refine h1 12 ?_
    refine r_extend (m:=b.length) (xs':=u8s (f.now++List.replicate b.length 0)) (km:=(f.now++List.replicate b.length 0).length) (L':=fun A7 c8=>blk db (.cells #[.map (some mb),.int .i64 ((D.room:Nat):Int),.int .i64 (((D.used:Nat):Int)+(((Dk.sectors (f.now.length+b.length):Nat):Int) - ((Dk.sectors f.now.length:Nat):Int))),.int .i64 D.ops,.int .i64 ((D.armed:Nat):Int),.slice kA D.keep.length kc,.int .u32 (dnI D.down)] 71)::blk fb (.cells #[.slice Af f.now.length cf,.slice Bf f.syn.length ef] 105)::row 5 1 (.slice A7 ((f.now++List.replicate b.length 0).length) c8) ((f.now++List.replicate b.length 0).length) (u8s (f.now++List.replicate b.length 0))::fr) 2 S H rfl rfl rfl rfl el50 Tryz.underlying3 rfl rfl (by first | omega | (simp<;>omega)) (by simp only [maxLen];first | omega | (simp<;>omega)) (by first | omega | (simp<;>omega)) (by simp) (by simp [u8s]) (fun _ _=>rfl) rfl rfl rfl fun a w A7 c8 S H=>?_
    refine sn ?_
    refine hk (pk [0] 3 H) fun HS=>?_
    exact K0 _ _ ⟨_,_,S.sub ⟨rfl,rfl,rfl,rfl,rfl,rfl,rfl,trivial⟩,H⟩

theorem append_ct (w:World) (fr:List Res) (db:Nat) (d:Dk.Disk) (n:Nm) (hcnt:d.files.length<=4398046511104) (A:Option Addr) (c:Nat) (b:List UInt8) (ok:SlOk fr 1 A b.length c (u8s b)) (hbl:b.length<=17592186044416) (H:Sat w (diskR db d::fr)):
    Rt Tryz.prog 25 #[.pointer (some ⟨db,0,none⟩),str (n),.slice A b.length c] w fun v w'=>v=.int .i64 (((d.append n b).2:Nat):Int)/\Sat w' (diskR db (d.append n b).1::fr):=by
  refine en3 Tryz.func25 rfl Tryz.ntmps25 rfl fun a S=>?_
  have hdok:=H.diskOk
  refine sr 1 S H t0 fun a w S H=>?_
  refine sb ?_
  refine rn 2 S H t0 fun a w S H=>?_
  refine r_call (args:=#[.pointer (some ⟨db,0,none⟩),str (n)]) S rfl rfl Tryz.call41 (on_ct (H:=H) _ _ db d n hcnt) rfl rfl rfl fun v a w hR S=>?_
  obtain ⟨p,e,mb,t,kA,kc,rfl,hok,hT,hon,H⟩:=hR
  have har:=hok.armed
  obtain ⟨D,hD⟩:∃D,D=d.begin_:=⟨_,rfl⟩
  rw [<-hD] at hok hT hon H har
  refine rs 5 S H t0 fun a w S H=>?_
  refine r_seq ?_
  rcases hon with ⟨hd,rfl,rfl⟩ | ⟨hd,hf,hl,rfl,rfl⟩ | ⟨hd,f,fb,hf,hl,rfl,rfl⟩
  · skip
    have S:=S.retell (v':=.pointer none) 13 rfl rfl
    have S:=S.retell (v':=.int .i64 7) 14 rfl rfl
    have S:=S.retell (v':=.pointer none) 7 rfl rfl
    have S:=S.retell (v':=.int .i64 7) 8 rfl rfl
    refine sr 2 S H t0 fun a w S H=>?_
    have S:=S.retell (v':=.bool true) 16 rfl rfl
    refine r_condT S rfl ?_
    refine sr 2 S H t0 fun a w S H=>?_
    refine wp_ret ?_
    refine x_thenRet ?_
    refine r_ret1 S H Tryz.results25 (ro_tmp S rfl) ?_
    have hs:d.append n b=(D,7):=by unfold Dk.Disk.append;rw [<-hD];simp [hd]
    rw [hs]
    exact ⟨rfl,Sat.shutDisk D hok hT (H)⟩
  · skip
    have S:=S.retell (v':=.pointer none) 13 rfl rfl
    have S:=S.retell (v':=.int .i64 4) 14 rfl rfl
    have S:=S.retell (v':=.pointer none) 7 rfl rfl
    have S:=S.retell (v':=.int .i64 4) 8 rfl rfl
    refine sr 2 S H t0 fun a w S H=>?_
    have S:=S.retell (v':=.bool true) 16 rfl rfl
    refine r_condT S rfl ?_
    refine sr 2 S H t0 fun a w S H=>?_
    refine wp_ret ?_
    refine x_thenRet ?_
    refine r_ret1 S H Tryz.results25 (ro_tmp S rfl) ?_
    have hs:d.append n b=(D,4):=by unfold Dk.Disk.append;rw [<-hD];simp [hd,hf]
    rw [hs]
    exact ⟨rfl,Sat.shutDisk D hok hT (H)⟩
  have S:=S.retell (v':=.pointer (some ⟨fb,0,none⟩)) 13 rfl rfl
  have S:=S.retell (v':=.int .i64 0) 14 rfl rfl
  have S:=S.retell (v':=.pointer (some ⟨fb,0,none⟩)) 7 rfl rfl
  have S:=S.retell (v':=.int .i64 0) 8 rfl rfl
  have H:=Sat.fileOut (hT.nodup hok.ris) hf hl (pk [2,0,1,3] 4 H)
  have hln:=Dk.len_le hok hf
  have hsy:f.syn.length<=f.now.length:=hok.syn _ (Dk.mem_of_fget hf)
  obtain ⟨Af,cf,Bf,ef,H⟩:=H.openFile
  refine sr 2 S H t0 fun a w S H=>?_
  have S:=S.retell (v':=.bool false) 16 rfl rfl
  refine r_condF S rfl ?_
  refine wp_skip ?_
  refine x_then ?_
  refine sb ?_
  refine rn 8 S H t0 fun a w S H=>?_
  refine r_call (args:=#[.pointer (some ⟨db,0,none⟩),.pointer (some ⟨fb,0,none⟩),.int .i64 ((f.now.length:Nat):Int),.slice A b.length c]) S rfl rfl Tryz.call48 (writes_ct (H:=(pk [4,0,1,2,3,5,6] 7 H)) _ _ db mb D kA kc fb f Af cf Bf ef _ _ b (ok.via fun _ H=>H.drop.drop.drop.drop) hok.fit hok.room hln hbl) rfl rfl rfl fun v a w hR S=>?_
  obtain ⟨e2,u,nw,A',c',rfl,hwr,H⟩:=hR
  refine rs 1 S H t0 fun a w S H=>?_
  refine wp_ret ?_
  refine r_ret1 S H Tryz.results25 (ro_tmp S rfl) ?_
  rcases hwr with ⟨h1,rfl,rfl,rfl⟩ | ⟨h1,rfl,rfl,rfl⟩
  · skip
    have H:=Sat.fileIn (hT.nodup hok.ris) hl (Sat.shutFile ⟨f.now,f.syn⟩ (pk [1,2,3,4,0,5,6] 7 H))
    have hff:(⟨f.now,f.syn⟩:Fl)=f:=rfl
    rw [hff,Dk.fput_same hok.ris hf] at H
    have hs:d.append n b=(D,6):=by unfold Dk.Disk.append;rw [<-hD];simp [hd,hf,h1]
    rw [hs]
    exact ⟨rfl,Sat.shutDisk D hok hT (pk [1,2,0,3] 4 H)⟩
  · skip
    have H:=Sat.fileIn (hT.nodup hok.ris) hl (Sat.shutFile ⟨f.now++b,f.syn⟩ (pk [1,2,3,4,0,5,6] 7 H))
    have hu:=Dk.used_fput_old (g:=⟨f.now++b,f.syn⟩) hok.ris hf
    have hmo:=sec_mono (Nat.le_add_right f.now.length b.length)
    have hu':D.used+(Dk.sectors (f.now.length+b.length) - Dk.sectors f.now.length)=Dk.used (Dk.fput D.files n ⟨f.now++b,f.syn⟩):=by simp only [List.length_append] at hu;unfold Dk.Disk.used;omega
    have hs:d.append n b=({ D with files:=Dk.fput D.files n ⟨f.now++b,f.syn⟩ },0):=by unfold Dk.Disk.append;rw [<-hD];simp [hd,hf,h1]
    have hok2:=hdok.append n b
    rw [hs] at hok2
    rw [hs]
    exact ⟨rfl,Sat.shutU _ hok2 (hT.put hok.ris hf) (u:=D.used+(Dk.sectors (f.now.length+b.length) - Dk.sectors f.now.length)) hu' (pk [1,2,0,3] 4 H)⟩

theorem readAt_ct (w:World) (fr:List Res) (db:Nat) (d:Dk.Disk) (n:Nm) (hcnt:d.files.length<=4398046511104) (i k:Int) (hi: -4611686018427387904<=i/\i<=4611686018427387904) (hk: -4611686018427387904<=k/\k<=4611686018427387904) (H:Sat w (diskR db d::fr)):
    Rt Tryz.prog 109 #[.pointer (some ⟨db,0,none⟩),str (n),.int .i64 i,.int .i64 k] w fun v w'=>∃A c,v=.tuple #[.slice A (d.readAt n i k).2.1.length c,.int .i64 (((d.readAt n i k).2.2:Nat):Int)]/\Sat w' (diskR db (d.readAt n i k).1::row 5 1 (.slice A (d.readAt n i k).2.1.length c) (d.readAt n i k).2.1.length (u8s (d.readAt n i k).2.1)::fr):=by
  refine en4 Tryz.func109 rfl Tryz.ntmps109 rfl fun a S=>?_
  refine sr 2 S H t0 fun a w S H=>?_
  refine sb ?_
  refine rn 2 S H t0 fun a w S H=>?_
  refine r_call (args:=#[.pointer (some ⟨db,0,none⟩),str (n)]) S rfl rfl Tryz.call41 (on_ct (H:=H) _ _ db d n hcnt) rfl rfl rfl fun v a w hR S=>?_
  obtain ⟨p,e,mb,t,kA,kc,rfl,hok,hT,hon,H⟩:=hR
  have har:=hok.armed
  obtain ⟨D,hD⟩:∃D,D=d.begin_:=⟨_,rfl⟩
  rw [<-hD] at hok hT hon H har
  refine rs 5 S H t0 fun a w S H=>?_
  refine r_seq ?_
  refine r_block ?_
  rcases hon with ⟨hd,rfl,rfl⟩ | ⟨hd,hf,hl,rfl,rfl⟩ | ⟨hd,f,fb,hf,hl,rfl,rfl⟩
  · skip
    have S:=S.retell (v':=.pointer none) 16 rfl rfl
    have S:=S.retell (v':=.int .i64 7) 17 rfl rfl
    have S:=S.retell (v':=.pointer none) 10 rfl rfl
    have S:=S.retell (v':=.int .i64 7) 11 rfl rfl
    refine sb ?_
    refine rn 2 S H t0 fun a w S H=>?_
    have S:=S.retell (v':=.bool true) 20 rfl rfl
    refine rs 1 S H t0 fun a w S H=>?_
    refine r_condT S rfl ?_
    refine sr 3 S H t0 fun a w S H=>?_
    refine wp_ret ?_
    refine x_blockRet ?_
    refine x_thenRet ?_
    refine r_ret2 S H Tryz.results109 (ro_tmp S rfl) (ro_tmp S rfl) ?_
    have hs:d.readAt n i k=(D,[],7):=by unfold Dk.Disk.readAt;rw [<-hD];simp [hd]
    rw [hs]
    refine ⟨none,0,rfl,?_⟩
    have H:=Sat.shutDisk D hok hT (H)
    have H:=H.nilRow 5 1
    exact pk [1,0] 2 H
  · skip
    have S:=S.retell (v':=.pointer none) 16 rfl rfl
    have S:=S.retell (v':=.int .i64 4) 17 rfl rfl
    have S:=S.retell (v':=.pointer none) 10 rfl rfl
    have S:=S.retell (v':=.int .i64 4) 11 rfl rfl
    refine sb ?_
    refine rn 2 S H t0 fun a w S H=>?_
    have S:=S.retell (v':=.bool true) 20 rfl rfl
    refine rs 1 S H t0 fun a w S H=>?_
    refine r_condT S rfl ?_
    refine sr 3 S H t0 fun a w S H=>?_
    refine wp_ret ?_
    refine x_blockRet ?_
    refine x_thenRet ?_
    refine r_ret2 S H Tryz.results109 (ro_tmp S rfl) (ro_tmp S rfl) ?_
    have hs:d.readAt n i k=(D,[],4):=by unfold Dk.Disk.readAt;rw [<-hD];simp [hd,hf]
    rw [hs]
    refine ⟨none,0,rfl,?_⟩
    have H:=Sat.shutDisk D hok hT (H)
    have H:=H.nilRow 5 1
    exact pk [1,0] 2 H
  have S:=S.retell (v':=.pointer (some ⟨fb,0,none⟩)) 16 rfl rfl
  have S:=S.retell (v':=.int .i64 0) 17 rfl rfl
  have S:=S.retell (v':=.pointer (some ⟨fb,0,none⟩)) 10 rfl rfl
  have S:=S.retell (v':=.int .i64 0) 11 rfl rfl
  have H:=Sat.fileOut (hT.nodup hok.ris) hf hl (pk [2,0,1,3] 4 H)
  have hln:=Dk.len_le hok hf
  have hsy:f.syn.length<=f.now.length:=hok.syn _ (Dk.mem_of_fget hf)
  obtain ⟨Af,cf,Bf,ef,H⟩:=H.openFile
  refine sb ?_
  refine rn 2 S H t0 fun a w S H=>?_
  have S:=S.retell (v':=.bool false) 20 rfl rfl
  refine rs 1 S H t0 fun a w S H=>?_
  refine r_condF S rfl ?_
  refine sb ?_
  refine rn 3 S H t0 fun a w S H=>?_
  refine scO 1 S H (fun _=>t0) fun a w S H=>?_
  refine rn 1 S H t0 fun a w S H=>?_
  refine scO 6 S H (fun _=>t0) fun a w S H=>?_
  refine rn 1 S H t0 fun a w S H=>?_
  refine scO 8 S H (fun h=>by simp only [Bool.or_eq_false_iff,Bool.and_eq_true,decide_eq_true_eq,decide_eq_false_iff_not] at h;omega) fun a w S H=>?_
  refine rs 1 S H t0 fun a w S H=>?_
  refine r_cond S rfl (fun h22=>?_) (fun h22=>?_)
  · skip
    simp only [Bool.or_eq_true,decide_eq_true_eq] at h22
    refine sr 2 S H t0 fun a w S H=>?_
    refine wp_ret ?_
    refine x_blockRet ?_
    refine x_thenRet ?_
    refine r_ret2 S H Tryz.results109 (ro_tmp S rfl) (ro_tmp S rfl) ?_
    have H:=Sat.fileIn (hT.nodup hok.ris) hl (Sat.shutFile f H)
    rw [Dk.fput_same hok.ris hf] at H
    have hs:d.readAt n i k=(D,[],1):=by unfold Dk.Disk.readAt;rw [<-hD];simp only;rw [if_neg (by simp [hd]),hf];simp only;rw [if_neg (by omega)]
    rw [hs]
    refine ⟨none,0,rfl,?_⟩
    have H:=Sat.shutDisk D hok hT (pk [1,2,0,3] 4 H)
    have H:=H.nilRow 5 1
    exact pk [1,0] 2 H
  simp only [Bool.or_eq_false_iff,decide_eq_false_iff_not] at h22
  have hcap:=(SlOk.ofRow (i:=1) H rfl).le
  refine wp_skip ?_
  refine x_blockEnd ?_
  refine x_then ?_
  refine sb ?_
  refine rn 8 S H (by omega) fun a w S H=>?_
  refine r_y S H (y_sliceLH (k:=i.toNat) (k':=(i+k).toNat) S rfl rfl rfl rfl Tryz.underlying50 Tryz.sizeOf5 (by omega) (by omega) (by omega) (by omega)) rfl rfl rfl fun a S=>?_
  refine r_call (args:=#[.slice (shift Af (i.toNat*1) (decide (cf=i.toNat))) ((i+k).toNat - i.toNat) (cf - i.toNat)]) S rfl rfl Tryz.call74 (clone8_ct (H:=H) _ _ _ _ _ ((f.now.drop i.toNat).take ((i+k).toNat - i.toNat)) ((SlOk.ofRow (i:=1) H rfl).part8 i.toNat ((i+k).toNat) (by first | omega | (simp<;>omega)) (by first | omega | (simp<;>omega))) (by simp;omega)) rfl rfl rfl fun v a w hR S=>?_
  obtain ⟨A1,c2,rfl,H⟩:=hR
  refine rs 2 S H t0 fun a w S H=>?_
  refine wp_ret ?_
  refine r_ret2 S H Tryz.results109 (ro_tmp S rfl) (ro_tmp S rfl) ?_
  have H:=Sat.fileIn (hT.nodup hok.ris) hl (Sat.shutFile f (pk [1,2,3,4,0,5,6,7] 8 H))
  rw [Dk.fput_same hok.ris hf] at H
  have ek:(i+k).toNat - i.toNat=k.toNat:=by omega
  rw [ek] at H
  have hs:d.readAt n i k=(D,(f.now.drop i.toNat).take k.toNat,0):=by unfold Dk.Disk.readAt;rw [<-hD];simp only;rw [if_neg (by simp [hd]),hf];simp only;rw [if_pos (by omega)]
  rw [hs]
  rw [ek]
  have H:=(pk [1,0,2,3,4] 5 H)
  have H:=pk [2,3,1,4,0] 5 H
  have H:=Sat.shutDisk D hok hT H
  exact ⟨_,_,rfl,H⟩

theorem rename_ct (w:World) (fr:List Res) (db:Nat) (d:Dk.Disk) (n m:Nm) (hcnt:d.files.length<=4398046511104) (H:Sat w (diskR db d::fr)):
    Rt Tryz.prog 105 #[.pointer (some ⟨db,0,none⟩),str (n),str (m)] w fun v w'=>v=.int .i64 (((d.rename n m).2:Nat):Int)/\Sat w' (diskR db (d.rename n m).1::fr):=by
  refine en3 Tryz.func105 rfl Tryz.ntmps105 rfl fun a S=>?_
  have hdok:=H.diskOk
  refine sr 1 S H t0 fun a w S H=>?_
  refine sb ?_
  refine rn 2 S H t0 fun a w S H=>?_
  refine r_call (args:=#[.pointer (some ⟨db,0,none⟩),str (n)]) S rfl rfl Tryz.call41 (on_ct (H:=H) _ _ db d n hcnt) rfl rfl rfl fun v a w hR S=>?_
  obtain ⟨p,e,mb,t,kA,kc,rfl,hok,hT,hon,H⟩:=hR
  have har:=hok.armed
  obtain ⟨D,hD⟩:∃D,D=d.begin_:=⟨_,rfl⟩
  rw [<-hD] at hok hT hon H har
  refine rs 5 S H t0 fun a w S H=>?_
  refine r_seq ?_
  refine r_block ?_
  rcases hon with ⟨hd,rfl,rfl⟩ | ⟨hd,hf,hl,rfl,rfl⟩ | ⟨hd,f,fb,hf,hl,rfl,rfl⟩
  · skip
    have S:=S.retell (v':=.pointer none) 13 rfl rfl
    have S:=S.retell (v':=.int .i64 7) 14 rfl rfl
    have S:=S.retell (v':=.pointer none) 7 rfl rfl
    have S:=S.retell (v':=.int .i64 7) 8 rfl rfl
    refine sb ?_
    refine rn 2 S H t0 fun a w S H=>?_
    have S:=S.retell (v':=.bool true) 17 rfl rfl
    refine rs 1 S H t0 fun a w S H=>?_
    refine r_condT S rfl ?_
    refine sr 2 S H t0 fun a w S H=>?_
    refine wp_ret ?_
    refine x_blockRet ?_
    refine x_thenRet ?_
    refine r_ret1 S H Tryz.results105 (ro_tmp S rfl) ?_
    have hs:d.rename n m=(D,7):=by unfold Dk.Disk.rename;rw [<-hD];simp [hd]
    rw [hs]
    exact ⟨rfl,Sat.shutDisk D hok hT (H)⟩
  · skip
    have S:=S.retell (v':=.pointer none) 13 rfl rfl
    have S:=S.retell (v':=.int .i64 4) 14 rfl rfl
    have S:=S.retell (v':=.pointer none) 7 rfl rfl
    have S:=S.retell (v':=.int .i64 4) 8 rfl rfl
    refine sb ?_
    refine rn 2 S H t0 fun a w S H=>?_
    have S:=S.retell (v':=.bool true) 17 rfl rfl
    refine rs 1 S H t0 fun a w S H=>?_
    refine r_condT S rfl ?_
    refine sr 2 S H t0 fun a w S H=>?_
    refine wp_ret ?_
    refine x_blockRet ?_
    refine x_thenRet ?_
    refine r_ret1 S H Tryz.results105 (ro_tmp S rfl) ?_
    have hs:d.rename n m=(D,4):=by unfold Dk.Disk.rename;rw [<-hD];simp [hd,hf]
    rw [hs]
    exact ⟨rfl,Sat.shutDisk D hok hT (H)⟩
  have S:=S.retell (v':=.pointer (some ⟨fb,0,none⟩)) 13 rfl rfl
  have S:=S.retell (v':=.int .i64 0) 14 rfl rfl
  have S:=S.retell (v':=.pointer (some ⟨fb,0,none⟩)) 7 rfl rfl
  have S:=S.retell (v':=.int .i64 0) 8 rfl rfl
  refine sb ?_
  refine rn 2 S H t0 fun a w S H=>?_
  have S:=S.retell (v':=.bool false) 17 rfl rfl
  refine rs 1 S H t0 fun a w S H=>?_
  refine r_condF S rfl ?_
  refine sr 4 S H (by omega) fun a w S H=>?_
  refine r_cond S rfl (fun h19=>?_) (fun h19=>?_)
  · skip
    refine sr 1 S H t0 fun a w S H=>?_
    refine wp_ret ?_
    refine x_blockRet ?_
    refine x_thenRet ?_
    refine r_ret1 S H Tryz.results105 (ro_tmp S rfl) ?_
    have hm:Dk.may m=false:=by simpa using h19
    have hs:d.rename n m=(D,1):=by unfold Dk.Disk.rename;rw [<-hD];simp [hd,hf,hm]
    rw [hs]
    exact ⟨rfl,Sat.shutDisk D hok hT (H)⟩
  refine sr 4 S H t0 fun a w S H=>?_
  refine r_test S rfl (fun h23=>?_) (fun h23=>?_)
  · skip
    refine sr 1 S H t0 fun a w S H=>?_
    refine wp_ret ?_
    refine x_blockRet ?_
    refine x_thenRet ?_
    refine r_ret1 S H Tryz.results105 (ro_tmp S rfl) ?_
    have hm:Dk.may m=true:=by simpa using h19
    have hnm:n=m:=by simpa using h23
    subst hnm
    have hs:d.rename n n=(D,0):=by unfold Dk.Disk.rename;rw [<-hD];simp [hd,hf,hm]
    rw [hs]
    exact ⟨rfl,Sat.shutDisk D hok hT (H)⟩
  refine wp_skip ?_
  refine x_blockEnd ?_
  refine x_then ?_
  have hnm:n≠m:=by simpa using h23
  refine sb ?_
  refine rn 2 S H t0 fun a w S H=>?_
  refine r_call (args:=#[.pointer (some ⟨db,0,none⟩),str (m)]) S rfl rfl Tryz.call42 (gone_ct (H:=H) _ _ db mb D kA kc t m hok hT) rfl rfl rfl fun v a w hR S=>?_
  obtain ⟨rfl,H⟩:=hR
  refine sn ?_
  have hlm:tlook (tdel (tdel t m) n) m=none:=by rw [tlook_tdel,if_neg (Ne.symm hnm),tlook_tdel,if_pos rfl]
  have hgm:Dk.fget (Dk.fdel (Dk.fdel D.files m) n) m=none:=by rw [Dk.fget_fdel,if_neg (Ne.symm hnm),Dk.fget_fdel,if_pos rfl]
  refine sb ?_
  refine rn 5 S H t0 fun a w S H=>?_
  refine r_mapDel (l':=tmap (tdel (tdel t m) n)) (L':=blk db (.cells #[.map (some mb),.int .i64 ((D.room:Nat):Int),.int .i64 ((Dk.used (Dk.fdel D.files m):Nat):Int),.int .i64 D.ops,.int .i64 ((D.armed:Nat):Int),.slice kA D.keep.length kc,.int .u32 (dnI D.down)] 71)::mp (nms) (mkP) mb (tmap (tdel (tdel t m) n))::filesR (tdel t m) (Dk.fdel D.files m)::row 4 1 (.slice kA D.keep.length kc) D.keep.length (bools D.keep)::fr) 1 (n) S H rfl rfl rfl (KeyOk.nm Tryz.underlying62 Tryz.underlying9) rfl (nodup_tmap ((hT.del m).nodup (Dk.rising_fdel hok.ris m))) (tmap_del _ n) rfl rfl rfl fun w H=>?_
  refine sn ?_
  refine sb ?_
  refine rn 6 S H t0 fun a w S H=>?_
  refine r_mapSet (L':=blk db (.cells #[.map (some mb),.int .i64 ((D.room:Nat):Int),.int .i64 ((Dk.used (Dk.fdel D.files m):Nat):Int),.int .i64 D.ops,.int .i64 ((D.armed:Nat):Int),.slice kA D.keep.length kc,.int .u32 (dnI D.down)] 71)::mp (nms) (mkP) mb (tmap (tdel (tdel t m) n++[(m,fb)]))::filesR (tdel t m) (Dk.fdel D.files m)::row 4 1 (.slice kA D.keep.length kc) D.keep.length (bools D.keep)::fr) 1 (m) (some fb) S H rfl rfl rfl rfl (KeyOk.nm Tryz.underlying62 Tryz.underlying9) rfl (by rw [tupd_tmap hlm];rfl) rfl rfl fun w H=>?_
  refine sn ?_
  refine sr 1 S H t0 fun a w S H=>?_
  refine wp_ret ?_
  refine r_ret1 S H Tryz.results105 (ro_tmp S rfl) ?_
  have hm:Dk.may m=true:=by simpa using h19
  have hl2:tlook (tdel t m) n=some fb:=by rw [tlook_tdel,if_neg hnm,hl]
  have hg2:Dk.fget (Dk.fdel D.files m) n=some f:=by rw [Dk.fget_fdel,if_neg hnm,hf]
  have hT2:=hT.del m
  have hr2:=Dk.rising_fdel hok.ris m
  have H:=(pk [2,0,1,3] 4 H)
  have H:=Sat.fileOut (hT2.nodup hr2) hg2 hl2 H
  have H:=pk [1,0,2,3,4] 5 H
  have H:=Sat.fileGone H
  have H:=pk [1,0,2,3,4] 5 H
  have H:=Sat.fileNew hlm H
  have ef:Dk.fput (Dk.fdel (Dk.fdel D.files m) n) m f=Dk.fput (Dk.fdel D.files n) m f:=by rw [Dk.fdel_comm,Dk.fput_fdel]
  rw [ef] at H
  have hT3:Tied (tdel (tdel t m) n++[(m,fb)]) (Dk.fput (Dk.fdel D.files n) m f):=by rw [<-ef];exact (hT2.del n).new hgm
  have hok2:=hdok.rename n m
  have hu:Dk.used (Dk.fdel D.files m)=Dk.used (Dk.fput (Dk.fdel D.files n) m f):=by rw [<-ef,Dk.used_fput_new hgm,Dk.used_fdel hr2 hg2];omega
  have hs:d.rename n m=({ D with files:=Dk.fput (Dk.fdel D.files n) m f },0):=by unfold Dk.Disk.rename;rw [<-hD];simp [hd,hf,hm,hnm]
  rw [hs] at hok2
  rw [hs]
  exact ⟨rfl,Sat.shutU _ hok2 hT3 (u:=Dk.used (Dk.fdel D.files m)) hu (pk [1,2,0,3] 4 H)⟩

instance {L L':List Res} (db i:Nat) (d:Dk.Disk) (n m:Nm) [hf:FdD L db d i] [hs:St L i (diskR db (d.rename n m).1) L']:Cal Tryz.prog L 105 [.pointer (some ⟨db,0,none⟩),str n,str m] (.int .i64 (((d.rename n m).2:Nat):Int)) L' (((d.files.length:Nat):Int)<=4398046511104):=⟨Tryz.call105,fun hc w H=>disk_at (fun fr H=>rename_ct w fr db d n m (by omega) H) H⟩
theorem list_ct (w:World) (fr:List Res) (db:Nat) (d:Dk.Disk) (hcnt:d.files.length<=4398046511104) (H:Sat w (diskR db d::fr)):
    Rt Tryz.prog 23 #[.pointer (some ⟨db,0,none⟩)] w fun v w'=>∃A c,v=.tuple #[.slice A d.list.2.1.length c,.int .i64 ((d.list.2.2:Nat):Int)]/\Sat w' (diskR db d.list.1::row 9 1 (.slice A d.list.2.1.length c) d.list.2.1.length (strs d.list.2.1)::fr):=by
  refine en1 Tryz.func23 rfl Tryz.ntmps23 rfl fun a S=>?_
  refine sr 2 S H t0 fun a w S H=>?_
  refine r_seq ?_
  refine sb ?_
  refine rn 1 S H t0 fun a w S H=>?_
  refine r_call (args:=#[.pointer (some ⟨db,0,none⟩)]) S rfl rfl Tryz.call44 (begins_ct (H:=H) _ _ db d hcnt) rfl rfl rfl fun v a w hR S=>?_
  obtain ⟨rfl,H⟩:=hR
  obtain ⟨D,hD⟩:∃D,D=d.begin_:=⟨_,rfl⟩
  rw [<-hD] at H S
  refine rs 1 S H t0 fun a w S H=>?_
  rcases Bool.eq_false_or_eq_true D.down with hd | hd
  · skip
    have he:((D.err:Nat):Int)=7:=by simp [Dk.Disk.err,hd]
    have S:=S.retell (v':=.int .i64 7) 6 rfl (congrArg (Value.int .i64) he)
    have S:=S.retell (v':=.int .i64 7) 4 rfl (congrArg (Value.int .i64) he)
    refine sr 2 S H t0 fun a w S H=>?_
    have S:=S.retell (v':=.bool true) 8 rfl rfl
    refine r_condT S rfl ?_
    refine sr 3 S H t0 fun a w S H=>?_
    refine wp_ret ?_
    refine x_thenRet ?_
    refine r_ret2 S H Tryz.results23 (ro_tmp S rfl) (ro_tmp S rfl) ?_
    have hs:d.list=(D,[],7):=by unfold Dk.Disk.list;rw [<-hD];simp [hd]
    rw [hs]
    refine ⟨none,0,rfl,?_⟩
    have H:=H.nilRow 9 1
    exact pk [1,0] 2 H
  have he:((D.err:Nat):Int)=0:=by simp [Dk.Disk.err,hd]
  have S:=S.retell (v':=.int .i64 0) 6 rfl (congrArg (Value.int .i64) he)
  have S:=S.retell (v':=.int .i64 0) 4 rfl (congrArg (Value.int .i64) he)
  refine sr 2 S H t0 fun a w S H=>?_
  have S:=S.retell (v':=.bool false) 8 rfl rfl
  refine r_condF S rfl ?_
  refine wp_skip ?_
  refine x_then ?_
  obtain ⟨mb,t,kA,kc,hok,hT,H⟩:=H.openDisk
  have har:=hok.armed
  refine sb ?_
  refine rn 4 S H t0 fun a w S H=>?_
  refine r_call (args:=#[.map (some mb)]) S rfl rfl Tryz.call46 (keys_ct (H:=H) _ _ mb) rfl rfl rfl fun v a w hR S=>?_
  obtain ⟨kb3,rfl,H⟩:=hR
  refine r_call (args:=#[.func (.func 71) #[] #[.pointer (some ⟨kb3,0,none⟩)]]) S rfl rfl Tryz.call45 (sorted_ct (H:=(pk [0,2,1,3,4] 5 H)) _ _ kb3 mb t (D.files.map (fun p:Nm×Fl=>p.1)) hT (List.pairwise_map.2 hok.ris) (by rw [List.length_map,hD,Dk.len_begin];omega) (Tied.nam hT hok.nam)) rfl rfl rfl fun v a w hR S=>?_
  obtain ⟨A4,c5,rfl,H⟩:=hR
  refine rs 2 S H t0 fun a w S H=>?_
  refine wp_ret ?_
  refine r_ret2 S H Tryz.results23 (ro_tmp S rfl) (ro_tmp S rfl) ?_
  have hs:d.list=(D,D.files.map (·.1),0):=by unfold Dk.Disk.list;rw [<-hD];simp [hd]
  rw [hs]
  have H:=pk [3,2,4,5,0] 6 H
  have H:=Sat.shutDisk D hok hT H
  exact ⟨_,_,rfl,H⟩

theorem new_ct (w:World) (fr:List Res) (r:Int) (hr:r<=1099511627776) (H:Sat w (fr)):
    Rt Tryz.prog 12 #[.int .i64 r] w fun v w'=>∃db,v=.pointer (some ⟨db,0,none⟩)/\Sat w' (diskR db (Dk.fresh r)::fr):=by
  refine en1 Tryz.func12 rfl Tryz.ntmps12 rfl fun a S=>?_
  refine sr 1 S H t0 fun a w S H=>?_
  refine sb ?_
  refine r_makeMap nms mkP S H rfl rfl rfl rfl fun a w b1 S H=>?_
  refine rn 2 S H t0 fun a w S H=>?_
  refine r_y S H (y_build (vs:=#[(0,.map (some b1)),(1,.int .i64 (max r 0))]) (v:=.agg #[.map (some b1),.int .i64 (max r 0),.int .i64 0,.int .i64 0,.int .i64 0,.slice none 0 0,.int .u32 0]) S rfl rfl (fun w=>by kernel_rfl)) rfl rfl rfl fun a S=>?_
  refine r_box (c:=#[.map (some b1),.int .i64 (max r 0),.int .i64 0,.int .i64 0,.int .i64 0,.slice none 0 0,.int .u32 0]) S H rfl rfl rfl rfl rfl rfl fun a w b2 S H=>?_
  refine rs 1 S H t0 fun a w S H=>?_
  refine wp_ret ?_
  refine r_ret1 S H Tryz.results12 (ro_tmp S rfl) ?_
  have e1:max r 0=((r.toNat:Nat):Int):=by omega
  rw [e1] at H
  have H:=(sat_star (M:=[])).2 H
  have H:=pk [1,2,0] 3 H
  have H:=H.nilRow 4 1
  have H:=pk [1,2,3,0] 4 H
  exact ⟨_,rfl,Sat.shutDisk (t:=[]) (Dk.fresh r) (Dk.fresh_ok hr) (List.Perm.refl _) H⟩

theorem restart_ct (w:World) (fr:List Res) (db:Nat) (d:Dk.Disk) (H:Sat w (diskR db d::fr)):
    Rt Tryz.prog 28 #[.pointer (some ⟨db,0,none⟩)] w fun v w'=>v=.tuple #[]/\Sat w' (diskR db d.restart::fr):=by
  refine en1 Tryz.func28 rfl Tryz.ntmps28 rfl fun a S=>?_
  obtain ⟨mb,t,kA,kc,hok,hT,H⟩:=H.openDisk
  have har:=hok.armed
  refine er 4 S H (by omega) fun a w S H=>?_
  refine r_end0 S Tryz.results28 ?_
  exact ⟨rfl,Sat.shutDisk d.restart hok.restart hT H⟩

instance {L L':List Res} (db i:Nat) (d:Dk.Disk) [hf:FdD L db d i] [hs:St L i (diskR db d.restart) L']:Cal Tryz.prog L 28 [.pointer (some ⟨db,0,none⟩)] (.tuple #[]) L' ((0:Int)<=0):=⟨Tryz.call28,fun hc w H=>disk_at (fun fr H=>restart_ct w fr db d H) H⟩
theorem arm_ct (w:World) (fr:List Res) (db:Nat) (d:Dk.Disk) (x:Int) (hx:x<=9223372036854775807) (A:Option Addr) (c:Nat) (k:List Bool) (ok:SlOk fr 1 A k.length c (bools k)) (hk:k.length<=70368744177664) (H:Sat w (diskR db d::fr)):
    Rt Tryz.prog 31 #[.pointer (some ⟨db,0,none⟩),.int .i64 x,.slice A k.length c] w fun v w'=>v=.tuple #[]/\Sat w' (diskR db (d.arm x k)::fr):=by
  refine en3 Tryz.func31 rfl Tryz.ntmps31 rfl fun a S=>?_
  obtain ⟨mb,t,kA,kc,hok,hT,H⟩:=H.openDisk
  have har:=hok.armed
  refine r_region ?_
  refine rn 5 S H t0 fun a w S H=>?_
  refine r_call (args:=#[.slice A k.length c]) S rfl rfl Tryz.call56 (cloneB_ct (H:=H) _ _ _ _ _ k ((((ok.more _).more _).more _).more _) (by omega)) rfl rfl rfl fun v a w hR S=>?_
  obtain ⟨A1,c2,rfl,H⟩:=hR
  refine rn 6 S H t0 fun a w S H=>?_
  refine r_nil ?_
  refine r_end0 S Tryz.results31 ?_
  have e1:max x 0=((x.toNat:Nat):Int):=by omega
  rw [e1] at H
  exact ⟨rfl,Sat.shutDisk (d.arm x k) (hok.arm hx k) hT (pk [1,2,3,0] 5 H)⟩

theorem crashed_ct (w:World) (fr:List Res) (db:Nat) (d:Dk.Disk) (hcnt:d.files.length<=4398046511104) (A:Option Addr) (c:Nat) (k:List Bool) (ok:SlOk fr 1 A k.length c (bools k)) (H:Sat w (diskR db d::fr)):
    Rt Tryz.prog 27 #[.pointer (some ⟨db,0,none⟩),.slice A k.length c] w fun v w'=>v=.tuple #[]/\Sat w' (diskR db (d.crash k)::fr):=by
  obtain ⟨mb,t,kA,kc,hok,hT,H⟩:=H.openDisk
  refine (crash_ct w (kpR kA kc d.keep::fr) db mb d kA kc t A c k (ok.via fun _ H=>H.drop) hok hcnt hT H).mono ?_
  rintro v w' ⟨rfl,H⟩
  have hT2:Tied t (d.crash k).files:=by unfold Tied;rw [Dk.names_crash];exact hT
  rw [<-Dk.keep_crash d k] at H
  exact ⟨rfl,Sat.shutDisk _ (hok.crash k) hT2 H⟩
end Go.Proofs.YtoffbmhmocfmnaaGreatDoor
