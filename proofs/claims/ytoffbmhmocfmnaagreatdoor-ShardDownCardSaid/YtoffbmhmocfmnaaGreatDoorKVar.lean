/- Laws of the model, walks of functions of the program, and what they rest on. No condition. -/
import Derived.Test.YtoffbmhmocfmnaaGreatDoorKVan
import Derived.Laws.BitsAllLaws
import Derived.Laws.Unary
section
namespace Go.Cg
set_option linter.unusedVariables false
set_option linter.unusedSimpArgs false
open Go.RowKit
section
variable {P:Program} {t:TypeId}
theorem of32 (a:Nat) (ha:a < 4294967296):(BitVec.ofInt 32 (a:Int)).toNat=a:=by
  rw [BitVec.ofInt_natCast,BitVec.toNat_ofNat];exact Nat.mod_eq_of_lt (by omega)
theorem and32 (a b:Nat) (ha:a < 4294967296) (hb:b < 4294967296) (w:World):(binOp .and t (.int .u32 (a:Int)) (.int .u32 (b:Int))).run P w=.ok (.int .u32 ((a&&& b:Nat):Int)) w:=by
  have hx:a&&& b < 2 ^ 32:=Nat.and_lt_two_pow _ (by omega)
  have h:bits .and .u32 (a:Int) (b:Int)=((a&&& b:Nat):Int):=by
    show IntKind.u32.wrap ((BitVec.ofInt 32 (a:Int)&&& BitVec.ofInt 32 (b:Int)).toNat:Int)=_
    rw [BitVec.toNat_and,of32 a ha,of32 b hb,IntKind.wrap_u32'];omega
  rw [binOp_and,intBits_and,h,Sem.run_pure]
theorem xor32 (a b:Nat) (ha:a < 4294967296) (hb:b < 4294967296) (w:World):(binOp .xor t (.int .u32 (a:Int)) (.int .u32 (b:Int))).run P w=.ok (.int .u32 ((a ^^^ b:Nat):Int)) w:=by
  have hx:a ^^^ b < 2 ^ 32:=Nat.xor_lt_two_pow (by omega) (by omega)
  have h:bits .xor .u32 (a:Int) (b:Int)=((a ^^^ b:Nat):Int):=by
    show IntKind.u32.wrap ((BitVec.ofInt 32 (a:Int) ^^^ BitVec.ofInt 32 (b:Int)).toNat:Int)=_
    rw [BitVec.toNat_xor,of32 a ha,of32 b hb,IntKind.wrap_u32'];omega
  rw [binOp_xor,intBits_xor,h,Sem.run_pure]
theorem half32 (a:Nat) (w:World):(binOp .shr t (.int .u32 (a:Int)) (.int .u64 1)).run P w=.ok (.int .u32 ((a / 2:Nat):Int)) w:=by
  rw [binOp_shr]
  have:Int.fdiv (a:Int) (2 ^ (min (1:Int).toNat (IntKind.u32).bits))=((a / 2:Nat):Int):=by
    show Int.fdiv (a:Int) (2:Int)=_
    rw [Int.fdiv_eq_ediv_of_nonneg _ (by omega)];omega
  have h0:¬ ((1:Int) < 0):=by decide
  simp only [Op.shift,h0,if_false,this,Sem.run_pure]
theorem byte64 (a:Nat) (w:World):(binOp .shr t (.int .u64 (a:Int)) (.int .u64 8)).run P w=.ok (.int .u64 ((a / 256:Nat):Int)) w:=by
  rw [binOp_shr]
  have:Int.fdiv (a:Int) (2 ^ (min (8:Int).toNat (IntKind.u64).bits))=((a / 256:Nat):Int):=by
    show Int.fdiv (a:Int) (256:Int)=_
    rw [Int.fdiv_eq_ediv_of_nonneg _ (by omega)];omega
  have h0:¬ ((8:Int) < 0):=by decide
  simp only [Op.shift,h0,if_false,this,Sem.run_pure]
theorem odd32 (a:Nat) (ha:a < 4294967296) (w:World):(binOp .and t (.int .u32 (a:Int)) (.int .u32 1)).run P w=.ok (.int .u32 ((a%2:Nat):Int)) w:=by
  have h:=and32 (P:=P) (t:=t) a 1 ha (by decide) w
  rwa [Nat.and_one_is_mod] at h
theorem poly32 (c:Nat) (w:World):(binOp .and t (.int .u32 3988292384) (.int .u32 (IntKind.u32.wrap (0 - ((c%2:Nat):Int))))).run P w=.ok (.int .u32 (((if c%2=1 then 3988292384 else 0:Nat)):Int)) w:=by
  rcases Nat.mod_two_eq_zero_or_one c with h | h
  · rw [h,show IntKind.u32.wrap (0 - ((0:Nat):Int))=((0:Nat):Int) from by decide]
    have:=and32 (P:=P) (t:=t) 3988292384 0 (by decide) (by decide) w
    simpa using this
  · rw [h,show IntKind.u32.wrap (0 - ((1:Nat):Int))=((4294967295:Nat):Int) from by decide]
    have:=and32 (P:=P) (t:=t) 3988292384 4294967295 (by decide) (by decide) w
    simpa using this
end
section
variable {P:Program} {ops:Array Oper} {a:Act} {o:Oper} {L:List Res} {n:Nat} {E:Env}
theorem y_un {u:UnOp} {t:TypeId} {x:Operand} {v r:Value} (S:Slots a n E) (ho:o.op=.unOp u t x) (hx:ev E x=some v) (hr:∀ w,(Op.unary u v).run P w=.ok r w):Yl P L o a r:=fun w _=>by
  simp only [execOp,ho,S.eval hx,Sem.run_bind,hr,Result.andThen_ok,Sem.run_pure]
theorem neg32 (m:Int) (w:World):(Op.unary .neg (.int .u32 m)).run P w=.ok (.int .u32 (IntKind.u32.wrap (0 - m))) w:=by
  rw [unary_neg];rfl
theorem not32 (a:Nat) (ha:a < 4294967296) (w:World):(Op.unary .xor (.int .u32 (a:Int))).run P w=.ok (.int .u32 ((a ^^^ 4294967295:Nat):Int)) w:=by
  rw [unary_xor]
  have h:=xor32 (P:=P) (t:=0) 4294967295 a (by decide) ha w
  rw [binOp_xor] at h
  rw [Nat.xor_comm]
  exact h
end
namespace Oc
set_option linter.unusedVariables false
set_option linter.unusedSimpArgs false
theorem crcFrom_snoc (b:Dk.By) (x:UInt8):crcFrom (b++[x])=crcByte (crcFrom b) x:=by simp [crcFrom]
theorem crcFrom_take {b:Dk.By} {i:Nat} (h:i < b.length):crcFrom (b.take (i+1))=crcByte (crcFrom (b.take i)) (b.getD i 0):=by
  rw [<-crcFrom_snoc];congr 1
  rw [List.getD_eq_getElem?_getD,List.getElem?_eq_getElem h,Option.getD_some];simp
theorem le_snoc:∀ k n,le (k+1) n=le k n++[UInt8.ofNat (n / 256 ^ k%256)]
  | 0,n=>by simp [le]
  | k+1,n=>by
    rw [le,le_snoc k (n / 256),le,Nat.div_div_eq_div_mul,Nat.pow_succ,Nat.mul_comm];rfl
end Oc
end Go.Cg
namespace Go.Cg
set_option linter.unusedVariables false
set_option linter.unusedSimpArgs false
section
variable {P:Program} {t:TypeId}
theorem shl8 (a:Nat) (ha:a*256 < 18446744073709551616) (w:World):(binOp .shl t (.int .u64 (a:Int)) (.int .u64 8)).run P w=.ok (.int .u64 ((a*256:Nat):Int)) w:=by
  rw [binOp_shl]
  have h0:¬ ((8:Int) < 0):=by decide
  have e:IntKind.u64.wrap ((a:Int)*2 ^ (min (8:Int).toNat (IntKind.u64).bits))=((a*256:Nat):Int):=by
    show IntKind.u64.wrap ((a:Int)*256)=_
    rw [show ((a:Int)*256)=((a*256:Nat):Int) from by omega]
    exact wu64 (by omega) (by omega)
  simp only [Op.shift,h0,if_false,e,Sem.run_pure]
theorem orByte (a x:Nat) (ha:a*256 < 18446744073709551616) (hx:x < 256) (w:World):(binOp .or t (.int .u64 ((a*256:Nat):Int)) (.int .u64 (x:Int))).run P w=.ok (.int .u64 ((a*256+x:Nat):Int)) w:=by
  have h:=bits_or_u64_nat (a*256) x ha (by omega)
  have e:a*256||| x=a*256+x:=by
    have:=Nat.shiftLeft_add_eq_or_of_lt (i:=8) (b:=x) (by omega) a
    rw [Nat.shiftLeft_eq] at this
    exact this.symm
  rw [e] at h
  rw [binOp_or,intBits_or,h,Sem.run_pure]
end
namespace Oc
set_option linter.unusedVariables false
set_option linter.unusedSimpArgs false
theorem unle_step {b:Dk.By} {q:Nat} (h:q < b.length):unle (b.drop q)=unle (b.drop (q+1))*256+(b[q]?.getD 0).toNat:=by
  rw [List.drop_eq_getElem_cons h,unle,List.getElem?_eq_getElem h];simp;omega
end Oc
end Go.Cg
end
section
namespace Go.Cg
set_option linter.unusedVariables false
set_option linter.unusedSimpArgs false
open Go.RowKit
open Dk (By)
abbrev Sl:=Option Addr×Nat×Nat
def slv (s:Sl):Value:=.slice s.1 s.2.1 s.2.2
def sls (l:List Sl):List Value:=l.map slv
def sl0:Sl:=(none,0,0)
@[simp] theorem len_sls (l:List Sl):(sls l).length=l.length:=by simp [sls]
@[simp] theorem sls_nil:sls []=[]:=rfl
theorem sls_at {l:List Sl} {i:Nat} (h:i < l.length):(sls l)[i*1]? =some (.slice (l.getD i sl0).1 (l.getD i sl0).2.1 (l.getD i sl0).2.2):=by
  rw [Nat.mul_one,sls,List.getElem?_map,List.getD_eq_getElem?_getD,List.getElem?_eq_getElem h];rfl
/-- slices that tell bytes -/
structure SlsOk (L:List Res) (l:List Sl) (ds:List By):Prop where
  len:l.length=ds.length
  ok:∀ i,i < l.length->SlOk L 1 (l.getD i sl0).1 (l.getD i sl0).2.1 (l.getD i sl0).2.2 (u8s (ds.getD i []))
theorem SlsOk.at {L:List Res} {l:List Sl} {ds:List By} (h:SlsOk L l ds) {i:Nat} (hi:i < l.length):∃A c,l.getD i sl0=(A,(ds.getD i []).length,c)/\SlOk L 1 A (ds.getD i []).length c (u8s (ds.getD i [])):=by
  have h1:=h.ok i hi
  have h2:=h1.n8
  refine ⟨(l.getD i sl0).1,(l.getD i sl0).2.2,?_,?_⟩
  · rw [<-h2]
  · rw [h2] at h1;exact h1
theorem SlsOk.nil (L:List Res):SlsOk L [] []:=⟨rfl,fun i h=>absurd h (Nat.not_lt_zero _)⟩
theorem SlsOk.cons {L:List Res} {s:Sl} {l:List Sl} {d:By} {ds:List By} (h:SlOk L 1 s.1 s.2.1 s.2.2 (u8s d)) (hl:SlsOk L l ds):SlsOk L (s::l) (d::ds):=⟨by simp [hl.len],fun i hi=>by
  cases i with
  | zero=>exact h
  | succ i=>exact hl.ok i (by simpa using hi)⟩
theorem SlsOk.via {L M:List Res} {l:List Sl} {ds:List By} (h:SlsOk L l ds) (hM:∀ w,Sat w M->Sat w L):SlsOk M l ds:=⟨h.len,fun i hi=>(h.ok i hi).via hM⟩
theorem SlsOk.drop {L:List Res} {l:List Sl} {ds:List By} (h:SlsOk L l ds) (k:Nat):SlsOk L (l.drop k) (ds.drop k):=⟨by simp [h.len],fun i hi=>by
  have:=h.ok (k+i) (by simp at hi;omega)
  simpa [List.getD_eq_getElem?_getD] using this⟩
theorem flat_take {ds:List By} {i:Nat} (h:i < ds.length):(ds.take (i+1)).flatten=(ds.take i).flatten++ds.getD i []:=by
  have e:ds.take (i+1)=ds.take i++[ds[i]]:=by simp
  rw [List.getD_eq_getElem?_getD,List.getElem?_eq_getElem h,Option.getD_some,e,List.flatten_append];simp
theorem flat_le (ds:List By) (i:Nat):(ds.take i).flatten.length<=ds.flatten.length:=by
  conv=>rhs;rw [<-List.take_append_drop i ds]
  rw [List.flatten_append,List.length_append];omega
theorem SlOk.nil8 (L:List Res):SlOk L 1 none 0 0 (u8s []):=⟨fun _=>rfl,Nat.le_refl _,Nat.zero_le _,rfl,fun _ _ j v h=>by simp at h⟩
/-- a row cut to nothing -/
theorem Sat.cut {w:World} {L:List Res} {e n c:Nat} {A:Option Addr} {xs:List Value} (H:Sat w (row e 1 (.slice A n c) n xs::L)):Sat w (row e 1 (.slice A 0 c) 0 []::L):=by
  refine H.weaken fun F hP=>⟨?_,?_⟩
  · refine ⟨rfl,?_⟩
    rcases hP.1.2 with ⟨h1,h2⟩ | ⟨g,cap,cur,h1,h3,h4,h5,h6,h7,h8⟩
    · cases h1;exact .inl ⟨rfl,rfl⟩
    · cases h1
      exact .inr ⟨g,_,cur,rfl,h3,h4,Nat.zero_le _,h6,h7,by simp⟩
  · exact fun k=>(hP.2 k).trans (by cases A<;>simp [Value.ownBlock])
section
variable {P:Program} {ops:Array Oper} {a:Act} {o:Oper} {L:List Res} {n:Nat} {E:Env}
theorem y_cap {t e len cap:Nat} {A:Option Addr} {x:Operand} (S:Slots a n E) (ho:o.op=.call { callee:=.builtin .cap,args:=#[x],argTypes:=#[t] }) (hx:ev E x=some (.slice A len cap)) (ht:P.underlying t=some (.slice e)):Yl P L o a (.int .i64 cap):=fun w _=>by
  simp [execOp,ho,resolve,invoke,builtin,S.eval hx,Builtin.cap_,run_underlying ht,goInt]
instance Stp.cap (t e m c:Nat) (A:Option Addr) (x:Operand) [hx:Ev E x (.slice A m c)] [hu:Und P t (.slice e)]:Stp P L E (.call { callee:=.builtin .cap,args:=#[x],argTypes:=#[t] }) (.int .i64 c):=⟨fun S _ ho=>y_cap S ho hx.h hu.h⟩
end
end Go.Cg
namespace Go.Cg
set_option linter.unusedVariables false
set_option linter.unusedSimpArgs false
theorem shift0 (A:Option Addr) (b:Bool):shift A 0 b=A:=by
  cases A with
  | none=>cases b<;>rfl
  | some a=>cases b<;>simp [shift,Addr.add]
end Go.Cg
namespace Go.Cg
set_option linter.unusedVariables false
set_option linter.unusedSimpArgs false
theorem SlOk.head8 {L:List Res} {A:Option Addr} {m c:Nat} {l:List UInt8} (h:SlOk L 1 A m c (u8s l)) (k:Nat) (hk:k<=m):SlOk L 1 A k c (u8s (l.take k)):=by
  have:=h.part8 0 k (Nat.zero_le _) hk
  rw [Nat.zero_mul,shift0] at this
  simpa using this
namespace Oc
set_option linter.unusedVariables false
set_option linter.unusedSimpArgs false
theorem get_lt (b:Dk.By) (i:Int) (k:Nat):(get b i k).1 < 256 ^ k:=by
  unfold get
  split
  · rename_i h
    have h1:=unle_lt ((b.drop i.toNat).take ((k:Int)).toNat)
    refine Nat.lt_of_lt_of_le h1 (Nat.pow_le_pow_right (by omega) (by simp;omega))
  · exact Nat.pow_pos (by omega)
theorem get_ok {b:Dk.By} {i k:Nat} (h1:1<=k/\k<=8) (h:i+k<=b.length):get b i k=(unle ((b.drop i).take k),true):=by
  unfold get;rw [if_pos (by omega)];simp
theorem get_no {b:Dk.By} {i k:Nat} (h:b.length < i+k):get b i k=(0,false):=by
  unfold get;rw [if_neg (by omega)]
end Oc
end Go.Cg
namespace Go.Cg
set_option linter.unusedVariables false
set_option linter.unusedSimpArgs false
open Go.RowKit
open Dk (By)
/-! ### blocks of their own, listed -/
namespace Oc
set_option linter.unusedVariables false
set_option linter.unusedSimpArgs false
theorem enc_2 (d:Dk.By):(enc d).2=if 1000 < d.length then 1 else 0:=by unfold enc;split<;>rfl
theorem enc_l (d:Dk.By):(enc d).1.length<=1006:=by
  unfold enc;split
  · simp
  · simp [le_len];omega
end Oc
end Go.Cg
namespace Go.Cg
set_option linter.unusedVariables false
set_option linter.unusedSimpArgs false
theorem SlOk.tail8 {L:List Res} {A:Option Addr} {m c:Nat} {l:List UInt8} (h:SlOk L 1 A m c (u8s l)) (i:Nat) (hi:i<=m):SlOk L 1 (shift A (i*1) (decide (c=i))) (m - i) (c - i) (u8s (l.drop i)):=by
  have:=h.tail i hi
  rwa [u8s_drop] at this
end Go.Cg
namespace Go.Cg
set_option linter.unusedVariables false
set_option linter.unusedSimpArgs false
section
variable {P:Program} {ops:Array Oper} {a:Act} {o:Oper} {L:List Res} {n:Nat} {E:Env}
end
end Go.Cg
namespace Go.Cg
set_option linter.unusedVariables false
set_option linter.unusedSimpArgs false
section
variable {P:Program} {ops:Array Oper} {a:Act} {o:Oper} {L:List Res} {n:Nat} {E:Env}
theorem y_addS {t t':TypeId} {x y:Operand} {u v:List UInt8} (S:Slots a n E) (ho:o.op=.binOp .add t x y t') (hx:ev E x=some (str u)) (hy:ev E y=some (str v)) (hl:u.length+v.length<=9223372036854775807):Yl P L o a (str (u++v)):=
  (@StpC.addS P L E t t' x y u v ⟨hx⟩ ⟨hy⟩).h (by omega) S ho
end
end Go.Cg
namespace Go.Cg
set_option linter.unusedVariables false
set_option linter.unusedSimpArgs false
def fnv (l:List Value):List Value:=l
@[simp] theorem len_fnv (l:List Value):(fnv l).length=l.length:=rfl
end Go.Cg
namespace Go.Cg
set_option linter.unusedVariables false
set_option linter.unusedSimpArgs false
end Go.Cg
namespace Go.Cg
set_option linter.unusedVariables false
set_option linter.unusedSimpArgs false
section
variable {P:Program} {ops:Array Oper} {a:Act} {o:Oper} {L:List Res} {n:Nat} {E:Env}
end
end Go.Cg
end
section
namespace Go.Cg
set_option linter.unusedVariables false
set_option linter.unusedSimpArgs false
open Go.RowKit
/-- cells put into a row, from a place on -/
def putL:List Value->Nat->List Value->List Value
  | xs,_,[]=>xs
  | xs,j,v::vs=>putL (xs.set j v) (j+1) vs
@[simp] theorem putL_len:∀ (vs xs:List Value) (j:Nat),(putL xs j vs).length=xs.length
  | [],_,_=>rfl
  | v::vs,xs,j=>by rw [putL,putL_len vs];simp
section
variable {P:Program} {ops:Array Oper} {Q:Exit->Act->World->Prop} {a:Act} {w:World} {rest:List Oper} {o:Oper} {L:List Res} {n:Nat} {E:List (Nat×Value)}
theorem sat_storesRow {e:TypeId} {sz g len cap:Nat} (j:Nat):∀ (vs xs:List Value) (i:Nat) (w:World),Sat w (row e sz (.slice (some ⟨g,0,none⟩) len cap) len xs::L)->j+i+vs.length<=len*sz->(∀ u∈vs,u.oneCell'=true)->
    ∃w',(storeCells ⟨g,j,none⟩ vs i).run P w=.ok () w'/\Sat w' (row e sz (.slice (some ⟨g,0,none⟩) len cap) len (putL xs (j+i) vs)::L)
  | [],xs,i,w,H,_,_=>⟨w,by simp [storeCells],H⟩
  | v::vs,xs,i,w,H,h,h1=>by
    have hadd:(⟨g,j,none⟩:Addr).add i=⟨g,j+i,none⟩:=by unfold Addr.add;split<;>simp_all
    obtain ⟨hr,H'⟩:=sat_setRow (P:=P) H (k:=j+i) (by simp only [List.length_cons] at h;omega) v (h1 v (by simp))
    obtain ⟨w',hr2,H2⟩:=sat_storesRow j vs _ (i+1) _ H' (by simp only [List.length_cons] at h;omega) (fun u hu=>h1 u (by simp [hu]))
    refine ⟨w',?_,by rw [putL,Nat.add_assoc];exact H2⟩
    rw [storeCells,hadd]
    simp only [Sem.run_bind,hr,Result.andThen_ok]
    exact hr2
theorem r_setRows {ty e:TypeId} {ad x:Operand} {g j sz len cap s:Nat} {v:Value} {vs xs xs':List Value} {L':List Res} (i:Nat) (S:Slots a n E) (H:Sat w L) (ho:o.op=.store ty ad x) (ha:ev E ad=some (.pointer (some ⟨g,j,none⟩))) (hx:ev E x=some v)
    (hL:L[i]? =some (row e sz (.slice (some ⟨g,0,none⟩) len cap) len xs)) (hs:SizeOf P ty s) (hvs:v.cells.toList=vs) (hl:vs.length=s) (h1:∀ u∈vs,u.oneCell'=true) (hj:j+s<=len*sz) (hxs:putL xs j vs=xs') (hL':L.set i (row e sz (.slice (some ⟨g,0,none⟩) len cap) len xs')=L') (hd:o.dst=none) (hw:Wt ops E o=some true)
    (K:∀ w',Sat w' L'->wpList P ops Q rest a w'):wpList P ops Q (o::rest) a w:=by
  obtain ⟨w',hr,H'⟩:=sat_storesRow (P:=P) j vs xs 0 w (H.fetch hL) (by omega) h1
  refine r_act S ?_ hd hw (K w' (by subst hL';subst hxs;exact H'.back (lt_of_at hL)))
  have hn:v.cells.size=s:=by rw [<-hl,<-hvs];simp
  simp [execOp,ho,S.eval ha,S.eval hx,Instr.storeAt,Instr.sureAddr,storeVar,hs w,hn,hvs,hr]
/-- a value as an interface -/
theorem y_iface {t:TypeId} {x:Operand} {v:Value} {d:TypeDesc} (S:Slots a n E) (ho:o.op=.makeInterface t x) (hx:ev E x=some v) (hu:P.underlying t=some d) (hn:∀ ms,d≠ .interface ms):Yl P L o a (.iface t v):=
  yl_val (s:=Instr.makeInterface t (a.eval x)) (by simp only [execOp,ho]) fun w _=>by
    rw [S.eval hx]
    unfold Instr.makeInterface
    simp only [Sem.run_bind,run_underlying hu,Result.andThen_ok]
    cases d<;>first | rfl | exact absurd rfl (hn _)
/-- which function a method of an interface is -/
def Meth (P:Program) (t:TypeId) (v:Value) (name:String) (f:FuncId):Prop:=∀ w,(method (P.types.size+Made.depth) t v name).run P w=.ok (f,v) w
theorem run_callM {recv:Operand} {name:String} {xs:Array Operand} {ats:Array TypeId} {args:Array Value} {t:TypeId} {v:Value} {f:FuncId} (S:Slots a n E) (ho:o.op=.call { callee:=.invoke recv name,args:=xs,argTypes:=ats }) (hr:ev E recv=some (.iface t v)) (hargs:xs.toList.map (ev E)=args.toList.map some) (hm:Meth P t v name f) (w:World):
    (execOp a.eval o).run P w=(callFunc f (#[v]++args)).run P w:=by
  have he:=map_eval S hargs
  have hp:Sem.run P program w=.ok P w:=rfl
  simp only [execOp,ho,resolve,he,S.eval hr,Sem.run_bind,Sem.run_pure,Result.andThen_ok,invoke]
  have e1:(#[Value.iface t v]++args)[0]? =some (.iface t v):=by rw [Array.getElem?_append_left (by simp)];rfl
  have e2:(#[Value.iface t v]++args).extract 1 (#[Value.iface t v]++args).size=args:=by
    apply Array.ext'
    simp
  simp only [e1,e2,callMethod,Sem.run_bind,hp,Result.andThen_ok,hm w]
theorem q_callM {Q:Act->Prop} {recv:Operand} {name:String} {xs:Array Operand} {ats:Array TypeId} {args args':Array Value} {t:TypeId} {u v:Value} {f:FuncId} {d:Nat} (S:Slots a n E) (ho:o.op=.call { callee:=.invoke recv name,args:=xs,argTypes:=ats }) (hr:ev E recv=some (.iface t u)) (hargs:xs.toList.map (ev E)=args.toList.map some) (hm:Meth P t u name f) (hf:Enters P f) (he:#[u]++args=args')
    (hc:∀ w,Sat w L->Rt P f args' w fun x w'=>x=v/\Sat w' L) (hd:o.dst=some d) (hn:Nat.blt d n=true) (hw:Wt ops E o=some true) (K:∀ a',Slots a' n ((d,v)::E)->wpQuiet P ops (fun w=>Sat w L) Q rest a'):wpQuiet P ops (fun w=>Sat w L) Q (o::rest) a:=by
  unfold wpQuiet
  rw [S.wanted hw,if_pos rfl]
  refine ⟨v,fun w H=>?_,by rw [hd];exact K _ (S.put hn v)⟩
  unfold Oper.quietAt
  rw [run_callM S ho hr hargs hm w,hf _ w,he]
  exact ⟨rfl,Calls.mono (hc w H) fun e w' ⟨x,he,hx,H'⟩=>⟨by rw [he,hx],H'⟩⟩
/-- a row of which the last ones are let go -/
theorem Sat.short {e sz m c k:Nat} {A:Option Addr} {xs:List Value} (H:Sat w (row e sz (.slice A m c) m xs::L)) (hk:k<=m):Sat w (row e sz (.slice A k c) k (xs.take (k*sz))::L):=by
  refine H.weaken fun F hP=>⟨?_,?_⟩
  · have hks:k*sz<=m*sz:=Nat.mul_le_mul_right _ hk
    refine ⟨by rw [List.length_take,hP.1.1];omega,?_⟩
    rcases hP.1.2 with ⟨h1,h2⟩ | ⟨g,cap,cur,h1,h3,h4,h5,h6,h7,h8⟩
    · cases h1
      have:k=0:=by omega
      subst this;exact .inl ⟨rfl,rfl⟩
    · cases h1
      exact .inr ⟨g,_,cur,rfl,h3,h4,Nat.le_trans hk h5,h6,h7,by rw [<-h8,List.take_take,Nat.min_eq_left hks]⟩
  · exact fun k=>(hP.2 k).trans (by cases A<;>simp [Value.ownBlock])
end
end Go.Cg
end
section
namespace Go.Cg
set_option linter.unusedVariables false
set_option linter.unusedSimpArgs false
open Go.RowKit
section
variable {P:Program} {ops:Array Oper} {Q:Exit->Act->World->Prop} {a:Act} {w:World} {rest:List Oper} {o:Oper} {L:List Res} {n:Nat} {E:List (Nat×Value)}
theorem r_clearS {t e:TypeId} {x:Operand} {X:Option Addr} {g j m c len cap bytes:Nat} {z:Value} {xs:List Value} {L':List Res} (i:Nat) (S:Slots a n E) (H:Sat w L) (ho:o.op=.call { callee:=.builtin .clear,args:=#[x],argTypes:=#[t] }) (hx:ev E x=some (.slice X m c)) (hX:m=0\/X=some ⟨g,j,none⟩)
    (hL:L[i]? =some (row e 1 (.slice (some ⟨g,0,none⟩) len cap) len xs)) (El:Elem P t e 1 bytes z) (hz1:z.cells=#[z]) (hone:z.oneCell'=true) (hj:j+m<=len) (hL':L.set i (row e 1 (.slice (some ⟨g,0,none⟩) len cap) len (putL xs j (List.replicate m z)))=L') (hd:o.dst=none) (hw:Wt ops E o=some true)
    (K:∀ w',Sat w' L'->wpList P ops Q rest a w'):wpList P ops Q (o::rest) a w:=by
  obtain ⟨d,hi,hz,hs,_⟩:=El.parts
  have ht:=El.sl
  have hze:(zeroValue e).run P w=.ok z w:=by simp [zeroValue,typeInfo,hi,hz]
  obtain ⟨w',hr,H'⟩:=sat_storesRow (P:=P) j (List.replicate m z) xs 0 w (H.fetch hL) (by simp;omega) (fun u hu=>by rw [(List.mem_replicate.1 hu).2];exact hone)
  rcases Nat.eq_zero_or_pos m with h0 | h0
  · subst h0
    have hx':(execOp a.eval o).run P w=.ok (.value (.tuple #[])) w:=by
      cases X<;>simp [execOp,ho,resolve,invoke,builtin,S.eval hx,Builtin.clear_,run_underlying ht]
    refine wpList_wanted (S.wanted hw) ?_
    unfold Oper.wp
    rw [hx']
    simp only [Oper.upon,hd]
    have e0:w'=w:=by simpa [storeCells] using hr.symm
    subst e0
    exact K _ (by subst hL';exact H'.back (lt_of_at hL))
  · have hX:X=some ⟨g,j,none⟩:=hX.resolve_left (by omega)
    subst hX
    obtain ⟨k,rfl⟩:∃k,m=k+1:=⟨m - 1,by omega⟩
    have hx':(execOp a.eval o).run P w=.ok (.value (.tuple #[])) w':=by
      simp [execOp,ho,resolve,invoke,builtin,S.eval hx,Builtin.clear_,run_underlying ht,hze,hz1,zeroCells_one,hr]
    refine wpList_wanted (S.wanted hw) ?_
    unfold Oper.wp
    rw [hx']
    simp only [Oper.upon,hd]
    exact K _ (by subst hL';exact H'.back (lt_of_at hL))
end
theorem putL_take:∀ (vs xs:List Value) (j k:Nat),k<=j->(putL xs j vs).take k=xs.take k
  | [],_,_,_,_=>rfl
  | v::vs,xs,j,k,h=>by
    rw [putL,putL_take vs _ (j+1) k (by omega),List.take_set_of_le h]
end Go.Cg
end
section
namespace Go.Cg
set_option linter.unusedVariables false
set_option linter.unusedSimpArgs false
open Go.RowKit
section
variable {P:Program} {t:TypeId}
theorem half64 (a:Nat) (w:World):(binOp .shr t (.int .u64 (a:Int)) (.int .u64 1)).run P w=.ok (.int .u64 ((a / 2:Nat):Int)) w:=by
  rw [binOp_shr]
  have:Int.fdiv (a:Int) (2 ^ (min (1:Int).toNat (IntKind.u64).bits))=((a / 2:Nat):Int):=by
    show Int.fdiv (a:Int) (2:Int)=_
    rw [Int.fdiv_eq_ediv_of_nonneg _ (by omega)];omega
  have h0:¬ ((1:Int) < 0):=by decide
  simp only [Op.shift,h0,if_false,this,Sem.run_pure]
theorem shl32 (a:Nat) (ha:a*4294967296 < 18446744073709551616) (w:World):(binOp .shl t (.int .u64 (a:Int)) (.int .u64 32)).run P w=.ok (.int .u64 ((a*4294967296:Nat):Int)) w:=by
  rw [binOp_shl]
  have h0:¬ ((32:Int) < 0):=by decide
  have e:IntKind.u64.wrap ((a:Int)*2 ^ (min (32:Int).toNat (IntKind.u64).bits))=((a*4294967296:Nat):Int):=by
    show IntKind.u64.wrap ((a:Int)*4294967296)=_
    rw [show ((a:Int)*4294967296)=((a*4294967296:Nat):Int) from by omega]
    exact wu64 (by omega) (by omega)
  simp only [Op.shift,h0,if_false,e,Sem.run_pure]
theorem or32 (a x:Nat) (ha:a*4294967296 < 18446744073709551616) (hx:x < 4294967296) (w:World):(binOp .or t (.int .u64 ((a*4294967296:Nat):Int)) (.int .u64 (x:Int))).run P w=.ok (.int .u64 ((a*4294967296+x:Nat):Int)) w:=by
  have h:=bits_or_u64_nat (a*4294967296) x ha (by omega)
  have e:a*4294967296||| x=a*4294967296+x:=by
    have:=Nat.shiftLeft_add_eq_or_of_lt (i:=32) (b:=x) (by omega) a
    rw [Nat.shiftLeft_eq] at this
    exact this.symm
  rw [e] at h
  rw [binOp_or,intBits_or,h,Sem.run_pure]
theorem low32 (a:Nat):IntKind.u32.wrap ((a:Nat):Int)=((a%4294967296:Nat):Int):=by rw [IntKind.wrap_u32'];omega
end
end Go.Cg
end
section
namespace Go.Cg
set_option linter.unusedVariables false
set_option linter.unusedSimpArgs false
open Go.RowKit
/-- a row that was laid of a constant -/
def rowC (b:Nat) (e:TypeId) (xs:List Value):Res where
  own w F:=(∃cur fz,w.heap[b]? =some (.cells cur e fz)/\cur.toList=xs)/\∀ k,F k↔k=b
  stable _ h h':=⟨by obtain ⟨cur,fz,h1,h2⟩:=h'.1;exact ⟨cur,fz,(h _ ((h'.2 _).2 rfl)).trans h1,h2⟩,h'.2⟩
section
variable {L:List Res}
theorem SlOk.ofConst {b k i:Nat} {e:TypeId} {xs:List Value} (hL:L[i]? =some (rowC b e xs)) (hl:xs.length=k) (hm:k<=maxLen):SlOk L 1 (some ⟨b,0,none⟩) k k xs:=
  ⟨(fun h=>by cases h),Nat.le_refl _,hm,by omega,fun w' H' j v hj=>by
    obtain ⟨F,_,⟨cur,fz,h1,h2⟩,_⟩:=(H'.fetch hL).head
    refine ⟨b,0,rfl,?_⟩
    have:w'.cell? ⟨b,0+j,none⟩=cur[j]? :=by simp [World.cell?,h1]
    rw [this,<-Array.getElem?_toList,h2,hj]⟩
end
end Go.Cg
namespace Go.Cg
set_option linter.unusedVariables false
set_option linter.unusedSimpArgs false
open Go.RowKit
section
variable {P:Program} {ops:Array Oper} {Q:Exit->Act->World->Prop} {a:Act} {w:World} {rest:List Oper} {o:Oper} {L:List Res} {n:Nat} {E:List (Nat×Value)}
theorem r_convC {t e:TypeId} {b k d:Nat} {x:Operand} {xs:List Value} {L':List Res} (i:Nat) (S:Slots a n E) (H:Sat w L) (ho:o.op=.convert t t x) (hx:ev E x=some (.slice (some ⟨b,0,none⟩) k k)) (hL:L[i]? =some (row e 1 (.slice (some ⟨b,0,none⟩) k k) k xs)) (ht:P.underlying t=some (.slice e)) (he:P.underlying e=some (.int .u8)) (hL':L.set i (rowC b e xs)=L') (hd:o.dst=some d) (hn:Nat.blt d n=true) (hw:Wt ops E o=some true)
    (K:∀ a' w',Slots a' n ((d,.slice (some ⟨b,0,none⟩) k k)::E)->Sat w' L'->wpList P ops Q rest a' w'):wpList P ops Q (o::rest) a w:=by
  subst hL'
  have h:=H.fetch hL
  obtain ⟨F,_,hown,hF⟩:=h.head
  obtain ⟨cur,hg,hsz,htk⟩:∃cur,w.heap[b]? =some (.cells cur e (0,0))/\cur.size=k/\cur.toList=xs:=by
    rcases hown.2 with ⟨h1,_⟩ | ⟨g,cap,cur,h1,_,h3,_,_,h4,h5⟩
    · cases h1
    · cases h1
      refine ⟨cur,h3,by omega,?_⟩
      rw [<-h5,List.take_of_length_le (by simp;omega)]
  have hb:b < w.heap.size:=(Array.getElem?_eq_some_iff.1 hg).1
  obtain ⟨w',hw'⟩:∃w',w'=w.freeze ⟨b,k,none⟩ 1:=⟨_,rfl⟩
  have hr:(convert t t (.slice (some ⟨b,0,none⟩) k k)).run P w=.ok (.slice (some ⟨b,0,none⟩) k k) w':=by
    have hsh:w.shape? b=some (e,cur.size):=by unfold World.shape?;rw [hg]
    simp [convert,run_underlying ht,run_underlying he,markStringish,hsh,hsz,hw']
  have hheap:w'.heap=w.heap.modify b fun
      | .cells c elem (lo,hi)=>.cells c elem (if lo==hi then (k,k+1) else (min lo k,max hi (k+1)))
      | o=>o:=by rw [hw'];unfold World.freeze;rw [if_neg (by decide)];rfl
  have hsize:w'.heap.size=w.heap.size:=by rw [hheap];simp
  have hp:Hp w w':=⟨by rw [hw'];unfold World.freeze;rw [if_neg (by decide)],by rw [hw'];unfold World.freeze;rw [if_neg (by decide)],by rw [hw'];unfold World.freeze;rw [if_neg (by decide)],by omega⟩
  have hat:∃fz,w'.heap[b]? =some (.cells cur e fz):=by
    rw [hheap,Array.getElem?_modify,if_pos rfl,hg];exact ⟨_,rfl⟩
  have hoff:∀ j,j≠b->w'.heap[j]? =w.heap[j]? :=fun j hj=>by rw [hheap,Array.getElem?_modify,if_neg (fun c=>hj c.symm)]
  refine r_val S ?_ hd hn hw fun a' S'=>K a' w' S' (Sat.back (h.turn (P':=rowC b e xs) hp fun G hG hP=>⟨G,fun j hj=>⟨by rw [hsize];exact hG j hj,.inl hj⟩,⟨by obtain ⟨fz,hz⟩:=hat;exact ⟨cur,fz,hz,htk⟩,fun j=>(hP.2 j).trans ⟨fun c=>(Option.some.inj c).symm,fun c=>by rw [c];rfl⟩⟩,fun j _ hnf=>hoff j fun c=>hnf ((hP.2 j).2 (by rw [c];rfl))⟩) (lt_of_at hL))
  unfold execOp
  simp only [ho,Sem.run_bind,Sem.run_pure,Result.andThen_ok,S.eval hx,hr]
end
end Go.Cg
end
