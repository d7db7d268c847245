/- Laws of the model, walks of functions of the program, and what they rest on. No condition. -/
import Derived.Test.YtoffbmhmocfmnaaGreatDoorKVaq
import Derived.Test.YtoffbmhmocfmnaaGreatDoorKVar
namespace Go.Proofs.YtoffbmhmocfmnaaGreatDoor
open Go.RowKit Go.Cg
set_option linter.unusedVariables false
set_option linter.unusedSimpArgs false
set_option maxRecDepth 8000
set_option synthInstance.maxHeartbeats 1000000
set_option synthInstance.maxSize 1000000
open Go.Cg.Dk (Fl Fs Nm By)
theorem crc_ct (w:World) (fr:List Res) (A:Option Addr) (n c:Nat) (b:By) (ok:SlOk fr 1 A n c (u8s b)) (H:Sat w (fr)):
    Rt Tryz.prog 136 #[.slice A n c] w fun v w'=>v=.int .u32 ((Oc.crc b:Nat):Int)/\Sat w' fr:=by
  refine en1 Tryz.func136 rfl Tryz.ntmps136 rfl fun a S=>?_
  obtain rfl:=ok.n8
  have hcp:=ok.cap
  have hle:=ok.le
  simp only [maxLen] at hcp
  refine sr 1 S H t0 fun a w S H=>?_
  refine sr 1 S H t0 fun a w S H=>?_
  refine r_seq ?_
  refine sr 3 S H t0 fun a w S H=>?_
  refine r_block ?_
  refine r_loop (ι:=Nat) (fun i a w=>Slots a 29 [(2,.int .u32 0),(3,.int .u32 ((Oc.crcFrom (b.take i):Nat):Int)),(6,.slice A b.length c),(7,.int .i64 ((b.length:Nat):Int)),(8,.int .i64 ((i:Nat):Int)),(29,undef)]/\Sat w (fr)/\(i<=b.length)) (fun i=>b.length - i) 0 ⟨S.sub ⟨rfl,rfl,rfl,rfl,rfl,rfl,trivial⟩,H,Nat.zero_le _⟩ (fun i a w hI=>?_)
  obtain ⟨S,H,hI⟩:=hI
  have hil:=hI
  have hc0:=Oc.crcFrom_lt (b.take i)
  have hx8:=(b.getD i 0).toNat_lt
  have hcf:(Oc.crcFrom (b.take i) ^^^ (b.getD i 0).toNat) < 4294967296:=Nat.xor_lt_two_pow (n:=32) hc0 (by omega)
  refine sr 1 S H t0 fun a w S H=>?_
  refine r_seq ?_
  refine r_test S rfl (fun h9=>?_) (fun h9=>?_)
  · skip
    refine wp_skip ?_
    refine x_then ?_
    refine r_seq ?_
    refine r_block ?_
    refine sb ?_
    obtain ⟨b1,o2,rfl⟩:=ok.addr H (by first | omega | (simp<;>omega))
    refine r_y S H (y_index S rfl rfl rfl Tryz.underlying50 Tryz.sizeOf5 (by omega) (by omega)) rfl rfl rfl fun a S=>?_
    refine r_y S H (y_loadAt S rfl rfl Tryz.isAgg5 (fun w H=>ok.cell w H (u8s_at (i:=i) (by first | omega | (simp<;>omega))))) rfl rfl rfl fun a S=>?_
    refine rs 1 S H t0 fun a w S H=>?_
    refine sb ?_
    refine rn 3 S H (by omega) fun a w S H=>?_
    refine r_y S H (y_bitop S rfl rfl rfl (fun w=>xor32 (Oc.crcFrom (b.take i)) (b.getD i 0).toNat hc0 (by omega) w)) rfl rfl rfl fun a S=>?_
    refine rs 1 S H t0 fun a w S H=>?_
    refine sr 1 S H t0 fun a w S H=>?_
    refine r_block ?_
    refine r_loop (ι:=Nat) (fun k a w=>Slots a 29 [(2,.int .u32 0),(3,.int .u32 ((Oc.crcBits k (Oc.crcFrom (b.take i) ^^^ (b.getD i 0).toNat):Nat):Int)),(5,.int .u8 ((b.getD i 0).toNat:Int)),(6,.slice (some ⟨b1,o2,none⟩) b.length c),(7,.int .i64 ((b.length:Nat):Int)),(8,.int .i64 ((i:Nat):Int)),(9,.bool (decide (((i:Nat):Int) < ((b.length:Nat):Int)))),(10,.pointer (some ⟨b1,o2+i*1,none⟩)),(11,.int .u8 ((b.getD i 0).toNat:Int)),(12,.int .u32 ((Oc.crcFrom (b.take i):Nat):Int)),(13,.int .u8 ((b.getD i 0).toNat:Int)),(14,.int .u32 ((b.getD i 0).toNat:Int)),(15,.int .u32 (((Oc.crcFrom (b.take i) ^^^ (b.getD i 0).toNat):Nat):Int)),(16,.int .i64 ((k:Nat):Int)),(29,undef)]/\Sat w (fr)/\(k<=8)) (fun k=>8 - k) 0 ⟨S.sub ⟨rfl,rfl,rfl,rfl,rfl,rfl,rfl,rfl,rfl,rfl,rfl,rfl,rfl,rfl,rfl,trivial⟩,H,Nat.zero_le _⟩ (fun k a w hI=>?_)
    obtain ⟨S,H,hI⟩:=hI
    have hk8:=hI
    have hcl:=Oc.crcBits_lt hcf k
    refine sr 1 S H t0 fun a w S H=>?_
    refine r_seq ?_
    refine r_test S rfl (fun h17=>?_) (fun h17=>?_)
    · skip
      refine wp_skip ?_
      refine x_then ?_
      refine r_seq ?_
      refine r_block ?_
      refine r_region ?_
      refine rn 1 S H t0 fun a w S H=>?_
      refine r_y S H (y_bitop S rfl rfl rfl (fun w=>half32 _ w)) rfl rfl rfl fun a S=>?_
      refine rn 1 S H t0 fun a w S H=>?_
      refine r_y S H (y_bitop S rfl rfl rfl (fun w=>odd32 _ hcl w)) rfl rfl rfl fun a S=>?_
      refine r_y S H (y_un S rfl rfl (fun w=>neg32 _ w)) rfl rfl rfl fun a S=>?_
      refine r_y S H (y_bitop S rfl rfl rfl (fun w=>poly32 (Oc.crcBits k (Oc.crcFrom (b.take i) ^^^ (b.getD i 0).toNat)) w)) rfl rfl rfl fun a S=>?_
      refine r_y S H (y_bitop S rfl rfl rfl (fun w=>xor32 _ _ (by omega) (by split<;>decide) w)) rfl rfl rfl fun a S=>?_
      refine rn 1 S H t0 fun a w S H=>?_
      refine r_nil ?_
      refine x_blockEnd ?_
      refine x_then ?_
      refine er 2 S H (by omega) fun a w S H=>?_
      refine x_then ?_
      exact ⟨(k+1),⟨S.sub ⟨rfl,rfl,rfl,rfl,rfl,rfl,rfl,rfl,rfl,rfl,rfl,rfl,rfl,rfl,rfl,trivial⟩,H,(by omega:k+1<=8)⟩,by show 8 - (k+1) < 8 - k;omega⟩
    refine wp_exit ?_
    refine x_thenExit ?_
    refine x_thenExit ?_
    refine x_blockHere ?_
    refine x_blockEnd ?_
    refine x_then ?_
    refine er 2 S H (by omega) fun a w S H=>?_
    refine x_then ?_
    have hk:k=8:=by omega
    subst hk
    exact ⟨(i+1),⟨S.sub ⟨rfl,((show lk _ _=some _ from rfl).trans (congrArg (fun x=>some (Value.int .u32 x)) (congrArg (fun x:Nat=>(x:Int)) (Oc.crcFrom_take (b:=b) (i:=i) (by omega)).symm))),rfl,rfl,rfl,rfl,trivial⟩,H,(by omega:i+1<=b.length)⟩,by show b.length - (i+1) < b.length - i;omega⟩
  refine wp_exit ?_
  refine x_thenExit ?_
  refine x_thenExit ?_
  refine x_blockHere ?_
  refine x_then ?_
  refine sb ?_
  refine rn 1 S H t0 fun a w S H=>?_
  refine r_y S H (y_un S rfl rfl (fun w=>not32 _ hc0 w)) rfl rfl rfl fun a S=>?_
  refine rs 1 S H t0 fun a w S H=>?_
  refine wp_ret ?_
  refine r_ret1 S H Tryz.results136 (ro_tmp S rfl) ?_
  have hib:i=b.length:=by omega
  rw [hib,List.take_length]
  exact ⟨rfl,H⟩

theorem put_ct (w:World) (fr:List Res) (A:Option Addr) (n0 c:Nat) (b:By) (ok:SlOk fr 1 A n0 c (u8s b)) (size:Int) (n:Nat) (hn:n < 18446744073709551616) (hb:b.length<=17592186044416) (H:Sat w (fr)):
    Rt Tryz.prog 97 #[.slice A n0 c,.int .i64 size,.int .u64 ((n:Nat):Int)] w fun v w'=>∃A' c',v=.slice A' (Oc.put b size n).length c'/\Sat w' (row 5 1 (.slice A' (Oc.put b size n).length c') (Oc.put b size n).length (u8s (Oc.put b size n))::fr):=by
  refine en3 Tryz.func97 rfl Tryz.ntmps97 rfl fun a S=>?_
  obtain rfl:=ok.n8
  obtain ⟨K,hK⟩:∃K,K=(min (max size 0) 8).toNat:=⟨_,rfl⟩
  refine sr 1 S H t0 fun a w S H=>?_
  refine sb ?_
  refine rn 1 S H t0 fun a w S H=>?_
  refine r_call (args:=#[.slice A b.length c]) S rfl rfl Tryz.call74 (clone8_ct (H:=H) _ _ _ _ _ b ok (by omega)) rfl rfl rfl fun v a w hR S=>?_
  obtain ⟨A5,c6,rfl,H⟩:=hR
  refine rs 1 S H t0 fun a w S H=>?_
  refine r_seq ?_
  refine sb ?_
  refine rn 2 S H t0 fun a w S H=>?_
  refine r_y S H (y_min S rfl rfl rfl) rfl rfl rfl fun a S=>?_
  have S:=S.retell (v':=.int .i64 ((K:Nat):Int)) 12 rfl (int_eq (by omega))
  refine rs 1 S H t0 fun a w S H=>?_
  refine r_block ?_
  refine r_loop (ι:=Nat×Option Addr×Nat) (fun ⟨i,A2,c2⟩ a w=>Slots a 24 [(2,.int .u64 (((n / 256 ^ i):Nat):Int)),(6,.slice none 0 0),(7,.slice A2 ((b++Oc.le i n).length) c2),(12,.int .i64 ((K:Nat):Int)),(13,.int .i64 ((i:Nat):Int)),(24,undef)]/\Sat w (row 5 1 (.slice A2 ((b++Oc.le i n).length) c2) ((b++Oc.le i n).length) (u8s (b++Oc.le i n))::fr)/\(i<=K)) (fun ⟨i,A2,c2⟩=>K - i) (0,A5,c6) ⟨S.sub ⟨(by simp;rfl),rfl,(by simp [Oc.le];rfl),rfl,rfl,rfl,trivial⟩,(by simpa [Oc.le] using H),Nat.zero_le _⟩ (fun ⟨i,A2,c2⟩ a w hI=>?_)
  obtain ⟨S,H,hI⟩:=hI
  have hik:=hI
  have hpn:n / 256 ^ i<=n:=Nat.div_le_self _ _
  have hll:=Oc.le_len i n
  refine sr 1 S H t0 fun a w S H=>?_
  refine r_seq ?_
  refine r_test S rfl (fun h14=>?_) (fun h14=>?_)
  · skip
    refine wp_skip ?_
    refine x_then ?_
    refine r_seq ?_
    refine r_block ?_
    refine sb ?_
    refine rn 2 S H t0 fun a w S H=>?_
    refine r_y S H (y_convW S rfl rfl Tryz.underlying89 Tryz.underlying5) rfl rfl rfl fun a S=>?_
    have S:=S.retell (v':=.int .u8 (((UInt8.ofNat (n / 256 ^ i%256)).toNat:Nat):Int)) 17 rfl (congrArg (Value.int .u8) (by rw [IntKind.wrap_u8'];simp))
    refine r_lit (vs:=#[(0,.int .u8 (((UInt8.ofNat (n / 256 ^ i%256)).toNat:Nat):Int))]) (cs:=u8s [UInt8.ofNat (n / 256 ^ i%256)]) S H rfl rfl el50 (by kernel_rfl) (by decide) (by rfl) rfl rfl rfl fun a w b7 S H=>?_
    refine r_appendS (L':=fun A8 c9=>row 5 1 (.slice (some ⟨b7,0,none⟩) 1 1) 1 (u8s [UInt8.ofNat (n / 256 ^ i%256)])::row 5 1 (.slice A8 ((b++Oc.le i n).length+1) c9) ((b++Oc.le i n).length+1) (u8s ((b++Oc.le i n)++([UInt8.ofNat (n / 256 ^ i%256)])))::fr) (xs':=u8s ((b++Oc.le i n)++([UInt8.ofNat (n / 256 ^ i%256)]))) 1 S H rfl rfl rfl rfl el50 (SlOk.ofRow (i:=0) H rfl) (one_u8s _) (by simp only [maxLen];first | omega | (simp<;>omega)) (by first | omega | (simp<;>omega)) (u8s_app (b++Oc.le i n) ([UInt8.ofNat (n / 256 ^ i%256)])) (by first | omega | (simp<;>omega)) (fun _ _=>rfl) rfl rfl rfl fun a w A8 c9 hA8 S H=>?_
    refine rs 1 S H t0 fun a w S H=>?_
    refine r_region ?_
    refine rn 1 S H t0 fun a w S H=>?_
    refine r_y S H (y_bitop S rfl rfl rfl (fun w=>byte64 _ w)) rfl rfl rfl fun a S=>?_
    refine rn 1 S H t0 fun a w S H=>?_
    refine r_nil ?_
    refine x_blockEnd ?_
    refine x_then ?_
    refine er 2 S H (by omega) fun a w S H=>?_
    refine x_then ?_
    have ez:b++Oc.le i n++[UInt8.ofNat (n / 256 ^ i%256)]=b++Oc.le (i+1) n:=by rw [Oc.le_snoc,List.append_assoc]
    have en:(b++Oc.le i n).length+1=(b++Oc.le (i+1) n).length:=by rw [<-ez];simp;try omega
    have H:=pk [1] 2 H
    rw [ez] at H
    rw [en] at H S
    exact ⟨(i+1,A8,c9),⟨S.sub ⟨((show lk _ _=some _ from rfl).trans (congrArg (fun x=>some (Value.int .u64 x)) (congrArg (fun x:Nat=>(x:Int)) (by rw [Nat.div_div_eq_div_mul,Nat.pow_succ])))),rfl,rfl,rfl,rfl,rfl,trivial⟩,H,(by omega:i+1<=K)⟩,by show K - (i+1) < K - i;omega⟩
  refine wp_exit ?_
  refine x_thenExit ?_
  refine x_thenExit ?_
  refine x_blockHere ?_
  refine x_then ?_
  refine sr 2 S H t0 fun a w S H=>?_
  refine wp_ret ?_
  refine r_ret1 S H Tryz.results97 (ro_tmp S rfl) ?_
  have hi:i=K:=by omega
  have e:Oc.put b size n=b++Oc.le i n:=by rw [hi,hK];rfl
  rw [e]
  exact ⟨_,_,rfl,H⟩

end Go.Proofs.YtoffbmhmocfmnaaGreatDoor
namespace Go.Proofs.YtoffbmhmocfmnaaGreatDoor
open Go.RowKit Go.Cg
set_option linter.unusedVariables false
set_option linter.unusedSimpArgs false
set_option maxRecDepth 8000
set_option synthInstance.maxHeartbeats 1000000
set_option synthInstance.maxSize 1000000
theorem el229:Elem Tryz.prog 229 50 1 24 (.slice none 0 0):=⟨Tryz.underlying229,by kernel_rfl,rfl,by decide⟩
open Go.Cg.Dk (Fl Fs Nm By)
theorem grow_ct (w:World) (fr:List Res) (n:Nat) (hn:n<=17592186044416) (H:Sat w (fr)):
    Rt Tryz.prog 156 #[.slice none 0 0,.int .i64 ((n:Nat):Int)] w fun v w'=>∃A c,v=.slice A 0 c/\Sat w' (row 5 1 (.slice A 0 c) 0 (u8s [])::fr):=by
  refine en2 Tryz.func156 rfl Tryz.ntmps156 rfl fun a S=>?_
  refine sr 1 S H t0 fun a w S H=>?_
  refine r_seq ?_
  refine sr 2 S H t0 fun a w S H=>?_
  refine r_test S rfl (fun h6=>?_) (fun h6=>?_)
  · skip
    exfalso;omega
  refine wp_skip ?_
  refine x_then ?_
  refine r_seq ?_
  refine sr 8 S H (by omega) fun a w S H=>?_
  refine sr 2 S H t0 fun a w S H=>?_
  refine r_test S rfl (fun h16=>?_) (fun h16=>?_)
  · skip
    have H:=H.nilRow 5 1
    refine r_region ?_
    refine rn 3 S H t0 fun a w S H=>?_
    refine r_y S H (y_sliceH (k:=0) S rfl rfl rfl Tryz.underlying50 Tryz.sizeOf5 rfl (by omega)) rfl rfl rfl fun a S=>?_
    have S:=S.retell (v':=.slice none 0 0) 20 rfl (by rw [shift0])
    refine rn 1 S H t0 fun a w S H=>?_
    refine r_extend (m:=n) (xs':=u8s (([])++List.replicate n 0)) (km:=(([])++List.replicate n 0).length) (L':=fun A1 c2=>row 5 1 (.slice A1 ((([])++List.replicate n 0).length) c2) ((([])++List.replicate n 0).length) (u8s (([])++List.replicate n 0))::fr) 0 S H rfl rfl rfl rfl el50 Tryz.underlying3 rfl rfl (by first | omega | (simp<;>omega)) (by simp only [maxLen];first | omega | (simp<;>omega)) (by first | omega | (simp<;>omega)) (by simp) (by simp [u8s]) (fun _ _=>rfl) rfl rfl rfl fun a w A1 c2 S H=>?_
    refine rn 2 S H t0 fun a w S H=>?_
    refine r_y S H (y_sliceH (k:=0) S rfl rfl rfl Tryz.underlying50 Tryz.sizeOf5 rfl (by omega)) rfl rfl rfl fun a S=>?_
    have S:=S.retell (v':=.slice A1 0 c2) 25 rfl (by rw [shift0])
    refine rn 1 S H t0 fun a w S H=>?_
    refine r_nil ?_
    refine x_then ?_
    refine sr 2 S H t0 fun a w S H=>?_
    refine wp_ret ?_
    refine r_ret1 S H Tryz.results156 (ro_tmp S rfl) ?_
    exact ⟨_,_,rfl,Sat.cut (H)⟩
  refine wp_skip ?_
  refine x_then ?_
  refine sr 2 S H t0 fun a w S H=>?_
  refine wp_ret ?_
  refine r_ret1 S H Tryz.results156 (ro_tmp S rfl) ?_
  have hn0:n=0:=by omega
  exact ⟨none,0,rfl,H.nilRow _ _⟩

theorem concat_ct (w:World) (fr:List Res) (A:Option Addr) (c:Nat) (l:List Sl) (ds:List By) (ok:SlOk fr 1 A l.length c (sls l)) (hds:SlsOk fr l ds) (hfn:ds.flatten.length<=17592186044416) (hln:l.length<=17592186044416) (H:Sat w (fr)):
    Rt Tryz.prog 148 #[.slice A l.length c] w fun v w'=>∃A' c',v=.slice A' ds.flatten.length c'/\Sat w' (row 5 1 (.slice A' ds.flatten.length c') ds.flatten.length (u8s ds.flatten)::fr):=by
  refine en1 Tryz.func148 rfl Tryz.ntmps148 rfl fun a S=>?_
  refine sr 1 S H t0 fun a w S H=>?_
  refine sr 1 S H t0 fun a w S H=>?_
  refine r_seq ?_
  refine sr 3 S H t0 fun a w S H=>?_
  refine r_block ?_
  refine r_loop (ι:=Nat) (fun i a w=>Slots a 36 [(0,.slice A l.length c),(2,.slice none 0 0),(3,.int .i64 (((ds.take i).flatten.length:Nat):Int)),(9,.slice A l.length c),(10,.int .i64 ((l.length:Nat):Int)),(11,.int .i64 ((i:Nat):Int)),(36,undef)]/\Sat w (fr)/\(i<=l.length)) (fun i=>l.length - i) 0 ⟨S.sub ⟨rfl,rfl,(by simp;rfl),rfl,rfl,rfl,rfl,trivial⟩,H,Nat.zero_le _⟩ (fun i a w hI=>?_)
  obtain ⟨S,H,hI⟩:=hI
  have hil:=hI
  have hfl:=flat_le ds i
  refine sr 1 S H t0 fun a w S H=>?_
  refine r_seq ?_
  refine r_test S rfl (fun h12=>?_) (fun h12=>?_)
  · skip
    refine wp_skip ?_
    refine x_then ?_
    refine r_seq ?_
    refine r_block ?_
    refine sb ?_
    obtain ⟨b1,o2,rfl⟩:=ok.addr H (by first | omega | (simp<;>omega))
    refine r_y S H (y_index S rfl rfl rfl Tryz.underlying229 Tryz.sizeOf50 (by omega) (by omega)) rfl rfl rfl fun a S=>?_
    refine r_y S H (y_loadAt S rfl rfl Tryz.isAgg50 (fun w H=>ok.cell w H (sls_at (i:=i) (by first | omega | (simp<;>omega))))) rfl rfl rfl fun a S=>?_
    obtain ⟨A3,c4,heA3,okA3⟩:=hds.at (i:=i) (by omega)
    have S:=S.retell (v':=.slice A3 ((ds.getD i []).length) c4) 14 rfl (by rw [heA3])
    refine rs 1 S H t0 fun a w S H=>?_
    have hi:i < ds.length:=by have:=hds.len;omega
    have ef:(ds.take (i+1)).flatten.length=(ds.take i).flatten.length+(ds.getD i []).length:=by rw [flat_take hi,List.length_append]
    have hfl3:=flat_le ds (i+1)
    refine sr 5 S H (by omega) fun a w S H=>?_
    refine sr 2 S H t0 fun a w S H=>?_
    refine r_test S rfl (fun h20=>?_) (fun h20=>?_)
    · skip
      exfalso;omega
    refine wp_skip ?_
    refine x_blockEnd ?_
    refine x_then ?_
    refine er 2 S H (by omega) fun a w S H=>?_
    refine x_then ?_
    have hi:i < ds.length:=by have:=hds.len;omega
    have ef:(ds.take (i+1)).flatten.length=(ds.take i).flatten.length+(ds.getD i []).length:=by rw [flat_take hi,List.length_append]
    exact ⟨(i+1),⟨S.sub ⟨rfl,rfl,((show lk _ _=some _ from rfl).trans (congrArg (fun x=>some (Value.int .i64 x)) (by omega))),rfl,rfl,rfl,rfl,trivial⟩,H,(by omega:i+1<=l.length)⟩,by show l.length - (i+1) < l.length - i;omega⟩
  refine wp_exit ?_
  refine x_thenExit ?_
  refine x_thenExit ?_
  refine x_blockHere ?_
  refine x_then ?_
  refine sb ?_
  refine rn 1 S H t0 fun a w S H=>?_
  refine r_call (args:=#[.slice none 0 0,.int .i64 (((ds.take i).flatten.length:Nat):Int)]) S rfl rfl Tryz.call156 (grow_ct (H:=H) _ _ ((ds.take i).flatten.length) (by omega)) rfl rfl rfl fun v a w hR S=>?_
  obtain ⟨A9,c10,rfl,H⟩:=hR
  refine rs 1 S H t0 fun a w S H=>?_
  refine r_seq ?_
  refine sr 3 S H t0 fun a w S H=>?_
  refine r_block ?_
  refine r_loop (ι:=Nat×Option Addr×Nat) (fun ⟨i,A2,c2⟩ a w=>Slots a 36 [(2,.slice none 0 0),(6,.slice A2 ((ds.take i).flatten.length) c2),(25,.slice A l.length c),(26,.int .i64 ((l.length:Nat):Int)),(27,.int .i64 ((i:Nat):Int)),(36,undef)]/\Sat w (row 5 1 (.slice A2 ((ds.take i).flatten.length) c2) ((ds.take i).flatten.length) (u8s ((ds.take i).flatten))::fr)/\(i<=l.length)) (fun ⟨i,A2,c2⟩=>l.length - i) (0,A9,c10) ⟨S.sub ⟨rfl,(by simp;rfl),rfl,rfl,rfl,rfl,trivial⟩,(by simpa using H),Nat.zero_le _⟩ (fun ⟨i,A2,c2⟩ a w hI=>?_)
  obtain ⟨S,H,hI⟩:=hI
  have hil:=hI
  have hfl:=flat_le ds i
  have hfl2:=flat_le ds (i+1)
  refine sr 1 S H t0 fun a w S H=>?_
  refine r_seq ?_
  refine r_test S rfl (fun h28=>?_) (fun h28=>?_)
  · skip
    refine wp_skip ?_
    refine x_then ?_
    refine r_seq ?_
    refine r_block ?_
    refine sb ?_
    obtain ⟨b11,o12,rfl⟩:=(ok.more _).addr H (by first | omega | (simp<;>omega))
    refine r_y S H (y_index S rfl rfl rfl Tryz.underlying229 Tryz.sizeOf50 (by omega) (by omega)) rfl rfl rfl fun a S=>?_
    refine r_y S H (y_loadAt S rfl rfl Tryz.isAgg50 (fun w H=>(ok.more _).cell w H (sls_at (i:=i) (by first | omega | (simp<;>omega))))) rfl rfl rfl fun a S=>?_
    obtain ⟨A13,c14,heA13,okA13⟩:=hds.at (i:=i) (by omega)
    have S:=S.retell (v':=.slice A13 ((ds.getD i []).length) c14) 30 rfl (by rw [heA13])
    refine rs 1 S H t0 fun a w S H=>?_
    have hi:i < ds.length:=by have:=hds.len;omega
    have ef:(ds.take (i+1)).flatten.length=(ds.take i).flatten.length+(ds.getD i []).length:=by rw [flat_take hi,List.length_append]
    have hfl3:=flat_le ds (i+1)
    refine r_region ?_
    refine rn 2 S H t0 fun a w S H=>?_
    refine r_appendS (L':=fun A15 c16=>row 5 1 (.slice A15 ((ds.take i).flatten.length+(ds.getD i []).length) c16) ((ds.take i).flatten.length+(ds.getD i []).length) (u8s (((ds.take i).flatten)++(ds.getD i [])))::fr) (xs':=u8s (((ds.take i).flatten)++(ds.getD i []))) 0 S H rfl rfl rfl rfl el50 (okA13.more _) (one_u8s _) (by simp only [maxLen];first | omega | (simp<;>omega)) (by first | omega | (simp<;>omega)) (u8s_app ((ds.take i).flatten) (ds.getD i [])) (by first | omega | (simp<;>omega)) (fun _ _=>rfl) rfl rfl rfl fun a w A15 c16 hA15 S H=>?_
    refine rn 1 S H t0 fun a w S H=>?_
    refine r_nil ?_
    refine x_blockEnd ?_
    refine x_then ?_
    refine er 2 S H (by omega) fun a w S H=>?_
    refine x_then ?_
    have hi:i < ds.length:=by have:=hds.len;omega
    have ez:=(flat_take hi).symm
    have en:(ds.take i).flatten.length+(ds.getD i []).length=(ds.take (i+1)).flatten.length:=by rw [<-ez];simp
    have H:=H
    rw [ez] at H
    rw [en] at H S
    exact ⟨(i+1,A15,c16),⟨S.sub ⟨rfl,rfl,rfl,rfl,rfl,rfl,trivial⟩,H,(by omega:i+1<=l.length)⟩,by show l.length - (i+1) < l.length - i;omega⟩
  refine wp_exit ?_
  refine x_thenExit ?_
  refine x_thenExit ?_
  refine x_blockHere ?_
  refine x_then ?_
  refine sr 2 S H t0 fun a w S H=>?_
  refine wp_ret ?_
  refine r_ret1 S H Tryz.results148 (ro_tmp S rfl) ?_
  have hil2:i=ds.length:=by have:=hds.len;omega
  have e:ds.flatten=(ds.take i).flatten:=by rw [hil2,List.take_length]
  rw [e]
  exact ⟨_,_,rfl,H⟩

theorem encode_ct (w:World) (fr:List Res) (A:Option Addr) (c:Nat) (b:By) (ok:SlOk fr 1 A b.length c (u8s b)) (hb:b.length<=17592186044416) (H:Sat w (fr)):
    Rt Tryz.prog 127 #[.slice A b.length c] w fun v w'=>∃A' c',v=.tuple #[.slice A' (Oc.enc b).1.length c',.int .i64 (((Oc.enc b).2:Nat):Int)]/\Sat w' (row 5 1 (.slice A' (Oc.enc b).1.length c') (Oc.enc b).1.length (u8s (Oc.enc b).1)::fr):=by
  refine en1 Tryz.func127 rfl Tryz.ntmps127 rfl fun a S=>?_
  refine sr 2 S H t0 fun a w S H=>?_
  refine r_seq ?_
  refine sr 3 S H t0 fun a w S H=>?_
  refine r_test S rfl (fun h7=>?_) (fun h7=>?_)
  · skip
    refine sr 2 S H t0 fun a w S H=>?_
    refine wp_ret ?_
    refine x_thenRet ?_
    refine r_ret2 S H Tryz.results127 (ro_tmp S rfl) (ro_tmp S rfl) ?_
    have e:Oc.enc b=([],1):=by unfold Oc.enc;rw [if_pos (by omega)]
    rw [e]
    exact ⟨none,0,rfl,H.nilRow _ _⟩
  refine wp_skip ?_
  refine x_then ?_
  refine sb ?_
  refine rn 3 S H (by omega) fun a w S H=>?_
  refine r_call (args:=#[.slice none 0 0,.int .i64 2,.int .u64 ((b.length:Nat):Int)]) S rfl rfl Tryz.call97 (put_ct (H:=H) _ _ _ _ _ ([]) (SlOk.nil8 _) 2 b.length (by omega) (by simp)) rfl rfl rfl fun v a w hR S=>?_
  obtain ⟨A5,c6,rfl,H⟩:=hR
  refine rn 1 S H t0 fun a w S H=>?_
  refine r_lit (vs:=#[(0,.slice A5 ((Oc.put ([]) 2 b.length).length) c6),(1,.slice A b.length c)]) (cs:=sls [(A5,(Oc.put ([]) 2 b.length).length,c6),(A,b.length,c)]) S H rfl rfl el229 (by kernel_rfl) (by decide) (by rfl) rfl rfl rfl fun a w b7 S H=>?_
  refine r_call (args:=#[.slice (some ⟨b7,0,none⟩) 2 2]) S rfl rfl Tryz.call148 (concat_ct (H:=H) _ _ _ _ ([(A5,(Oc.put ([]) 2 b.length).length,c6),(A,b.length,c)]) [Oc.put [] 2 b.length,b] (SlOk.ofRow (i:=0) H rfl) (.cons (SlOk.ofRow (i:=1) H rfl) (.cons (ok.via fun _ H=>H.drop.drop) (.nil _))) (by simp [Oc.put,Oc.le_len];omega) (by simp)) rfl rfl rfl fun v a w hR S=>?_
  obtain ⟨A8,c9,rfl,H⟩:=hR
  refine rs 1 S H t0 fun a w S H=>?_
  have e2:([Oc.put [] 2 b.length,b]).flatten=(Oc.le 2 b.length++b):=by simp [Oc.put];rfl
  rw [e2] at H S
  have hle2:=Oc.le_len 2 b.length
  have hcr:=Oc.crc_lt (Oc.le 2 b.length++b)
  have hl2:(Oc.le 2 b.length++b).length=2+b.length:=by simp [hle2]
  refine sb ?_
  refine rn 2 S H t0 fun a w S H=>?_
  refine r_call (args:=#[.slice A8 ((Oc.le 2 b.length++b).length) c9]) S rfl rfl Tryz.call136 (crc_ct (H:=H) _ _ _ _ _ _ (SlOk.ofRow (i:=0) H rfl)) rfl rfl rfl fun v a w hR S=>?_
  obtain ⟨rfl,H⟩:=hR
  refine rn 1 S H (by omega) fun a w S H=>?_
  refine r_call (args:=#[.slice A8 ((Oc.le 2 b.length++b).length) c9,.int .i64 4,.int .u64 ((Oc.crc (Oc.le 2 b.length++b):Nat):Int)]) S rfl rfl Tryz.call97 (put_ct (H:=H) _ _ _ _ _ (Oc.le 2 b.length++b) (SlOk.ofRow (i:=0) H rfl) 4 (Oc.crc (Oc.le 2 b.length++b)) (by omega) (by omega)) rfl rfl rfl fun v a w hR S=>?_
  obtain ⟨A14,c15,rfl,H⟩:=hR
  refine rs 2 S H t0 fun a w S H=>?_
  refine wp_ret ?_
  refine r_ret2 S H Tryz.results127 (ro_tmp S rfl) (ro_tmp S rfl) ?_
  have e:Oc.enc b=(Oc.put (Oc.le 2 b.length++b) 4 (Oc.crc (Oc.le 2 b.length++b)),0):=by rw [Oc.enc_ok (by omega)];rfl
  have H:=pk [0] 4 H
  rw [e]
  exact ⟨_,_,rfl,H⟩

end Go.Proofs.YtoffbmhmocfmnaaGreatDoor
