/- Walks of functions of the program, over slots and resources. No condition. -/
import Derived.Test.YtoffbmhmocfmnaaGreatDoorKVax
namespace Go.Proofs.YtoffbmhmocfmnaaGreatDoor
open Go.RowKit Go.Cg
set_option linter.unusedVariables false
set_option linter.unusedSimpArgs false
set_option maxRecDepth 8000
set_option synthInstance.maxHeartbeats 1000000
set_option synthInstance.maxSize 1000000
open Go.Cg.Dk (By Nm)
open Go.Cg.Rn (R Bd)
open Go.Cg.Tr (E)
open Go.Cg.Sh (Cur Sw)
theorem law_space (w:World) (fr:List Res) (hl:Laid fr) (n:Int) (A:Option Addr) (c:Nat) (es:List E) (ok:SlOk fr 3 A es.length c (ecells es)) (hes:Sh.E32 es) (a1 a2 a3:Int) (H:Sat w (fr)):
    Rt Tryz.prog 7 #[.agg #[.int .i64 n,.slice A es.length c],.int .i64 a1,.int .i64 a2,.int .i64 a3] w fun v w'=>v=.bool true/\Sat w' fr:=by
  refine en4 Tryz.func7 rfl Tryz.ntmps7 rfl fun a S=>?_
  have hcap:=ok.le
  have hmax:c<=9223372036854775807:=ok.cap
  refine sb ?_
  refine r_box (c:=#[.int .i64 n,.slice A es.length c]) S H rfl rfl rfl rfl rfl rfl fun a w b1 S H=>?_
  refine rs 1 S H t0 fun a w S H=>?_
  refine sb ?_
  refine r_call (args:=#[]) S rfl rfl Tryz.call10 (shown_ct (H:=H) _ _ (hl.via fun _ H=>H.drop)) rfl rfl rfl fun v a w hR S=>?_
  obtain ⟨rfl,H⟩:=hR
  refine rs 1 S H t0 fun a w S H=>?_
  refine sb ?_
  refine rn 1 S H t0 fun a w S H=>?_
  refine r_call (args:=#[.agg #[.int .i64 n,.slice A es.length c]]) S rfl rfl Tryz.call11 (few_ct (H:=H) _ _ n A c es (ok.more _) (hes)) rfl rfl rfl fun v a w hR S=>?_
  obtain ⟨A6,c7,rfl,H⟩:=hR
  obtain ⟨f0,f60,fl,fg,fsub⟩:=Tr.few_facts (n:=n) (es:=es)
  have fe:Sh.E32 (Tr.few n es).2:=fun e he=>hes e (fsub e he)
  obtain ⟨gn,hgn⟩:∃y,y=(Tr.few n es).1:=⟨_,rfl⟩
  obtain ⟨gl,hgl⟩:∃y,y=(Tr.few n es).2:=⟨_,rfl⟩
  rw [<-hgl] at S H fl fg fe
  rw [<-hgn] at S f0 f60 fg
  have HI_okg:=Sat.only (pk [0] 2 H)
  have okg:=SlOk.ofRow (i:=0) HI_okg rfl
  refine rs 1 S H t0 fun a w S H=>?_
  refine sb ?_
  refine rn 1 S H t0 fun a w S H=>?_
  refine r_y S H (y_bitop S rfl rfl rfl (fun w=>maskL 16 65536 65535 (by decide) (by decide) (by decide) a1 w)) rfl rfl rfl fun a S=>?_
  refine r_y S H (y_remN S rfl rfl rfl (by omega) (by omega)) rfl rfl rfl fun a S=>?_
  refine r_y S H (y_add S rfl rfl rfl (wi64 (by omega) (by omega))) rfl rfl rfl fun a S=>?_
  obtain ⟨sh,hsh⟩:∃y:Int,y=1+a1%65536%12:=⟨_,rfl⟩
  have S:=S.retell (v':=.int .i64 sh) 20 rfl (by rw [hsh])
  refine rs 1 S H t0 fun a w S H=>?_
  refine sb ?_
  refine rn 1 S H t0 fun a w S H=>?_
  refine r_y S H (y_bitop S rfl rfl rfl (fun w=>maskL 16 65536 65535 (by decide) (by decide) (by decide) a2 w)) rfl rfl rfl fun a S=>?_
  refine r_y S H (y_remN S rfl rfl rfl (by omega) (by omega)) rfl rfl rfl fun a S=>?_
  refine r_y S H (y_add S rfl rfl rfl (wi64 (by omega) (by omega))) rfl rfl rfl fun a S=>?_
  obtain ⟨bq,hbq⟩:∃y:Int,y=1+a2%65536%20:=⟨_,rfl⟩
  have S:=S.retell (v':=.int .i64 bq) 24 rfl (by rw [hbq])
  refine rs 1 S H t0 fun a w S H=>?_
  refine sb ?_
  refine rn 1 S H t0 fun a w S H=>?_
  refine r_y S H (y_bitop S rfl rfl rfl (fun w=>maskL 16 65536 65535 (by decide) (by decide) (by decide) a3 w)) rfl rfl rfl fun a S=>?_
  refine r_y S H (y_remN S rfl rfl rfl (by omega) (by omega)) rfl rfl rfl fun a S=>?_
  obtain ⟨ro,hro⟩:∃x:Nat,((x:Nat):Int)=a3%65536%201:=⟨(a3%65536%201).toNat,by omega⟩
  have S:=S.retell (v':=.int .i64 ((ro:Nat):Int)) 27 rfl (by rw [hro])
  have hrob:ro<=200:=by omega
  refine rs 1 S H t0 fun a w S H=>?_
  refine sb ?_
  refine rn 1 S H t0 fun a w S H=>?_
  refine r_call (args:=#[.int .i64 ((ro:Nat):Int)]) S rfl rfl Tryz.call12 (new_ct (H:=H) _ _ ((ro:Nat):Int) (by omega)) rfl rfl rfl fun v a w hR S=>?_
  obtain ⟨db10,rfl,H⟩:=hR
  have hp:Oc.part gn sh=true:=Sh.part_few f0 f60 (by omega) (by omega)
  obtain ⟨d1,e,e1,k1,hrest⟩:=Sh.space12_plan fe hp fg fl (by omega) (b:=bq) (by omega) hrob
  refine rs 1 S H t0 fun a w S H=>?_
  refine r_seq ?_
  refine sr 2 S H t0 fun a w S H=>?_
  refine r_condF S rfl ?_
  refine wp_skip ?_
  refine x_then ?_
  refine sb ?_
  refine rn 4 S H t0 fun a w S H=>?_
  refine r_call (args:=#[.pointer (some ⟨db10,0,none⟩),.agg #[.int .i64 (gn),.slice A6 (gl.length) c7],.int .i64 sh,.int .i64 bq]) S rfl rfl Tryz.call13 (build_ct (H:=H) _ _ (hl.via fun _ H=>H.drop.drop) db10 gn A6 c7 gl (okg.via fun _ H=>Sat.only (pk [0] 2 H)) fe sh bq (Dk.fresh ((ro:Nat):Int)) (by show 0<=_;omega) (by omega)) rfl rfl rfl fun v a w hR S=>?_
  obtain ⟨rfl,H,hcB⟩:=hR
  have hok1:=H.diskOk
  rw [e1] at hok1
  obtain ⟨d2,ns,e2,hO⟩:=hrest hok1
  rw [e1] at S H
  dsimp only at S H
  refine rs 1 S H t0 fun a w S H=>?_
  refine sb ?_
  refine rn 1 S H t0 fun a w S H=>?_
  refine r_call (args:=#[.pointer (some ⟨db10,0,none⟩)]) S rfl rfl Tryz.call23 (list_ct (H:=H) _ _ db10 d1 (by omega)) rfl rfl rfl fun v a w hR S=>?_
  obtain ⟨A11,c12,rfl,H⟩:=hR
  rw [e2] at S H
  dsimp only at S H
  refine rs 5 S H t0 fun a w S H=>?_
  refine r_seq ?_
  rcases hO with ⟨he,hns,hro⟩ | ⟨he,hns,hus⟩
  · skip
    have S:=S.retell (v':=.int .i64 6) 11 rfl (by rw [he];rfl)
    refine sr 2 S H t0 fun a w S H=>?_
    have S:=S.retell (v':=.bool false) 43 rfl rfl
    refine r_condF S rfl ?_
    refine wp_skip ?_
    refine x_then ?_
    refine sb ?_
    refine rn 4 S H t0 fun a w S H=>?_
    have S:=S.retell (v':=.bool true) 64 rfl rfl
    refine rn 4 S H t0 fun a w S H=>?_
    have S:=S.retell (v':=.bool true) 68 rfl rfl
    refine rn 5 S H t0 fun a w S H=>?_
    have S:=S.retell (v':=.bool true) 73 rfl (by rw [decide_eq_true (by omega)])
    refine rn 8 S H (by omega) fun a w S H=>?_
    have S:=S.retell (v':=.bool true) 81 rfl (by rw [decide_eq_true (by omega)])
    refine rs 2 S H t0 fun a w S H=>?_
    refine wp_ret ?_
    refine r_ret1 S H Tryz.results7 (ro_tmp S rfl) ?_
    exact ⟨rfl,H.drop.drop.drop.drop⟩
  have S:=S.retell (v':=.int .i64 0) 11 rfl (by rw [he];rfl)
  refine sr 2 S H t0 fun a w S H=>?_
  have S:=S.retell (v':=.bool true) 43 rfl rfl
  refine r_condT S rfl ?_
  refine sb ?_
  refine rn 4 S H t0 fun a w S H=>?_
  have S:=S.retell (v':=.bool true) 47 rfl rfl
  refine rn 6 S H t0 fun a w S H=>?_
  have S:=S.retell (v':=.bool true) 53 rfl (by rw [decide_eq_true (by omega)])
  refine rn 3 S H t0 fun a w S H=>?_
  refine r_call (args:=#[.pointer (some ⟨db10,0,none⟩)]) S rfl rfl Tryz.call21 (dused_ct (H:=H) _ _ db10 d2) rfl rfl rfl fun v a w hR S=>?_
  obtain ⟨rfl,H⟩:=hR
  refine rn 2 S H t0 fun a w S H=>?_
  have S:=S.retell (v':=.bool true) 59 rfl (by rw [decide_eq_true (by omega)])
  refine rs 2 S H t0 fun a w S H=>?_
  refine wp_ret ?_
  refine x_thenRet ?_
  refine r_ret1 S H Tryz.results7 (ro_tmp S rfl) ?_
  exact ⟨rfl,H.drop.drop.drop.drop⟩

end Go.Proofs.YtoffbmhmocfmnaaGreatDoor
