/- Laws of the model, walks of functions of the program, and what they rest on. No condition. -/
import Derived.Test.YtoffbmhmocfmnaaGreatDoorKVad
import Derived.OrdersHeld
namespace Go.Cg
set_option linter.unusedVariables false
set_option linter.unusedSimpArgs false
open Go.RowKit
section
variable {P:Program} {ops:Array Oper} {Q:Exit->Act->World->Prop} {a:Act} {w:World} {o:Oper} {L LS:List Res} {n:Nat} {E:List (Nat×Value)}

theorem wpOp_of_list {i:Nat} {K:Act->World->Prop} (hi:ops[i]? =some o) (h:wpList P ops (Exit.then K Q) [o] a w):wpOp P ops Q i K a w:=by
  unfold wpOp
  simp only [hi]
  unfold wpList at h
  split
  · rename_i hw
    rw [if_pos hw] at h
    rcases h with h | ⟨h1,h2⟩
    · left
      have h':=Oper.wp_mono (K':=K) (fun a w h=>h) h
      unfold Oper.wp at h' ⊢
      revert h'
      generalize (execOp a.eval o).run P w=r
      intro h'
      cases r with
      | ok m w'=>cases m<;>simp only [Oper.upon] at h' ⊢<;>exact h'
      | halt x w'=>cases x<;>simp only [Oper.upon] at h' ⊢<;>exact h'
    · exact .inr ⟨h1,h2⟩
  · rename_i hw
    rw [if_neg hw] at h
    exact h

theorem h_start (LS:List Res) {id:Nat} {l:List Oper} {ls:List Bool} (H:Sat w L) (hm:P.follows .mixedOrders=true) (hl:(Array.replicate l.length false)=ls.toArray)
    (h:∀ w,Sat w L->wpAnyH P .any l.toArray Q (fun w=>Sat w LS) l.length ls.toArray a w):(Code.region id l.toArray true).wp P Q a w:=by
  refine wp_region_held (S:=fun w=>Sat w LS) hm ?_
  have e:l.toArray.size=l.length:=by simp
  rw [e,hl]
  exact h _ (H.grow ⟨rfl,rfl,rfl,Nat.le_refl _⟩ fun _ _=>rfl)

theorem h_y (i:Nat) {d fuel:Nat} {v:Value} {ls ls':List Bool} (S:Slots a n E) (HS:Sat w LS) (hi:ops[i]? =some o) (hy:Yl P LS o a v) (hd:o.dst=some d) (hn:Nat.blt d n=true) (hw:Wt ops E o=some true)
    (hs:Region.noSelect ops=true) (hf:Region.free .any ops ls.toArray i=true) (hr:(Region.ready .any ops ls.toArray).contains i=true) (hls:ls.set i true=ls')
    (hQ:∀ c a w,Q (.panic c) (a.put (some d) v) w->Q (.panic c) a w) (K:∀ a',Slots a' n ((d,v)::E)->wpAnyH P .any ops Q (fun w=>Sat w LS) fuel ls'.toArray a' w):wpAnyH P .any ops Q (fun w=>Sat w LS) (fuel+1) ls.toArray a w:=by
  subst hls
  refine wpAnyH_take (i:=i) (oi:=o) (v:=v) hi hs hf hr (by rw [hd];exact hQ) (.inl ⟨S.wanted hw,fun w H=>hy w H⟩) HS ?_
  rw [hd]
  have e:ls.toArray.setIfInBounds i true=(ls.set i true).toArray:=by simp
  rw [e]
  exact K _ (S.put hn v)
theorem h_skip (i:Nat) {d fuel:Nat} {ls ls':List Bool} (S:Slots a n E) (HS:Sat w LS) (hi:ops[i]? =some o) (hd:o.dst=some d) (hn:Nat.blt d n=true) (hw:Wt ops E o=some false)
    (hs:Region.noSelect ops=true) (hf:Region.free .any ops ls.toArray i=true) (hr:(Region.ready .any ops ls.toArray).contains i=true) (hls:ls.set i true=ls')
    (hQ:∀ c a w,Q (.panic c) (a.put (some d) undef) w->Q (.panic c) a w) (K:∀ a',Slots a' n ((d,undef)::E)->wpAnyH P .any ops Q (fun w=>Sat w LS) fuel ls'.toArray a' w):wpAnyH P .any ops Q (fun w=>Sat w LS) (fuel+1) ls.toArray a w:=by
  subst hls
  refine wpAnyH_take (i:=i) (oi:=o) (v:=undef) hi hs hf hr (by rw [hd];exact hQ) (.inr ⟨S.wanted hw,rfl⟩) HS ?_
  rw [hd]
  have e:ls.toArray.setIfInBounds i true=(ls.set i true).toArray:=by simp
  rw [e]
  exact K _ (S.put hn undef)

def AllOf (p:Nat->Prop):List Nat->Prop
  | []=>True
  | i::r=>p i/\AllOf p r
theorem AllOf.get {p:Nat->Prop}:∀ {l:List Nat},AllOf p l->∀ i∈l,p i
  | x::r,⟨h1,h2⟩,i,hi=>by
    rcases List.mem_cons.1 hi with rfl | hi
    · exact h1
    · exact h2.get i hi

theorem h_all {r:Nat} {rs:List Nat} {fuel:Nat} {ls:List Bool} (hr:Region.ready .any ops ls.toArray=r::rs)
    (h:AllOf (fun i=>wpOp P ops Q i (fun a' w'=>Sat w' LS/\wpAnyH P .any ops Q (fun w=>Sat w LS) fuel (ls.set i true).toArray a' w') a w) (r::rs)):wpAnyH P .any ops Q (fun w=>Sat w LS) (fuel+1) ls.toArray a w:=by
  refine wpAnyH_all hr (by simp) fun i hi=>?_
  have e:ls.toArray.setIfInBounds i true=(ls.set i true).toArray:=by simp
  rw [e]
  exact h.get i hi
theorem h_op {i:Nat} {fuel:Nat} {ls ls':List Bool} (hls:ls.set i true=ls') (hi:ops[i]? =some o) (h:wpList P ops (Exit.then (fun a' w'=>Sat w' LS/\wpAnyH P .any ops Q (fun w=>Sat w LS) fuel ls'.toArray a' w') Q) [o] a w):
    wpOp P ops Q i (fun a' w'=>Sat w' LS/\wpAnyH P .any ops Q (fun w=>Sat w LS) fuel (ls.set i true).toArray a' w') a w:=by
  rw [hls];exact wpOp_of_list hi h
theorem h_done {fuel:Nat} {ls:List Bool} (hr:Region.ready .any ops ls.toArray=[]) (h:Q .normal a w):wpAnyH P .any ops Q (fun w=>Sat w LS) fuel ls.toArray a w:=wpAnyH_done hr h fuel
end
end Go.Cg
