/- Laws of the model, walks of functions of the program, and what they rest on. No condition. -/
namespace Go.Cg.Tr
set_option linter.unusedVariables false
set_option linter.unusedSimpArgs false

structure E where
  f:Nat
  t:Nat
  w:Nat

/-- the greatest number of 64 bits -/
def top:Nat:=18446744073709551615
def sat (a b:Nat):Nat:=if a+b<=top then a+b else top
def summed (k:Int):Bool:=k==4||k==5
def comb (s:Bool) (a b:Nat):Nat:=if s then sat a b else min a b
def msg (k:Int) (val:Nat) (out:Int) (w:Nat):Nat:=
  if k=1 then sat val 1 else if k=3 then sat val w else if k=4 then (if out < 1 then 0 else val / out.toNat) else if k=5 then 1 else val
def nxt (k:Int) (val sum:Nat) (any:Bool):Nat×Bool:=
  let sum:=if any then sum else 0
  if k=4 then (157284+sum / 20*17,decide (157284+sum / 20*17≠val))
  else if k=5 then (sum,false)
  else if any&&decide (sum < val) then (sum,true) else (val,false)

def right (k:Int) (s:Nat) (n:Int):Bool:=decide (1<=k/\k<=5/\0<=n/\n<=1048576/\((k=1\/k=3)->(s:Int) < n))
/-- a graph that is right -/
def graph (n:Int) (es:List E):Bool:=decide (0<=n/\n<=1048576/\es.length<=1048576/\∀ e∈es,(e.f:Int) < n/\(e.t:Int) < n)
/-- a program that may run over a graph -/
def may (k:Int) (s:Nat) (n:Int) (es:List E):Bool:=graph n es&&right k s n
def quiet (live:List Bool):Bool:= !live.contains true

abbrev Cfg:=List Nat×List Bool

def outs (es:List E) (v:Nat):Nat:=es.countP (fun e=>e.f==v)
def put (s:Bool) (m:Nat->Option Nat) (t x:Nat):Nat->Option Nat:=fun v=>if v=t then some (match m t with | some y=>comb s y x | none=>x) else m v
def sends (k:Int) (live:List Bool) (v:Nat):Bool:=k==4||live.getD v false
def came (k:Int) (all:List E) (c:Cfg):List E->(Nat->Option Nat)->(Nat->Option Nat)
  | [],m=>m
  | e::es,m=>came k all c es (if sends k c.2 e.f then put (summed k) m e.t (msg k (c.1.getD e.f 0) (outs all e.f) e.w) else m)
def nexts (k:Int) (es:List E) (c:Cfg) (v:Nat):Nat×Bool:=
  nxt k (c.1.getD v 0) ((came k es c es (fun _=>none) v).getD 0) (came k es c es (fun _=>none) v).isSome
def step (k:Int) (es:List E) (c:Cfg):Cfg:=
  if quiet c.2 then c else ((List.range c.1.length).map fun v=>(nexts k es c v).1,(List.range c.1.length).map fun v=>(nexts k es c v).2)
def start (k:Int) (s n:Nat):Cfg:=
  ((List.range n).map fun v=>if k=1\/k=3 then (if v=s then 0 else top) else if k=2 then v else if k=4 then 1048576 else 0,
   (List.range n).map fun v=>if k=1\/k=3 then decide (v=s) else true)
def err (b:Bool):Int:=if b then 0 else 1
def sl (k:Int):Bool:= !decide (k=1\/k=3)
/-! ### lengths -/
/-- a graph cut to forty edges, that is right; or none -/
def few (n:Int) (es:List E):Int×List E:=if graph n (es.take (min es.length 40))&&decide (n<=60) then (n,es.take (min es.length 40)) else (0,[])
theorem few_facts {n:Int} {es:List E}:0<=(few n es).1/\(few n es).1<=60/\(few n es).2.length<=40/\graph (few n es).1 (few n es).2=true/\(∀ e∈(few n es).2,e∈es):=by
  unfold few
  split
  · rename_i h
    simp only [Bool.and_eq_true,decide_eq_true_eq] at h
    have hg:=h.1
    unfold graph at hg
    rw [decide_eq_true_eq] at hg
    refine ⟨hg.1,h.2,?_,h.1,fun e he=>List.mem_of_mem_take he⟩
    simp only [List.length_take];omega
  · refine ⟨by decide,by decide,by decide,by decide,fun e he=>by cases he⟩
/-! ### the three that take the least -/
def least (k:Int):Prop:=k=1\/k=2\/k=3
theorem least.sum {k:Int} (h:least k):summed k=false:=by rcases h with rfl | rfl | rfl<;>rfl
theorem least.sends {k:Int} (h:least k) (l:List Bool) (v:Nat):sends k l v=l.getD v false:=by rcases h with rfl | rfl | rfl<;>simp [Tr.sends]
theorem least.nxt {k:Int} (h:least k) (val sum:Nat) (any:Bool):nxt k val sum any=if any=true/\sum < val then (sum,true) else (val,false):=by
  rcases h with rfl | rfl | rfl<;>cases any<;>simp [Tr.nxt]

end Go.Cg.Tr
