/- Laws of the model, walks of functions of the program, and what they rest on. No condition. -/
import Derived.Test.YtoffbmhmocfmnaaGreatDoorRows
import Derived.Test.YtoffbmhmocfmnaaGreatDoorTie
import Derived.Test.YtoffbmhmocfmnaaGreatDoorKVag
import Derived.Test.YtoffbmhmocfmnaaGreatDoorKVaw
import Derived.Lib.LaidTab
import Derived.Stop.LaidErr
import Derived.LaidMore
import Derived.Stop.Joined
namespace Go.Proofs.YtoffbmhmocfmnaaGreatDoor
set_option linter.unusedVariables false
set_option linter.unusedSimpArgs false
open Go.ChangeShapes Go.WideShapes Go.ChangeAt Go.RowKit Go.Lib Go.Joins Go.Deep Go.Cg Go.Cg.Oc
set_option linter.unusedVariables false
open Go.Cg.Rn (R Bd)
abbrev laidL:List (String×DataW Unit):=[("math/bits.deBruijn32tab",Rows.laid_math_bits_deBruijn32tab),("math/bits.deBruijn64tab",Rows.laid_math_bits_deBruijn64tab),("internal/strconv.uint64pow10",Rows.laid_internal_strconv_uint64pow10)]
theorem old_var {w W:World} {n:String} {cs:Array Value} {g:Nat} (hg:Tryz.prog.globalNamed n=some g) (H:Sat w [old W]) (h:W.var? Tryz.prog n=some cs):w.var? Tryz.prog n=some cs:=by
  obtain ⟨F,_,hown⟩:=H.head
  unfold World.var? at h ⊢
  rw [hg] at h ⊢
  simp only [Option.bind_some] at h ⊢
  have hlt:g < W.heap.size:=by
    cases hb:W.heap[g]? with
    | none=>rw [hb] at h;simp at h
    | some _=>exact (Array.getElem?_eq_some_iff.1 hb).1
  rw [hown.2.2 g hlt];exact h
theorem laid_open {W:World} (h:laidMetH Tryz.prog laidL W):Laid [old W]:=by
  rw [MakeChecks.laidMetH_plain _ _ _ (by kernel_rfl)] at h
  have h3:=h.tail.tail
  have hT:TabIs Tryz.prog W "internal/strconv.uint64pow10" .u64 pow10Tab:=tabIs_of_head (g:=0) (by kernel_rfl) (t:=212) (by kernel_rfl) Tryz.underlying212 Tryz.underlying89 (by kernel_rfl) (by kernel_rfl) h3
  exact fun w H=>old_var (g:=0) (by kernel_rfl) H hT
theorem door_met (os:Os) (args:Array Value):laidMetH Tryz.prog laidL ((World.doorLaid Tryz.prog 400 os).forCall (fun _ _=>0) ⟨#[],args,[]⟩).memory:=
  laidMetH_of_parts3 (fuel:=8) (laidMet_of_run' 8 (by kernel_rfl) (by kernel_rfl)) (by kernel_rfl) (by kernel_rfl)
/-! ### slices -/
section
variable {H:Type} {enc:TypeId×Value->H} {P:Program} {W:World} {base:Nat} {spare:Nat->Bool} {held:Bool}
theorem slice_cells {t e:TypeId} {b0:Nat} {v:Value} (ht:P.underlying t=some (.slice e)) (hv:Value.okWide P W .any b0 t v):v.cells.toList=[v]:=by
  cases v<;>first | rfl | simp [Value.okWide,ht,Cell.okWide,Cell.ok] at hv
theorem trod_top {t e:TypeId} {b0:Nat} {v:Value} {d:DataW H} {p:List MemPlace} (ht:P.underlying t=some (.slice e)) (hv:Value.okWide P W .any b0 t v) (h:DataW.Trod enc P W base spare held t v d p):∃fuel,DataW.trod enc P W base spare held fuel t [v]=some (d,p):=by
  obtain ⟨fuel,hf⟩:=h
  exact ⟨fuel,by rw [slice_cells ht hv] at hf;exact hf⟩
end
/-! ### records -/
section
variable {H:Type} {enc:TypeId×Value->H} {W:World} {base:Nat} {spare:Nat->Bool} {held:Bool}
end
end Go.Proofs.YtoffbmhmocfmnaaGreatDoor
