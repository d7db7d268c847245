/- Laws of the model, walks of functions of the program, and what they rest on. No condition. -/
import Derived.Test.YtoffbmhmocfmnaaGreatDoorKVaj
import Derived.Test.YtoffbmhmocfmnaaGreatDoorRows
namespace Go.Proofs.YtoffbmhmocfmnaaGreatDoor
open Go.Cg Go.RowKit
instance:Und Tryz.prog 3 (.int .i64):=⟨Tryz.underlying3⟩
instance:Pln Tryz.prog 3:=⟨Tryz.isAgg3⟩
instance:Szo Tryz.prog 3 1:=⟨Tryz.sizeOf3⟩
instance:Pln Tryz.prog 4:=⟨Tryz.isAgg4⟩
instance:Szo Tryz.prog 4 1:=⟨Tryz.sizeOf4⟩
instance:Und Tryz.prog 5 (.int .u8):=⟨Tryz.underlying5⟩
instance:Und Tryz.prog 9 (.string):=⟨Tryz.underlying9⟩
instance:Pln Tryz.prog 9:=⟨Tryz.isAgg9⟩
instance:Szo Tryz.prog 9 1:=⟨Tryz.sizeOf9⟩
instance:Und Tryz.prog 22 (.slice 61):=⟨Tryz.underlying22⟩
instance:Pln Tryz.prog 22:=⟨Tryz.isAgg22⟩
instance:Szo Tryz.prog 22 1:=⟨Tryz.sizeOf22⟩
instance:Ag Tryz.prog 24 2:=⟨fun w=>⟨Tryz.isAgg24 w,Tryz.sizeOf24 w⟩⟩
instance:Szo Tryz.prog 24 2:=⟨Tryz.sizeOf24⟩
instance:Fld Tryz.prog 24 0 0:=⟨by intro w b o;simp [Instr.fieldAt,Instr.sureAddr,fieldPlace,Addr.add]⟩
instance:Fld Tryz.prog 24 1 1:=⟨by intro w b o;simp [Instr.fieldAt,Instr.sureAddr,fieldPlace,Addr.add]⟩
instance:Und Tryz.prog 27 (.pointer 71):=⟨Tryz.underlying27⟩
instance:Pln Tryz.prog 27:=⟨Tryz.isAgg27⟩
instance:Pln Tryz.prog 29:=⟨Tryz.isAgg29⟩
instance:Szo Tryz.prog 29 1:=⟨Tryz.sizeOf29⟩
instance:Und Tryz.prog 31 (.pointer 78):=⟨Tryz.underlying31⟩
instance:Und Tryz.prog 46 (.slice 9):=⟨Tryz.underlying46⟩
instance:Pln Tryz.prog 46:=⟨Tryz.isAgg46⟩
instance:Szo Tryz.prog 46 1:=⟨Tryz.sizeOf46⟩
instance:Und Tryz.prog 50 (.slice 5):=⟨Tryz.underlying50⟩
instance:Pln Tryz.prog 50:=⟨Tryz.isAgg50⟩
instance:Szo Tryz.prog 50 1:=⟨Tryz.sizeOf50⟩
instance:Und Tryz.prog 56 (.slice 4):=⟨Tryz.underlying56⟩
instance:Pln Tryz.prog 56:=⟨Tryz.isAgg56⟩
instance:Szo Tryz.prog 56 1:=⟨Tryz.sizeOf56⟩
instance:Und Tryz.prog 59 (.int .u32):=⟨Tryz.underlying59⟩
instance:Pln Tryz.prog 59:=⟨Tryz.isAgg59⟩
instance:Ag Tryz.prog 61 3:=⟨fun w=>⟨Tryz.isAgg61 w,Tryz.sizeOf61 w⟩⟩
instance:Szo Tryz.prog 61 3:=⟨Tryz.sizeOf61⟩
instance:Fld Tryz.prog 61 0 0:=⟨by intro w b o;simp [Instr.fieldAt,Instr.sureAddr,fieldPlace,Addr.add]⟩
instance:Fld Tryz.prog 61 1 1:=⟨by intro w b o;simp [Instr.fieldAt,Instr.sureAddr,fieldPlace,Addr.add]⟩
instance:Fld Tryz.prog 61 2 2:=⟨by intro w b o;simp [Instr.fieldAt,Instr.sureAddr,fieldPlace,Addr.add]⟩
instance:Pln Tryz.prog 62:=⟨Tryz.isAgg62⟩
instance:Fld Tryz.prog 67 2 0:=⟨by intro w b o;simp [Instr.fieldAt,Instr.sureAddr,fieldPlace,Addr.add]⟩
instance:Fld Tryz.prog 69 1 0:=⟨by intro w b o;simp [Instr.fieldAt,Instr.sureAddr,fieldPlace,Addr.add]⟩
instance:Fld Tryz.prog 71 0 0:=⟨by intro w b o;simp [Instr.fieldAt,Instr.sureAddr,fieldPlace,Addr.add]⟩
instance:Fld Tryz.prog 71 1 1:=⟨by intro w b o;simp [Instr.fieldAt,Instr.sureAddr,fieldPlace,Addr.add]⟩
instance:Fld Tryz.prog 71 2 2:=⟨by intro w b o;simp [Instr.fieldAt,Instr.sureAddr,fieldPlace,Addr.add]⟩
instance:Fld Tryz.prog 71 3 3:=⟨by intro w b o;simp [Instr.fieldAt,Instr.sureAddr,fieldPlace,Addr.add]⟩
instance:Fld Tryz.prog 71 4 4:=⟨by intro w b o;simp [Instr.fieldAt,Instr.sureAddr,fieldPlace,Addr.add]⟩
instance:Fld Tryz.prog 71 5 5:=⟨by intro w b o;simp [Instr.fieldAt,Instr.sureAddr,fieldPlace,Addr.add]⟩
instance:Fld Tryz.prog 71 6 6:=⟨by intro w b o;simp [Instr.fieldAt,Instr.sureAddr,fieldPlace,Addr.add]⟩
instance:Und Tryz.prog 72 (.slice 3):=⟨Tryz.underlying72⟩
instance:Pln Tryz.prog 72:=⟨Tryz.isAgg72⟩
instance:Und Tryz.prog 76 (.slice 82):=⟨Tryz.underlying76⟩
instance:Pln Tryz.prog 76:=⟨Tryz.isAgg76⟩
instance:Szo Tryz.prog 76 1:=⟨Tryz.sizeOf76⟩
instance:Fld Tryz.prog 78 0 0:=⟨by intro w b o;simp [Instr.fieldAt,Instr.sureAddr,fieldPlace,Addr.add]⟩
instance:Fld Tryz.prog 78 1 1:=⟨by intro w b o;simp [Instr.fieldAt,Instr.sureAddr,fieldPlace,Addr.add]⟩
instance:Fld Tryz.prog 78 2 2:=⟨by intro w b o;simp [Instr.fieldAt,Instr.sureAddr,fieldPlace,Addr.add]⟩
instance:Fld Tryz.prog 78 3 3:=⟨by intro w b o;simp [Instr.fieldAt,Instr.sureAddr,fieldPlace,Addr.add]⟩
instance:Fld Tryz.prog 78 4 4:=⟨by intro w b o;simp [Instr.fieldAt,Instr.sureAddr,fieldPlace,Addr.add]⟩
instance:Pln Tryz.prog 79:=⟨Tryz.isAgg79⟩
instance:Fld Tryz.prog 84 0 0:=⟨by intro w b o;simp [Instr.fieldAt,Instr.sureAddr,fieldPlace,Addr.add]⟩
instance:Fld Tryz.prog 84 1 1:=⟨by intro w b o;simp [Instr.fieldAt,Instr.sureAddr,fieldPlace,Addr.add]⟩
instance:Fld Tryz.prog 84 2 4:=⟨by intro w b o;simp [Instr.fieldAt,Instr.sureAddr,fieldPlace,Addr.add]⟩
instance:Und Tryz.prog 86 (.slice 91):=⟨Tryz.underlying86⟩
instance:Pln Tryz.prog 86:=⟨Tryz.isAgg86⟩
instance:Szo Tryz.prog 86 1:=⟨Tryz.sizeOf86⟩
instance:Und Tryz.prog 89 (.int .u64):=⟨Tryz.underlying89⟩
instance:Pln Tryz.prog 89:=⟨Tryz.isAgg89⟩
instance:Szo Tryz.prog 89 1:=⟨Tryz.sizeOf89⟩
instance:Ag Tryz.prog 91 2:=⟨fun w=>⟨Tryz.isAgg91 w,Tryz.sizeOf91 w⟩⟩
instance:Szo Tryz.prog 91 2:=⟨Tryz.sizeOf91⟩
instance:Fld Tryz.prog 91 0 0:=⟨by intro w b o;simp [Instr.fieldAt,Instr.sureAddr,fieldPlace,Addr.add]⟩
instance:Fld Tryz.prog 91 1 1:=⟨by intro w b o;simp [Instr.fieldAt,Instr.sureAddr,fieldPlace,Addr.add]⟩
instance:Und Tryz.prog 94 (.pointer 105):=⟨Tryz.underlying94⟩
instance:Fld Tryz.prog 105 0 0:=⟨by intro w b o;simp [Instr.fieldAt,Instr.sureAddr,fieldPlace,Addr.add]⟩
instance:Fld Tryz.prog 105 1 1:=⟨by intro w b o;simp [Instr.fieldAt,Instr.sureAddr,fieldPlace,Addr.add]⟩
instance:Fld Tryz.prog 120 0 0:=⟨by intro w b o;simp [Instr.fieldAt,Instr.sureAddr,fieldPlace,Addr.add]⟩
instance:Fld Tryz.prog 120 1 1:=⟨by intro w b o;simp [Instr.fieldAt,Instr.sureAddr,fieldPlace,Addr.add]⟩
instance:Fld Tryz.prog 120 2 2:=⟨by intro w b o;simp [Instr.fieldAt,Instr.sureAddr,fieldPlace,Addr.add]⟩
instance:Fld Tryz.prog 120 3 3:=⟨by intro w b o;simp [Instr.fieldAt,Instr.sureAddr,fieldPlace,Addr.add]⟩
instance:Fld Tryz.prog 120 4 4:=⟨by intro w b o;simp [Instr.fieldAt,Instr.sureAddr,fieldPlace,Addr.add]⟩
instance:Fld Tryz.prog 120 5 5:=⟨by intro w b o;simp [Instr.fieldAt,Instr.sureAddr,fieldPlace,Addr.add]⟩
instance:Fld Tryz.prog 120 6 6:=⟨by intro w b o;simp [Instr.fieldAt,Instr.sureAddr,fieldPlace,Addr.add]⟩
instance:Und Tryz.prog 123 (.int .u64):=⟨Tryz.underlying123⟩
instance:Pln Tryz.prog 142:=⟨Tryz.isAgg142⟩
instance:Fld Tryz.prog 144 0 0:=⟨by intro w b o;simp [Instr.fieldAt,Instr.sureAddr,fieldPlace,Addr.add]⟩
instance:Fld Tryz.prog 144 1 1:=⟨by intro w b o;simp [Instr.fieldAt,Instr.sureAddr,fieldPlace,Addr.add]⟩
instance:Fld Tryz.prog 144 2 2:=⟨by intro w b o;simp [Instr.fieldAt,Instr.sureAddr,fieldPlace,Addr.add]⟩
instance:Fld Tryz.prog 144 3 3:=⟨by intro w b o;simp [Instr.fieldAt,Instr.sureAddr,fieldPlace,Addr.add]⟩
instance:Fld Tryz.prog 144 4 4:=⟨by intro w b o;simp [Instr.fieldAt,Instr.sureAddr,fieldPlace,Addr.add]⟩
instance:Fld Tryz.prog 144 5 5:=⟨by intro w b o;simp [Instr.fieldAt,Instr.sureAddr,fieldPlace,Addr.add]⟩
instance:Fld Tryz.prog 158 0 0:=⟨by intro w b o;simp [Instr.fieldAt,Instr.sureAddr,fieldPlace,Addr.add]⟩
instance:Fld Tryz.prog 158 1 1:=⟨by intro w b o;simp [Instr.fieldAt,Instr.sureAddr,fieldPlace,Addr.add]⟩
instance:Fld Tryz.prog 158 2 2:=⟨by intro w b o;simp [Instr.fieldAt,Instr.sureAddr,fieldPlace,Addr.add]⟩
instance:Fld Tryz.prog 158 3 3:=⟨by intro w b o;simp [Instr.fieldAt,Instr.sureAddr,fieldPlace,Addr.add]⟩
instance:Und Tryz.prog 197 (.slice 202):=⟨Tryz.underlying197⟩
instance:Pln Tryz.prog 197:=⟨Tryz.isAgg197⟩
instance:Szo Tryz.prog 197 1:=⟨Tryz.sizeOf197⟩
instance:Fld Tryz.prog 199 0 0:=⟨by intro w b o;simp [Instr.fieldAt,Instr.sureAddr,fieldPlace,Addr.add]⟩
instance:Ag Tryz.prog 202 3:=⟨fun w=>⟨Tryz.isAgg202 w,Tryz.sizeOf202 w⟩⟩
instance:Szo Tryz.prog 202 3:=⟨Tryz.sizeOf202⟩
instance:Fld Tryz.prog 202 0 0:=⟨by intro w b o;simp [Instr.fieldAt,Instr.sureAddr,fieldPlace,Addr.add]⟩
instance:Fld Tryz.prog 202 1 2:=⟨by intro w b o;simp [Instr.fieldAt,Instr.sureAddr,fieldPlace,Addr.add]⟩
instance:Und Tryz.prog 204 (.pointer 91):=⟨Tryz.underlying204⟩
instance:Und Tryz.prog 229 (.slice 50):=⟨Tryz.underlying229⟩
instance:Szo Tryz.prog 232 2:=⟨Tryz.sizeOf232⟩
instance:Fld Tryz.prog 232 0 0:=⟨by intro w b o;simp [Instr.fieldAt,Instr.sureAddr,fieldPlace,Addr.add]⟩
instance:Fld Tryz.prog 232 1 1:=⟨by intro w b o;simp [Instr.fieldAt,Instr.sureAddr,fieldPlace,Addr.add]⟩
instance:Xf Tryz.prog 91 (Extern.Atomic.update (Op.intArith .add) .i64 true):=⟨fun args w=>run_extern Tryz.func91 (by kernel_rfl) (by kernel_rfl) (by kernel_rfl) (by kernel_rfl) args w⟩
instance:Xf Tryz.prog 72 (Extern.Atomic.swapT (.int .u32)):=⟨fun args w=>run_extern Tryz.func72 (by kernel_rfl) (by kernel_rfl) (by kernel_rfl) (by kernel_rfl) args w⟩
instance:Xf Tryz.prog 78 (Extern.Atomic.loadT (.int .u32)):=⟨fun args w=>run_extern Tryz.func78 (by kernel_rfl) (by kernel_rfl) (by kernel_rfl) (by kernel_rfl) args w⟩
instance:Xf Tryz.prog 76 (Extern.Atomic.storeT):=⟨fun args w=>run_extern Tryz.func76 (by kernel_rfl) (by kernel_rfl) (by kernel_rfl) (by kernel_rfl) args w⟩
end Go.Proofs.YtoffbmhmocfmnaaGreatDoor
