/- The program's own facts, told as classes. No condition. -/
import Derived.Test.YtgfdmhjjlajmgaaGreatDoorKUDs
import Derived.Test.YtgfdmhjjlajmgaaGreatDoorRows
namespace Go.Proofs.YtgfdmhjjlajmgaaGreatDoor
open Go.Cg Go.RowKit
instance : Und Tryz.prog 3 (.int .i64) := ⟨Tryz.underlying3⟩
instance : Pln Tryz.prog 3 := ⟨Tryz.isAgg3⟩
instance : Szo Tryz.prog 3 1 := ⟨Tryz.sizeOf3⟩
instance : Pln Tryz.prog 4 := ⟨Tryz.isAgg4⟩
instance : Szo Tryz.prog 4 1 := ⟨Tryz.sizeOf4⟩
instance : Und Tryz.prog 5 (.int .u8) := ⟨Tryz.underlying5⟩
instance : Und Tryz.prog 9 (.string) := ⟨Tryz.underlying9⟩
instance : Pln Tryz.prog 9 := ⟨Tryz.isAgg9⟩
instance : Szo Tryz.prog 9 1 := ⟨Tryz.sizeOf9⟩
instance : Und Tryz.prog 22 (.slice 52) := ⟨Tryz.underlying22⟩
instance : Pln Tryz.prog 22 := ⟨Tryz.isAgg22⟩
instance : Szo Tryz.prog 22 1 := ⟨Tryz.sizeOf22⟩
instance : Und Tryz.prog 25 (.pointer 63) := ⟨Tryz.underlying25⟩
instance : Pln Tryz.prog 25 := ⟨Tryz.isAgg25⟩
instance : Pln Tryz.prog 27 := ⟨Tryz.isAgg27⟩
instance : Szo Tryz.prog 27 1 := ⟨Tryz.sizeOf27⟩
instance : Und Tryz.prog 31 (.slice 9) := ⟨Tryz.underlying31⟩
instance : Pln Tryz.prog 31 := ⟨Tryz.isAgg31⟩
instance : Szo Tryz.prog 31 1 := ⟨Tryz.sizeOf31⟩
instance : Und Tryz.prog 41 (.slice 5) := ⟨Tryz.underlying41⟩
instance : Pln Tryz.prog 41 := ⟨Tryz.isAgg41⟩
instance : Szo Tryz.prog 41 1 := ⟨Tryz.sizeOf41⟩
instance : Und Tryz.prog 47 (.slice 4) := ⟨Tryz.underlying47⟩
instance : Pln Tryz.prog 47 := ⟨Tryz.isAgg47⟩
instance : Szo Tryz.prog 47 1 := ⟨Tryz.sizeOf47⟩
instance : Und Tryz.prog 50 (.int .u64) := ⟨Tryz.underlying50⟩
instance : Pln Tryz.prog 50 := ⟨Tryz.isAgg50⟩
instance : Szo Tryz.prog 50 1 := ⟨Tryz.sizeOf50⟩
instance : Ag Tryz.prog 52 2 := ⟨fun w => ⟨Tryz.isAgg52 w, Tryz.sizeOf52 w⟩⟩
instance : Szo Tryz.prog 52 2 := ⟨Tryz.sizeOf52⟩
instance : Fld Tryz.prog 52 0 0 := ⟨by intro w b o; simp [Instr.fieldAt, Instr.sureAddr, fieldPlace, Addr.add]⟩
instance : Fld Tryz.prog 52 1 1 := ⟨by intro w b o; simp [Instr.fieldAt, Instr.sureAddr, fieldPlace, Addr.add]⟩
instance : Pln Tryz.prog 53 := ⟨Tryz.isAgg53⟩
instance : Fld Tryz.prog 58 2 0 := ⟨by intro w b o; simp [Instr.fieldAt, Instr.sureAddr, fieldPlace, Addr.add]⟩
instance : Und Tryz.prog 59 (.int .u32) := ⟨Tryz.underlying59⟩
instance : Fld Tryz.prog 61 1 0 := ⟨by intro w b o; simp [Instr.fieldAt, Instr.sureAddr, fieldPlace, Addr.add]⟩
instance : Fld Tryz.prog 63 0 0 := ⟨by intro w b o; simp [Instr.fieldAt, Instr.sureAddr, fieldPlace, Addr.add]⟩
instance : Fld Tryz.prog 63 1 1 := ⟨by intro w b o; simp [Instr.fieldAt, Instr.sureAddr, fieldPlace, Addr.add]⟩
instance : Fld Tryz.prog 63 2 2 := ⟨by intro w b o; simp [Instr.fieldAt, Instr.sureAddr, fieldPlace, Addr.add]⟩
instance : Fld Tryz.prog 63 3 3 := ⟨by intro w b o; simp [Instr.fieldAt, Instr.sureAddr, fieldPlace, Addr.add]⟩
instance : Fld Tryz.prog 63 4 4 := ⟨by intro w b o; simp [Instr.fieldAt, Instr.sureAddr, fieldPlace, Addr.add]⟩
instance : Fld Tryz.prog 63 5 5 := ⟨by intro w b o; simp [Instr.fieldAt, Instr.sureAddr, fieldPlace, Addr.add]⟩
instance : Fld Tryz.prog 63 6 6 := ⟨by intro w b o; simp [Instr.fieldAt, Instr.sureAddr, fieldPlace, Addr.add]⟩
instance : Pln Tryz.prog 72 := ⟨Tryz.isAgg72⟩
instance : Fld Tryz.prog 74 0 0 := ⟨by intro w b o; simp [Instr.fieldAt, Instr.sureAddr, fieldPlace, Addr.add]⟩
instance : Fld Tryz.prog 74 1 1 := ⟨by intro w b o; simp [Instr.fieldAt, Instr.sureAddr, fieldPlace, Addr.add]⟩
instance : Fld Tryz.prog 74 2 2 := ⟨by intro w b o; simp [Instr.fieldAt, Instr.sureAddr, fieldPlace, Addr.add]⟩
instance : Fld Tryz.prog 74 3 3 := ⟨by intro w b o; simp [Instr.fieldAt, Instr.sureAddr, fieldPlace, Addr.add]⟩
instance : Fld Tryz.prog 74 4 4 := ⟨by intro w b o; simp [Instr.fieldAt, Instr.sureAddr, fieldPlace, Addr.add]⟩
instance : Fld Tryz.prog 74 5 5 := ⟨by intro w b o; simp [Instr.fieldAt, Instr.sureAddr, fieldPlace, Addr.add]⟩
instance : Und Tryz.prog 82 (.pointer 90) := ⟨Tryz.underlying82⟩
instance : Fld Tryz.prog 90 0 0 := ⟨by intro w b o; simp [Instr.fieldAt, Instr.sureAddr, fieldPlace, Addr.add]⟩
instance : Fld Tryz.prog 90 1 1 := ⟨by intro w b o; simp [Instr.fieldAt, Instr.sureAddr, fieldPlace, Addr.add]⟩
instance : Fld Tryz.prog 95 0 0 := ⟨by intro w b o; simp [Instr.fieldAt, Instr.sureAddr, fieldPlace, Addr.add]⟩
instance : Fld Tryz.prog 95 1 1 := ⟨by intro w b o; simp [Instr.fieldAt, Instr.sureAddr, fieldPlace, Addr.add]⟩
instance : Fld Tryz.prog 95 2 2 := ⟨by intro w b o; simp [Instr.fieldAt, Instr.sureAddr, fieldPlace, Addr.add]⟩
instance : Fld Tryz.prog 95 3 3 := ⟨by intro w b o; simp [Instr.fieldAt, Instr.sureAddr, fieldPlace, Addr.add]⟩
instance : Fld Tryz.prog 99 0 0 := ⟨by intro w b o; simp [Instr.fieldAt, Instr.sureAddr, fieldPlace, Addr.add]⟩
instance : Fld Tryz.prog 99 1 1 := ⟨by intro w b o; simp [Instr.fieldAt, Instr.sureAddr, fieldPlace, Addr.add]⟩
instance : Fld Tryz.prog 99 2 2 := ⟨by intro w b o; simp [Instr.fieldAt, Instr.sureAddr, fieldPlace, Addr.add]⟩
instance : Fld Tryz.prog 99 3 3 := ⟨by intro w b o; simp [Instr.fieldAt, Instr.sureAddr, fieldPlace, Addr.add]⟩
instance : Fld Tryz.prog 99 4 4 := ⟨by intro w b o; simp [Instr.fieldAt, Instr.sureAddr, fieldPlace, Addr.add]⟩
instance : Fld Tryz.prog 99 5 5 := ⟨by intro w b o; simp [Instr.fieldAt, Instr.sureAddr, fieldPlace, Addr.add]⟩
instance : Fld Tryz.prog 99 6 6 := ⟨by intro w b o; simp [Instr.fieldAt, Instr.sureAddr, fieldPlace, Addr.add]⟩
instance : Und Tryz.prog 130 (.slice 135) := ⟨Tryz.underlying130⟩
instance : Pln Tryz.prog 130 := ⟨Tryz.isAgg130⟩
instance : Szo Tryz.prog 130 1 := ⟨Tryz.sizeOf130⟩
instance : Fld Tryz.prog 132 0 0 := ⟨by intro w b o; simp [Instr.fieldAt, Instr.sureAddr, fieldPlace, Addr.add]⟩
instance : Ag Tryz.prog 135 3 := ⟨fun w => ⟨Tryz.isAgg135 w, Tryz.sizeOf135 w⟩⟩
instance : Szo Tryz.prog 135 3 := ⟨Tryz.sizeOf135⟩
instance : Fld Tryz.prog 135 0 0 := ⟨by intro w b o; simp [Instr.fieldAt, Instr.sureAddr, fieldPlace, Addr.add]⟩
instance : Fld Tryz.prog 135 1 2 := ⟨by intro w b o; simp [Instr.fieldAt, Instr.sureAddr, fieldPlace, Addr.add]⟩
instance : Und Tryz.prog 137 (.pointer 52) := ⟨Tryz.underlying137⟩
instance : Und Tryz.prog 177 (.slice 41) := ⟨Tryz.underlying177⟩
instance : Szo Tryz.prog 181 2 := ⟨Tryz.sizeOf181⟩
instance : Fld Tryz.prog 181 0 0 := ⟨by intro w b o; simp [Instr.fieldAt, Instr.sureAddr, fieldPlace, Addr.add]⟩
instance : Fld Tryz.prog 181 1 1 := ⟨by intro w b o; simp [Instr.fieldAt, Instr.sureAddr, fieldPlace, Addr.add]⟩
instance : Xf Tryz.prog 82 (Extern.Atomic.update (Op.intArith .add) .i64 true) := ⟨fun args w => run_extern Tryz.func82 (by kernel_rfl) (by kernel_rfl) (by kernel_rfl) (by kernel_rfl) args w⟩
instance : Xf Tryz.prog 100 (Extern.Atomic.swapT (.int .u32)) := ⟨fun args w => run_extern Tryz.func100 (by kernel_rfl) (by kernel_rfl) (by kernel_rfl) (by kernel_rfl) args w⟩
instance : Xf Tryz.prog 68 (Extern.Atomic.loadT (.int .u32)) := ⟨fun args w => run_extern Tryz.func68 (by kernel_rfl) (by kernel_rfl) (by kernel_rfl) (by kernel_rfl) args w⟩
instance : Xf Tryz.prog 69 (Extern.Atomic.storeT) := ⟨fun args w => run_extern Tryz.func69 (by kernel_rfl) (by kernel_rfl) (by kernel_rfl) (by kernel_rfl) args w⟩
end Go.Proofs.YtgfdmhjjlajmgaaGreatDoor
