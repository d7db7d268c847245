/-
  NARROWER THAN 'FOR EVERY INPUT', by the rows' own cells (each row's printed sentence says how): ExtsortTells: laid · ExtsortPasses: laid · ExtsortOut: laid · ExtsortSame: laid · ExtsortBytes: laid · ExtsortSpace: laid · ExtsortDown: laid.
  DERIVED. THE GIVEN ROWS OF THIS SEAT. 7 by the template 'for every input the law returns true; each argument reads behind the call as it read before'; 0 by the template 'total and deterministic' (their statements: YtgfdmhjjlajmgaaGreatDoorTotals.lean).
  GIVEN WITH THE SEED: the statements are not yours to turn. If you find one false, say at which input.
  Laid BY PROGRAM, IN A SANDBOX (cutbox-rows.mjs): the forced cells as the released guide's own fill.sh prints them over the translation 742d99b7f5be5406… (all of the seat's roots in one cut). By AI agents, Wed Nov 11 2026. No macro, syntax, notation, axiom, sorry.
-/
import Derived.Test.YtgfdmhjjlajmgaaGreatDoorChecked
import GoSem.Claim
import GoSem.ClaimJoined
import GoSem.ClaimMapViews
import Derived.JoinedTies
import Derived.KernelRfl
namespace Go.Proofs.YtgfdmhjjlajmgaaGreatDoor
/- THE CELL 'sum', in the pinned program and in every row, IS THE sha256 OF THE DUMP (.gsa) THAT YtgfdmhjjlajmgaaGreatDoorProg.lean LOADS. Nothing in Lean hashes anything: it is a label: what it is worth is what the hold of that sum in a sandbox is worth. -/
noncomputable def Tryz.pinned : Pinned := { name := "ytgfdmhjjlajmgaagreatdoor", sum := "742d99b7f5be5406307ebb26f79e699baf98915726231c76be589e8d822d9253", checked := Tryz.checked }
namespace Rows
def none {H : Type} : Left H := { results := [], args := [] }

/- WHAT THE LISTED PACKAGE-LEVEL VARIABLES READ AS WHEN THE CALL BEGINS. Each datum BY PROGRAM (the guide's laid-datum.mjs) off the statement by which the dump's own 'gosem.cut.vars' lays the variable. In a bare row this is a premise. The card (YtgfdmhjjlajmgaaGreatDoorCards.lean) ties it to the program's text. -/
def laid_math_bits_deBruijn32tab {H : Type} : DataW H := .agg [.lit (.int .u8 0), .lit (.int .u8 1), .lit (.int .u8 28), .lit (.int .u8 2), .lit (.int .u8 29), .lit (.int .u8 14), .lit (.int .u8 24), .lit (.int .u8 3), .lit (.int .u8 30), .lit (.int .u8 22), .lit (.int .u8 20), .lit (.int .u8 15), .lit (.int .u8 25), .lit (.int .u8 17), .lit (.int .u8 4), .lit (.int .u8 8), .lit (.int .u8 31), .lit (.int .u8 27), .lit (.int .u8 13), .lit (.int .u8 23), .lit (.int .u8 21), .lit (.int .u8 19), .lit (.int .u8 16), .lit (.int .u8 7), .lit (.int .u8 26), .lit (.int .u8 12), .lit (.int .u8 18), .lit (.int .u8 6), .lit (.int .u8 11), .lit (.int .u8 5), .lit (.int .u8 10), .lit (.int .u8 9)]
def laid_math_bits_deBruijn64tab {H : Type} : DataW H := .agg [.lit (.int .u8 0), .lit (.int .u8 1), .lit (.int .u8 56), .lit (.int .u8 2), .lit (.int .u8 57), .lit (.int .u8 49), .lit (.int .u8 28), .lit (.int .u8 3), .lit (.int .u8 61), .lit (.int .u8 58), .lit (.int .u8 42), .lit (.int .u8 50), .lit (.int .u8 38), .lit (.int .u8 29), .lit (.int .u8 17), .lit (.int .u8 4), .lit (.int .u8 62), .lit (.int .u8 47), .lit (.int .u8 59), .lit (.int .u8 36), .lit (.int .u8 45), .lit (.int .u8 43), .lit (.int .u8 51), .lit (.int .u8 22), .lit (.int .u8 53), .lit (.int .u8 39), .lit (.int .u8 33), .lit (.int .u8 30), .lit (.int .u8 24), .lit (.int .u8 18), .lit (.int .u8 12), .lit (.int .u8 5), .lit (.int .u8 63), .lit (.int .u8 55), .lit (.int .u8 48), .lit (.int .u8 27), .lit (.int .u8 60), .lit (.int .u8 41), .lit (.int .u8 37), .lit (.int .u8 16), .lit (.int .u8 46), .lit (.int .u8 35), .lit (.int .u8 44), .lit (.int .u8 21), .lit (.int .u8 52), .lit (.int .u8 32), .lit (.int .u8 23), .lit (.int .u8 11), .lit (.int .u8 54), .lit (.int .u8 26), .lit (.int .u8 40), .lit (.int .u8 15), .lit (.int .u8 34), .lit (.int .u8 20), .lit (.int .u8 31), .lit (.int .u8 10), .lit (.int .u8 25), .lit (.int .u8 14), .lit (.int .u8 19), .lit (.int .u8 9), .lit (.int .u8 13), .lit (.int .u8 8), .lit (.int .u8 7), .lit (.int .u8 6)]
def laid_internal_strconv_uint64pow10 {H : Type} : DataW H := .agg [.lit (.int .u64 1), .lit (.int .u64 10), .lit (.int .u64 100), .lit (.int .u64 1000), .lit (.int .u64 10000), .lit (.int .u64 100000), .lit (.int .u64 1000000), .lit (.int .u64 10000000), .lit (.int .u64 100000000), .lit (.int .u64 1000000000), .lit (.int .u64 10000000000), .lit (.int .u64 100000000000), .lit (.int .u64 1000000000000), .lit (.int .u64 10000000000000), .lit (.int .u64 100000000000000), .lit (.int .u64 1000000000000000), .lit (.int .u64 10000000000000000), .lit (.int .u64 100000000000000000), .lit (.int .u64 1000000000000000000), .lit (.int .u64 10000000000000000000)]

/-- 'cartagelaw10.ExtsortTells': WHATEVER THE INPUT: true; the input reads as it did. -/
def extsortTellsSpec : ChangeSpec := { name := "extsortTells", fn := fun _ => fun
  | [d1, d2, d3, d4] => { results := [.lit (.bool true)], args := [d1, d2, d3, d4] }
  | _ => none }
def extsortTellsRow : OpenClaim := { program := "ytgfdmhjjlajmgaagreatdoor", sum := "742d99b7f5be5406307ebb26f79e699baf98915726231c76be589e8d822d9253", func := "cartage/cartagelaw10.ExtsortTells", spec := "extsortTells", inPlace := ["sync/atomic.AddInt64", "sync/atomic.SwapUint32", "sync/atomic.LoadUint32", "math/bits.Add64"], unfollowed := true, recurses := true, named := ["internal/strconv.uint64pow10", "math/bits.deBruijn32tab", "math/bits.deBruijn64tab"], apart := false, laid := [("math/bits.deBruijn32tab", laid_math_bits_deBruijn32tab), ("math/bits.deBruijn64tab", laid_math_bits_deBruijn64tab), ("internal/strconv.uint64pow10", laid_internal_strconv_uint64pow10)] }
def ExtsortTellsSaid : Prop := extsortTellsRow.holds Tryz.pinned (OpenSpec.ofChange extsortTellsSpec)

/-- ITS FALSE NEIGHBOUR: 'it returns false'. Refute it at one input. -/
def extsortTellsWrong : ChangeSpec := { name := "extsortTells", fn := fun _ => fun
  | [d1, d2, d3, d4] => { results := [.lit (.bool false)], args := [d1, d2, d3, d4] }
  | _ => none }
def ExtsortTellsWrongFalsely : Prop := extsortTellsRow.holds Tryz.pinned (OpenSpec.ofChange extsortTellsWrong)

/-- 'cartagelaw10.ExtsortPasses': WHATEVER THE INPUT: true; the input reads as it did. -/
def extsortPassesSpec : ChangeSpec := { name := "extsortPasses", fn := fun _ => fun
  | [d1, d2, d3] => { results := [.lit (.bool true)], args := [d1, d2, d3] }
  | _ => none }
def extsortPassesRow : OpenClaim := { program := "ytgfdmhjjlajmgaagreatdoor", sum := "742d99b7f5be5406307ebb26f79e699baf98915726231c76be589e8d822d9253", func := "cartage/cartagelaw10.ExtsortPasses", spec := "extsortPasses", inPlace := ["sync/atomic.AddInt64", "sync/atomic.SwapUint32", "sync/atomic.LoadUint32", "math/bits.Add64"], unfollowed := true, recurses := true, named := ["internal/strconv.uint64pow10", "math/bits.deBruijn32tab", "math/bits.deBruijn64tab"], apart := false, laid := [("math/bits.deBruijn32tab", laid_math_bits_deBruijn32tab), ("math/bits.deBruijn64tab", laid_math_bits_deBruijn64tab), ("internal/strconv.uint64pow10", laid_internal_strconv_uint64pow10)] }
def ExtsortPassesSaid : Prop := extsortPassesRow.holds Tryz.pinned (OpenSpec.ofChange extsortPassesSpec)

/-- ITS FALSE NEIGHBOUR: 'it returns false'. Refute it at one input. -/
def extsortPassesWrong : ChangeSpec := { name := "extsortPasses", fn := fun _ => fun
  | [d1, d2, d3] => { results := [.lit (.bool false)], args := [d1, d2, d3] }
  | _ => none }
def ExtsortPassesWrongFalsely : Prop := extsortPassesRow.holds Tryz.pinned (OpenSpec.ofChange extsortPassesWrong)

/-- 'cartagelaw10.ExtsortOut': WHATEVER THE INPUT: true; the input reads as it did. -/
def extsortOutSpec : ChangeSpec := { name := "extsortOut", fn := fun _ => fun
  | [d1, d2] => { results := [.lit (.bool true)], args := [d1, d2] }
  | _ => none }
def extsortOutRow : OpenClaim := { program := "ytgfdmhjjlajmgaagreatdoor", sum := "742d99b7f5be5406307ebb26f79e699baf98915726231c76be589e8d822d9253", func := "cartage/cartagelaw10.ExtsortOut", spec := "extsortOut", inPlace := ["sync/atomic.AddInt64", "sync/atomic.SwapUint32", "sync/atomic.LoadUint32", "math/bits.Add64"], unfollowed := true, recurses := true, named := ["internal/strconv.uint64pow10", "math/bits.deBruijn32tab", "math/bits.deBruijn64tab"], apart := false, laid := [("math/bits.deBruijn32tab", laid_math_bits_deBruijn32tab), ("math/bits.deBruijn64tab", laid_math_bits_deBruijn64tab), ("internal/strconv.uint64pow10", laid_internal_strconv_uint64pow10)] }
def ExtsortOutSaid : Prop := extsortOutRow.holds Tryz.pinned (OpenSpec.ofChange extsortOutSpec)

/-- ITS FALSE NEIGHBOUR: 'it returns false'. Refute it at one input. -/
def extsortOutWrong : ChangeSpec := { name := "extsortOut", fn := fun _ => fun
  | [d1, d2] => { results := [.lit (.bool false)], args := [d1, d2] }
  | _ => none }
def ExtsortOutWrongFalsely : Prop := extsortOutRow.holds Tryz.pinned (OpenSpec.ofChange extsortOutWrong)

/-- 'cartagelaw10.ExtsortSame': WHATEVER THE INPUT: true; the input reads as it did. -/
def extsortSameSpec : ChangeSpec := { name := "extsortSame", fn := fun _ => fun
  | [d1, d2, d3, d4] => { results := [.lit (.bool true)], args := [d1, d2, d3, d4] }
  | _ => none }
def extsortSameRow : OpenClaim := { program := "ytgfdmhjjlajmgaagreatdoor", sum := "742d99b7f5be5406307ebb26f79e699baf98915726231c76be589e8d822d9253", func := "cartage/cartagelaw10.ExtsortSame", spec := "extsortSame", inPlace := ["sync/atomic.AddInt64", "sync/atomic.SwapUint32", "sync/atomic.LoadUint32", "math/bits.Add64"], unfollowed := true, recurses := true, named := ["internal/strconv.uint64pow10", "math/bits.deBruijn32tab", "math/bits.deBruijn64tab"], apart := false, laid := [("math/bits.deBruijn32tab", laid_math_bits_deBruijn32tab), ("math/bits.deBruijn64tab", laid_math_bits_deBruijn64tab), ("internal/strconv.uint64pow10", laid_internal_strconv_uint64pow10)] }
def ExtsortSameSaid : Prop := extsortSameRow.holds Tryz.pinned (OpenSpec.ofChange extsortSameSpec)

/-- ITS FALSE NEIGHBOUR: 'it returns false'. Refute it at one input. -/
def extsortSameWrong : ChangeSpec := { name := "extsortSame", fn := fun _ => fun
  | [d1, d2, d3, d4] => { results := [.lit (.bool false)], args := [d1, d2, d3, d4] }
  | _ => none }
def ExtsortSameWrongFalsely : Prop := extsortSameRow.holds Tryz.pinned (OpenSpec.ofChange extsortSameWrong)

/-- 'cartagelaw10.ExtsortBytes': WHATEVER THE INPUT: true; the input reads as it did. -/
def extsortBytesSpec : ChangeSpec := { name := "extsortBytes", fn := fun _ => fun
  | [d] => { results := [.lit (.bool true)], args := [d] }
  | _ => none }
def extsortBytesRow : OpenClaim := { program := "ytgfdmhjjlajmgaagreatdoor", sum := "742d99b7f5be5406307ebb26f79e699baf98915726231c76be589e8d822d9253", func := "cartage/cartagelaw10.ExtsortBytes", spec := "extsortBytes", inPlace := ["sync/atomic.AddInt64", "sync/atomic.SwapUint32", "sync/atomic.LoadUint32", "math/bits.Add64"], unfollowed := true, recurses := true, named := ["internal/strconv.uint64pow10", "math/bits.deBruijn32tab", "math/bits.deBruijn64tab"], apart := false, laid := [("math/bits.deBruijn32tab", laid_math_bits_deBruijn32tab), ("math/bits.deBruijn64tab", laid_math_bits_deBruijn64tab), ("internal/strconv.uint64pow10", laid_internal_strconv_uint64pow10)] }
def ExtsortBytesSaid : Prop := extsortBytesRow.holds Tryz.pinned (OpenSpec.ofChange extsortBytesSpec)

/-- ITS FALSE NEIGHBOUR: 'it returns false'. Refute it at one input. -/
def extsortBytesWrong : ChangeSpec := { name := "extsortBytes", fn := fun _ => fun
  | [d] => { results := [.lit (.bool false)], args := [d] }
  | _ => none }
def ExtsortBytesWrongFalsely : Prop := extsortBytesRow.holds Tryz.pinned (OpenSpec.ofChange extsortBytesWrong)

/-- 'cartagelaw10.ExtsortSpace': WHATEVER THE INPUT: true; the input reads as it did. -/
def extsortSpaceSpec : ChangeSpec := { name := "extsortSpace", fn := fun _ => fun
  | [d1, d2, d3] => { results := [.lit (.bool true)], args := [d1, d2, d3] }
  | _ => none }
def extsortSpaceRow : OpenClaim := { program := "ytgfdmhjjlajmgaagreatdoor", sum := "742d99b7f5be5406307ebb26f79e699baf98915726231c76be589e8d822d9253", func := "cartage/cartagelaw10.ExtsortSpace", spec := "extsortSpace", inPlace := ["sync/atomic.AddInt64", "sync/atomic.SwapUint32", "sync/atomic.LoadUint32", "math/bits.Add64"], unfollowed := true, recurses := true, named := ["internal/strconv.uint64pow10", "math/bits.deBruijn32tab", "math/bits.deBruijn64tab"], apart := false, laid := [("math/bits.deBruijn32tab", laid_math_bits_deBruijn32tab), ("math/bits.deBruijn64tab", laid_math_bits_deBruijn64tab), ("internal/strconv.uint64pow10", laid_internal_strconv_uint64pow10)] }
def ExtsortSpaceSaid : Prop := extsortSpaceRow.holds Tryz.pinned (OpenSpec.ofChange extsortSpaceSpec)

/-- ITS FALSE NEIGHBOUR: 'it returns false'. Refute it at one input. -/
def extsortSpaceWrong : ChangeSpec := { name := "extsortSpace", fn := fun _ => fun
  | [d1, d2, d3] => { results := [.lit (.bool false)], args := [d1, d2, d3] }
  | _ => none }
def ExtsortSpaceWrongFalsely : Prop := extsortSpaceRow.holds Tryz.pinned (OpenSpec.ofChange extsortSpaceWrong)

/-- 'cartagelaw10.ExtsortDown': WHATEVER THE INPUT: true; the input reads as it did. -/
def extsortDownSpec : ChangeSpec := { name := "extsortDown", fn := fun _ => fun
  | [d1, d2, d3] => { results := [.lit (.bool true)], args := [d1, d2, d3] }
  | _ => none }
def extsortDownRow : OpenClaim := { program := "ytgfdmhjjlajmgaagreatdoor", sum := "742d99b7f5be5406307ebb26f79e699baf98915726231c76be589e8d822d9253", func := "cartage/cartagelaw10.ExtsortDown", spec := "extsortDown", inPlace := ["sync/atomic.AddInt64", "sync/atomic.SwapUint32", "sync/atomic.LoadUint32", "math/bits.Add64", "sync/atomic.StoreUint32"], unfollowed := true, recurses := true, named := ["internal/strconv.uint64pow10", "math/bits.deBruijn32tab", "math/bits.deBruijn64tab"], apart := false, laid := [("math/bits.deBruijn32tab", laid_math_bits_deBruijn32tab), ("math/bits.deBruijn64tab", laid_math_bits_deBruijn64tab), ("internal/strconv.uint64pow10", laid_internal_strconv_uint64pow10)] }
def ExtsortDownSaid : Prop := extsortDownRow.holds Tryz.pinned (OpenSpec.ofChange extsortDownSpec)

/-- ITS FALSE NEIGHBOUR: 'it returns false'. Refute it at one input. -/
def extsortDownWrong : ChangeSpec := { name := "extsortDown", fn := fun _ => fun
  | [d1, d2, d3] => { results := [.lit (.bool false)], args := [d1, d2, d3] }
  | _ => none }
def ExtsortDownWrongFalsely : Prop := extsortDownRow.holds Tryz.pinned (OpenSpec.ofChange extsortDownWrong)

/- THE SECOND FORM. 'bulk': how many values and letters a reading holds, each counted each time it is reached (what is shared counts as often as it is met; a slice's spare places count too). A statement '..UptoSaid' is the law's where the arguments, and the package variables that the reading takes, are together of bulk at most 1048576: NARROWER than '..Said'. Prove '..Said' where nothing that the law and all that it calls make is longer than what came in: it says more and counts as full. Else prove '..UptoSaid'. A law counts once. -/
mutual
def uptoBulk {H : Type} : DataW H → Nat
  | .lit (.string bytes) => bytes.length + 1
  | .lit _ => 1
  | .nil => 1
  | .ptr d => uptoBulk d + 1
  | .slice elems spare => uptoBulkAll elems + uptoBulkAll spare + 1
  | .agg parts => uptoBulkAll parts + 1
  | .iface _ d => uptoBulk d + 1
  | .map entries => uptoBulkEntries entries + 1
  | .held _ => 1
def uptoBulkAll {H : Type} : List (DataW H) → Nat
  | [] => 0
  | d :: r => uptoBulk d + uptoBulkAll r
def uptoBulkEntries {H : Type} : List (Lit × DataW H) → Nat
  | [] => 0
  | x :: r => uptoBulkEntry x + uptoBulkEntries r
def uptoBulkEntry {H : Type} : Lit × DataW H → Nat
  | (.string bytes, d) => bytes.length + uptoBulk d + 1
  | (_, d) => uptoBulk d + 1
 end
def uptoSmall : (H : Type) → List (DataW H) → Bool := fun _ ds => decide (uptoBulkAll ds ≤ 1048576)
def OpenSpec.upto (s : _root_.Go.ChangeSpec) : _root_.Go.OpenSpec := { _root_.Go.OpenSpec.ofChange s with cond := some uptoSmall }

/-- 'cartagelaw10.ExtsortTells', WHERE WHAT IT READS IS OF BULK AT MOST 1048576: true; the input reads as it did. -/
def extsortTellsUptoRow : OpenClaim := { program := "ytgfdmhjjlajmgaagreatdoor", sum := "742d99b7f5be5406307ebb26f79e699baf98915726231c76be589e8d822d9253", func := "cartage/cartagelaw10.ExtsortTells", spec := "extsortTells", inPlace := ["sync/atomic.AddInt64", "sync/atomic.SwapUint32", "sync/atomic.LoadUint32", "math/bits.Add64"], unfollowed := true, recurses := true, named := ["internal/strconv.uint64pow10", "math/bits.deBruijn32tab", "math/bits.deBruijn64tab"], apart := false, laid := [("math/bits.deBruijn32tab", laid_math_bits_deBruijn32tab), ("math/bits.deBruijn64tab", laid_math_bits_deBruijn64tab), ("internal/strconv.uint64pow10", laid_internal_strconv_uint64pow10)], narrowed := true }
def ExtsortTellsUptoSaid : Prop := extsortTellsUptoRow.holds Tryz.pinned (OpenSpec.upto extsortTellsSpec)

/-- 'cartagelaw10.ExtsortPasses', WHERE WHAT IT READS IS OF BULK AT MOST 1048576: true; the input reads as it did. -/
def extsortPassesUptoRow : OpenClaim := { program := "ytgfdmhjjlajmgaagreatdoor", sum := "742d99b7f5be5406307ebb26f79e699baf98915726231c76be589e8d822d9253", func := "cartage/cartagelaw10.ExtsortPasses", spec := "extsortPasses", inPlace := ["sync/atomic.AddInt64", "sync/atomic.SwapUint32", "sync/atomic.LoadUint32", "math/bits.Add64"], unfollowed := true, recurses := true, named := ["internal/strconv.uint64pow10", "math/bits.deBruijn32tab", "math/bits.deBruijn64tab"], apart := false, laid := [("math/bits.deBruijn32tab", laid_math_bits_deBruijn32tab), ("math/bits.deBruijn64tab", laid_math_bits_deBruijn64tab), ("internal/strconv.uint64pow10", laid_internal_strconv_uint64pow10)], narrowed := true }
def ExtsortPassesUptoSaid : Prop := extsortPassesUptoRow.holds Tryz.pinned (OpenSpec.upto extsortPassesSpec)

/-- 'cartagelaw10.ExtsortOut', WHERE WHAT IT READS IS OF BULK AT MOST 1048576: true; the input reads as it did. -/
def extsortOutUptoRow : OpenClaim := { program := "ytgfdmhjjlajmgaagreatdoor", sum := "742d99b7f5be5406307ebb26f79e699baf98915726231c76be589e8d822d9253", func := "cartage/cartagelaw10.ExtsortOut", spec := "extsortOut", inPlace := ["sync/atomic.AddInt64", "sync/atomic.SwapUint32", "sync/atomic.LoadUint32", "math/bits.Add64"], unfollowed := true, recurses := true, named := ["internal/strconv.uint64pow10", "math/bits.deBruijn32tab", "math/bits.deBruijn64tab"], apart := false, laid := [("math/bits.deBruijn32tab", laid_math_bits_deBruijn32tab), ("math/bits.deBruijn64tab", laid_math_bits_deBruijn64tab), ("internal/strconv.uint64pow10", laid_internal_strconv_uint64pow10)], narrowed := true }
def ExtsortOutUptoSaid : Prop := extsortOutUptoRow.holds Tryz.pinned (OpenSpec.upto extsortOutSpec)

/-- 'cartagelaw10.ExtsortSame', WHERE WHAT IT READS IS OF BULK AT MOST 1048576: true; the input reads as it did. -/
def extsortSameUptoRow : OpenClaim := { program := "ytgfdmhjjlajmgaagreatdoor", sum := "742d99b7f5be5406307ebb26f79e699baf98915726231c76be589e8d822d9253", func := "cartage/cartagelaw10.ExtsortSame", spec := "extsortSame", inPlace := ["sync/atomic.AddInt64", "sync/atomic.SwapUint32", "sync/atomic.LoadUint32", "math/bits.Add64"], unfollowed := true, recurses := true, named := ["internal/strconv.uint64pow10", "math/bits.deBruijn32tab", "math/bits.deBruijn64tab"], apart := false, laid := [("math/bits.deBruijn32tab", laid_math_bits_deBruijn32tab), ("math/bits.deBruijn64tab", laid_math_bits_deBruijn64tab), ("internal/strconv.uint64pow10", laid_internal_strconv_uint64pow10)], narrowed := true }
def ExtsortSameUptoSaid : Prop := extsortSameUptoRow.holds Tryz.pinned (OpenSpec.upto extsortSameSpec)

/-- 'cartagelaw10.ExtsortBytes', WHERE WHAT IT READS IS OF BULK AT MOST 1048576: true; the input reads as it did. -/
def extsortBytesUptoRow : OpenClaim := { program := "ytgfdmhjjlajmgaagreatdoor", sum := "742d99b7f5be5406307ebb26f79e699baf98915726231c76be589e8d822d9253", func := "cartage/cartagelaw10.ExtsortBytes", spec := "extsortBytes", inPlace := ["sync/atomic.AddInt64", "sync/atomic.SwapUint32", "sync/atomic.LoadUint32", "math/bits.Add64"], unfollowed := true, recurses := true, named := ["internal/strconv.uint64pow10", "math/bits.deBruijn32tab", "math/bits.deBruijn64tab"], apart := false, laid := [("math/bits.deBruijn32tab", laid_math_bits_deBruijn32tab), ("math/bits.deBruijn64tab", laid_math_bits_deBruijn64tab), ("internal/strconv.uint64pow10", laid_internal_strconv_uint64pow10)], narrowed := true }
def ExtsortBytesUptoSaid : Prop := extsortBytesUptoRow.holds Tryz.pinned (OpenSpec.upto extsortBytesSpec)

/-- 'cartagelaw10.ExtsortSpace', WHERE WHAT IT READS IS OF BULK AT MOST 1048576: true; the input reads as it did. -/
def extsortSpaceUptoRow : OpenClaim := { program := "ytgfdmhjjlajmgaagreatdoor", sum := "742d99b7f5be5406307ebb26f79e699baf98915726231c76be589e8d822d9253", func := "cartage/cartagelaw10.ExtsortSpace", spec := "extsortSpace", inPlace := ["sync/atomic.AddInt64", "sync/atomic.SwapUint32", "sync/atomic.LoadUint32", "math/bits.Add64"], unfollowed := true, recurses := true, named := ["internal/strconv.uint64pow10", "math/bits.deBruijn32tab", "math/bits.deBruijn64tab"], apart := false, laid := [("math/bits.deBruijn32tab", laid_math_bits_deBruijn32tab), ("math/bits.deBruijn64tab", laid_math_bits_deBruijn64tab), ("internal/strconv.uint64pow10", laid_internal_strconv_uint64pow10)], narrowed := true }
def ExtsortSpaceUptoSaid : Prop := extsortSpaceUptoRow.holds Tryz.pinned (OpenSpec.upto extsortSpaceSpec)

/-- 'cartagelaw10.ExtsortDown', WHERE WHAT IT READS IS OF BULK AT MOST 1048576: true; the input reads as it did. -/
def extsortDownUptoRow : OpenClaim := { program := "ytgfdmhjjlajmgaagreatdoor", sum := "742d99b7f5be5406307ebb26f79e699baf98915726231c76be589e8d822d9253", func := "cartage/cartagelaw10.ExtsortDown", spec := "extsortDown", inPlace := ["sync/atomic.AddInt64", "sync/atomic.SwapUint32", "sync/atomic.LoadUint32", "math/bits.Add64", "sync/atomic.StoreUint32"], unfollowed := true, recurses := true, named := ["internal/strconv.uint64pow10", "math/bits.deBruijn32tab", "math/bits.deBruijn64tab"], apart := false, laid := [("math/bits.deBruijn32tab", laid_math_bits_deBruijn32tab), ("math/bits.deBruijn64tab", laid_math_bits_deBruijn64tab), ("internal/strconv.uint64pow10", laid_internal_strconv_uint64pow10)], narrowed := true }
def ExtsortDownUptoSaid : Prop := extsortDownUptoRow.holds Tryz.pinned (OpenSpec.upto extsortDownSpec)

end Rows
end Go.Proofs.YtgfdmhjjlajmgaaGreatDoor
