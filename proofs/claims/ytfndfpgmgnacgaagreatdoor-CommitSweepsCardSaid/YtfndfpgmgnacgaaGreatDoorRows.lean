/-
  NARROWER THAN 'FOR EVERY INPUT', by the rows' own cells (each row's printed sentence says how): CommitSweeps: laid · CommitBytes: laid · CommitErrors: laid · CommitSaves: laid · CommitCrash: laid · CommitKeeps: laid.
  DERIVED. THE GIVEN ROWS OF THIS SEAT. 6 by the template 'for every input the law returns true; each argument reads behind the call as it read before'; 0 by the template 'total and deterministic' (their statements: YtfndfpgmgnacgaaGreatDoorTotals.lean).
  GIVEN WITH THE SEED: the statements are not yours to turn. If you find one false, say at which input.
  Laid BY PROGRAM, IN A SANDBOX (cutbox-rows.mjs): the forced cells as the released guide's own fill.sh prints them over the translation 0a4ae7ffb95a4d07… (all of the seat's roots in one cut). By AI agents, Wed Nov 11 2026. No macro, syntax, notation, axiom, sorry.
-/
import Derived.Test.YtfndfpgmgnacgaaGreatDoorChecked
import GoSem.Claim
import GoSem.ClaimJoined
import GoSem.ClaimMapViews
import Derived.JoinedTies
import Derived.KernelRfl
namespace Go.Proofs.YtfndfpgmgnacgaaGreatDoor
/- THE CELL 'sum', in the pinned program and in every row, IS THE sha256 OF THE DUMP (.gsa) THAT YtfndfpgmgnacgaaGreatDoorProg.lean LOADS. Nothing in Lean hashes anything: it is a label: what it is worth is what the hold of that sum in a sandbox is worth. -/
noncomputable def Tryz.pinned : Pinned := { name := "ytfndfpgmgnacgaagreatdoor", sum := "0a4ae7ffb95a4d07b2288613f7500b7b51d16c70f43f304709c0907dc2aaff85", checked := Tryz.checked }
namespace Rows
def none {H : Type} : Left H := { results := [], args := [] }

/- WHAT THE LISTED PACKAGE-LEVEL VARIABLES READ AS WHEN THE CALL BEGINS. Each datum BY PROGRAM (the guide's laid-datum.mjs) off the statement by which the dump's own 'gosem.cut.vars' lays the variable. In a bare row this is a premise. The card (YtfndfpgmgnacgaaGreatDoorCards.lean) ties it to the program's text. -/
def laid_math_bits_deBruijn32tab {H : Type} : DataW H := .agg [.lit (.int .u8 0), .lit (.int .u8 1), .lit (.int .u8 28), .lit (.int .u8 2), .lit (.int .u8 29), .lit (.int .u8 14), .lit (.int .u8 24), .lit (.int .u8 3), .lit (.int .u8 30), .lit (.int .u8 22), .lit (.int .u8 20), .lit (.int .u8 15), .lit (.int .u8 25), .lit (.int .u8 17), .lit (.int .u8 4), .lit (.int .u8 8), .lit (.int .u8 31), .lit (.int .u8 27), .lit (.int .u8 13), .lit (.int .u8 23), .lit (.int .u8 21), .lit (.int .u8 19), .lit (.int .u8 16), .lit (.int .u8 7), .lit (.int .u8 26), .lit (.int .u8 12), .lit (.int .u8 18), .lit (.int .u8 6), .lit (.int .u8 11), .lit (.int .u8 5), .lit (.int .u8 10), .lit (.int .u8 9)]
def laid_math_bits_deBruijn64tab {H : Type} : DataW H := .agg [.lit (.int .u8 0), .lit (.int .u8 1), .lit (.int .u8 56), .lit (.int .u8 2), .lit (.int .u8 57), .lit (.int .u8 49), .lit (.int .u8 28), .lit (.int .u8 3), .lit (.int .u8 61), .lit (.int .u8 58), .lit (.int .u8 42), .lit (.int .u8 50), .lit (.int .u8 38), .lit (.int .u8 29), .lit (.int .u8 17), .lit (.int .u8 4), .lit (.int .u8 62), .lit (.int .u8 47), .lit (.int .u8 59), .lit (.int .u8 36), .lit (.int .u8 45), .lit (.int .u8 43), .lit (.int .u8 51), .lit (.int .u8 22), .lit (.int .u8 53), .lit (.int .u8 39), .lit (.int .u8 33), .lit (.int .u8 30), .lit (.int .u8 24), .lit (.int .u8 18), .lit (.int .u8 12), .lit (.int .u8 5), .lit (.int .u8 63), .lit (.int .u8 55), .lit (.int .u8 48), .lit (.int .u8 27), .lit (.int .u8 60), .lit (.int .u8 41), .lit (.int .u8 37), .lit (.int .u8 16), .lit (.int .u8 46), .lit (.int .u8 35), .lit (.int .u8 44), .lit (.int .u8 21), .lit (.int .u8 52), .lit (.int .u8 32), .lit (.int .u8 23), .lit (.int .u8 11), .lit (.int .u8 54), .lit (.int .u8 26), .lit (.int .u8 40), .lit (.int .u8 15), .lit (.int .u8 34), .lit (.int .u8 20), .lit (.int .u8 31), .lit (.int .u8 10), .lit (.int .u8 25), .lit (.int .u8 14), .lit (.int .u8 19), .lit (.int .u8 9), .lit (.int .u8 13), .lit (.int .u8 8), .lit (.int .u8 7), .lit (.int .u8 6)]
def laid_internal_strconv_uint64pow10 {H : Type} : DataW H := .agg [.lit (.int .u64 1), .lit (.int .u64 10), .lit (.int .u64 100), .lit (.int .u64 1000), .lit (.int .u64 10000), .lit (.int .u64 100000), .lit (.int .u64 1000000), .lit (.int .u64 10000000), .lit (.int .u64 100000000), .lit (.int .u64 1000000000), .lit (.int .u64 10000000000), .lit (.int .u64 100000000000), .lit (.int .u64 1000000000000), .lit (.int .u64 10000000000000), .lit (.int .u64 100000000000000), .lit (.int .u64 1000000000000000), .lit (.int .u64 10000000000000000), .lit (.int .u64 100000000000000000), .lit (.int .u64 1000000000000000000), .lit (.int .u64 10000000000000000000)]
def laid_strconv_ErrRange {H : Type} : DataW H := .iface "*errors.errorString" (.ptr (.agg [.lit (.string [118, 97, 108, 117, 101, 32, 111, 117, 116, 32, 111, 102, 32, 114, 97, 110, 103, 101])]))
def laid_strconv_ErrSyntax {H : Type} : DataW H := .iface "*errors.errorString" (.ptr (.agg [.lit (.string [105, 110, 118, 97, 108, 105, 100, 32, 115, 121, 110, 116, 97, 120])]))

/-- 'cartagelaw17.CommitSweeps': WHATEVER THE INPUT: true; the input reads as it did. -/
def commitSweepsSpec : ChangeSpec := { name := "commitSweeps", fn := fun _ => fun
  | [d1, d2, d3] => { results := [.lit (.bool true)], args := [d1, d2, d3] }
  | _ => none }
def commitSweepsRow : OpenClaim := { program := "ytfndfpgmgnacgaagreatdoor", sum := "0a4ae7ffb95a4d07b2288613f7500b7b51d16c70f43f304709c0907dc2aaff85", func := "cartage/cartagelaw17.CommitSweeps", spec := "commitSweeps", inPlace := ["sync/atomic.AddInt64", "sync/atomic.SwapUint32", "sync/atomic.LoadUint32"], unfollowed := true, recurses := true, named := ["internal/strconv.uint64pow10", "math/bits.deBruijn32tab", "math/bits.deBruijn64tab", "strconv.ErrSyntax", "strconv.ErrRange"], apart := false, laid := [("math/bits.deBruijn32tab", laid_math_bits_deBruijn32tab), ("math/bits.deBruijn64tab", laid_math_bits_deBruijn64tab), ("internal/strconv.uint64pow10", laid_internal_strconv_uint64pow10), ("strconv.ErrRange", laid_strconv_ErrRange), ("strconv.ErrSyntax", laid_strconv_ErrSyntax)] }
def CommitSweepsSaid : Prop := commitSweepsRow.holds Tryz.pinned (OpenSpec.ofChange commitSweepsSpec)

/-- ITS FALSE NEIGHBOUR: 'it returns false'. Refute it at one input. -/
def commitSweepsWrong : ChangeSpec := { name := "commitSweeps", fn := fun _ => fun
  | [d1, d2, d3] => { results := [.lit (.bool false)], args := [d1, d2, d3] }
  | _ => none }
def CommitSweepsWrongFalsely : Prop := commitSweepsRow.holds Tryz.pinned (OpenSpec.ofChange commitSweepsWrong)

/-- 'cartagelaw17.CommitBytes': WHATEVER THE INPUT: true; the input reads as it did. -/
def commitBytesSpec : ChangeSpec := { name := "commitBytes", fn := fun _ => fun
  | [d1, d2] => { results := [.lit (.bool true)], args := [d1, d2] }
  | _ => none }
def commitBytesRow : OpenClaim := { program := "ytfndfpgmgnacgaagreatdoor", sum := "0a4ae7ffb95a4d07b2288613f7500b7b51d16c70f43f304709c0907dc2aaff85", func := "cartage/cartagelaw17.CommitBytes", spec := "commitBytes", inPlace := ["sync/atomic.AddInt64", "sync/atomic.SwapUint32", "sync/atomic.LoadUint32"], unfollowed := true, recurses := true, named := ["internal/strconv.uint64pow10", "math/bits.deBruijn32tab", "math/bits.deBruijn64tab", "strconv.ErrSyntax", "strconv.ErrRange"], apart := false, laid := [("math/bits.deBruijn32tab", laid_math_bits_deBruijn32tab), ("math/bits.deBruijn64tab", laid_math_bits_deBruijn64tab), ("internal/strconv.uint64pow10", laid_internal_strconv_uint64pow10), ("strconv.ErrRange", laid_strconv_ErrRange), ("strconv.ErrSyntax", laid_strconv_ErrSyntax)] }
def CommitBytesSaid : Prop := commitBytesRow.holds Tryz.pinned (OpenSpec.ofChange commitBytesSpec)

/-- ITS FALSE NEIGHBOUR: 'it returns false'. Refute it at one input. -/
def commitBytesWrong : ChangeSpec := { name := "commitBytes", fn := fun _ => fun
  | [d1, d2] => { results := [.lit (.bool false)], args := [d1, d2] }
  | _ => none }
def CommitBytesWrongFalsely : Prop := commitBytesRow.holds Tryz.pinned (OpenSpec.ofChange commitBytesWrong)

/-- 'cartagelaw17.CommitErrors': WHATEVER THE INPUT: true; the input reads as it did. -/
def commitErrorsSpec : ChangeSpec := { name := "commitErrors", fn := fun _ => fun
  | [d1, d2, d3] => { results := [.lit (.bool true)], args := [d1, d2, d3] }
  | _ => none }
def commitErrorsRow : OpenClaim := { program := "ytfndfpgmgnacgaagreatdoor", sum := "0a4ae7ffb95a4d07b2288613f7500b7b51d16c70f43f304709c0907dc2aaff85", func := "cartage/cartagelaw17.CommitErrors", spec := "commitErrors", inPlace := ["sync/atomic.AddInt64", "sync/atomic.SwapUint32", "sync/atomic.LoadUint32"], unfollowed := true, recurses := true, named := ["internal/strconv.uint64pow10", "math/bits.deBruijn32tab", "math/bits.deBruijn64tab", "strconv.ErrSyntax", "strconv.ErrRange"], apart := false, laid := [("math/bits.deBruijn32tab", laid_math_bits_deBruijn32tab), ("math/bits.deBruijn64tab", laid_math_bits_deBruijn64tab), ("internal/strconv.uint64pow10", laid_internal_strconv_uint64pow10), ("strconv.ErrRange", laid_strconv_ErrRange), ("strconv.ErrSyntax", laid_strconv_ErrSyntax)] }
def CommitErrorsSaid : Prop := commitErrorsRow.holds Tryz.pinned (OpenSpec.ofChange commitErrorsSpec)

/-- ITS FALSE NEIGHBOUR: 'it returns false'. Refute it at one input. -/
def commitErrorsWrong : ChangeSpec := { name := "commitErrors", fn := fun _ => fun
  | [d1, d2, d3] => { results := [.lit (.bool false)], args := [d1, d2, d3] }
  | _ => none }
def CommitErrorsWrongFalsely : Prop := commitErrorsRow.holds Tryz.pinned (OpenSpec.ofChange commitErrorsWrong)

/-- 'cartagelaw17.CommitSaves': WHATEVER THE INPUT: true; the input reads as it did. -/
def commitSavesSpec : ChangeSpec := { name := "commitSaves", fn := fun _ => fun
  | [d1, d2] => { results := [.lit (.bool true)], args := [d1, d2] }
  | _ => none }
def commitSavesRow : OpenClaim := { program := "ytfndfpgmgnacgaagreatdoor", sum := "0a4ae7ffb95a4d07b2288613f7500b7b51d16c70f43f304709c0907dc2aaff85", func := "cartage/cartagelaw17.CommitSaves", spec := "commitSaves", inPlace := ["sync/atomic.AddInt64", "sync/atomic.SwapUint32", "sync/atomic.LoadUint32", "sync/atomic.StoreUint32"], unfollowed := true, recurses := true, named := ["internal/strconv.uint64pow10", "math/bits.deBruijn32tab", "math/bits.deBruijn64tab", "strconv.ErrSyntax", "strconv.ErrRange"], apart := false, laid := [("math/bits.deBruijn32tab", laid_math_bits_deBruijn32tab), ("math/bits.deBruijn64tab", laid_math_bits_deBruijn64tab), ("internal/strconv.uint64pow10", laid_internal_strconv_uint64pow10), ("strconv.ErrRange", laid_strconv_ErrRange), ("strconv.ErrSyntax", laid_strconv_ErrSyntax)] }
def CommitSavesSaid : Prop := commitSavesRow.holds Tryz.pinned (OpenSpec.ofChange commitSavesSpec)

/-- ITS FALSE NEIGHBOUR: 'it returns false'. Refute it at one input. -/
def commitSavesWrong : ChangeSpec := { name := "commitSaves", fn := fun _ => fun
  | [d1, d2] => { results := [.lit (.bool false)], args := [d1, d2] }
  | _ => none }
def CommitSavesWrongFalsely : Prop := commitSavesRow.holds Tryz.pinned (OpenSpec.ofChange commitSavesWrong)

/-- 'cartagelaw17.CommitCrash': WHATEVER THE INPUT: true; the input reads as it did. -/
def commitCrashSpec : ChangeSpec := { name := "commitCrash", fn := fun _ => fun
  | [d1, d2, d3, d4] => { results := [.lit (.bool true)], args := [d1, d2, d3, d4] }
  | _ => none }
def commitCrashRow : OpenClaim := { program := "ytfndfpgmgnacgaagreatdoor", sum := "0a4ae7ffb95a4d07b2288613f7500b7b51d16c70f43f304709c0907dc2aaff85", func := "cartage/cartagelaw17.CommitCrash", spec := "commitCrash", inPlace := ["sync/atomic.AddInt64", "sync/atomic.SwapUint32", "sync/atomic.LoadUint32", "sync/atomic.StoreUint32"], unfollowed := true, recurses := true, named := ["internal/strconv.uint64pow10", "math/bits.deBruijn32tab", "math/bits.deBruijn64tab", "strconv.ErrSyntax", "strconv.ErrRange"], apart := false, laid := [("math/bits.deBruijn32tab", laid_math_bits_deBruijn32tab), ("math/bits.deBruijn64tab", laid_math_bits_deBruijn64tab), ("internal/strconv.uint64pow10", laid_internal_strconv_uint64pow10), ("strconv.ErrRange", laid_strconv_ErrRange), ("strconv.ErrSyntax", laid_strconv_ErrSyntax)] }
def CommitCrashSaid : Prop := commitCrashRow.holds Tryz.pinned (OpenSpec.ofChange commitCrashSpec)

/-- ITS FALSE NEIGHBOUR: 'it returns false'. Refute it at one input. -/
def commitCrashWrong : ChangeSpec := { name := "commitCrash", fn := fun _ => fun
  | [d1, d2, d3, d4] => { results := [.lit (.bool false)], args := [d1, d2, d3, d4] }
  | _ => none }
def CommitCrashWrongFalsely : Prop := commitCrashRow.holds Tryz.pinned (OpenSpec.ofChange commitCrashWrong)

/-- 'cartagelaw17.CommitKeeps': WHATEVER THE INPUT: true; the input reads as it did. -/
def commitKeepsSpec : ChangeSpec := { name := "commitKeeps", fn := fun _ => fun
  | [d1, d2, d3, d4, d5] => { results := [.lit (.bool true)], args := [d1, d2, d3, d4, d5] }
  | _ => none }
def commitKeepsRow : OpenClaim := { program := "ytfndfpgmgnacgaagreatdoor", sum := "0a4ae7ffb95a4d07b2288613f7500b7b51d16c70f43f304709c0907dc2aaff85", func := "cartage/cartagelaw17.CommitKeeps", spec := "commitKeeps", inPlace := ["sync/atomic.AddInt64", "sync/atomic.SwapUint32", "sync/atomic.LoadUint32", "sync/atomic.StoreUint32"], unfollowed := true, recurses := true, named := ["internal/strconv.uint64pow10", "math/bits.deBruijn32tab", "math/bits.deBruijn64tab", "strconv.ErrSyntax", "strconv.ErrRange"], apart := false, laid := [("math/bits.deBruijn32tab", laid_math_bits_deBruijn32tab), ("math/bits.deBruijn64tab", laid_math_bits_deBruijn64tab), ("internal/strconv.uint64pow10", laid_internal_strconv_uint64pow10), ("strconv.ErrRange", laid_strconv_ErrRange), ("strconv.ErrSyntax", laid_strconv_ErrSyntax)] }
def CommitKeepsSaid : Prop := commitKeepsRow.holds Tryz.pinned (OpenSpec.ofChange commitKeepsSpec)

/-- ITS FALSE NEIGHBOUR: 'it returns false'. Refute it at one input. -/
def commitKeepsWrong : ChangeSpec := { name := "commitKeeps", fn := fun _ => fun
  | [d1, d2, d3, d4, d5] => { results := [.lit (.bool false)], args := [d1, d2, d3, d4, d5] }
  | _ => none }
def CommitKeepsWrongFalsely : Prop := commitKeepsRow.holds Tryz.pinned (OpenSpec.ofChange commitKeepsWrong)

/- THE SECOND FORM. 'bulk': how many values and letters a reading holds, each counted each time it is reached (what is shared counts as often as it is met; a slice's spare places count too). A statement '..UptoSaid' is the law's where the arguments, and the package variables that the reading takes, are together of bulk at most 1048576: NARROWER than '..Said'. Prove '..Said' where nothing that the law and all that it calls make is longer than what came in: it says more and counts as full. Else prove '..UptoSaid'. A law counts once. -/
mutual
def uptoBulk {H : Type} : DataW H → Nat
  | .lit (.string bytes) => bytes.length + 1
  | .lit _ => 1
  | .nil => 1
  | .ptr d => uptoBulk d + 1
  | .slice elems spare => uptoBulkAll elems + uptoBulkAll spare + 1
  | .agg parts => uptoBulkAll parts + 1
  | .iface _ d => uptoBulk d + 1
  | .map entries => uptoBulkEntries entries + 1
  | .held _ => 1
def uptoBulkAll {H : Type} : List (DataW H) → Nat
  | [] => 0
  | d :: r => uptoBulk d + uptoBulkAll r
def uptoBulkEntries {H : Type} : List (Lit × DataW H) → Nat
  | [] => 0
  | x :: r => uptoBulkEntry x + uptoBulkEntries r
def uptoBulkEntry {H : Type} : Lit × DataW H → Nat
  | (.string bytes, d) => bytes.length + uptoBulk d + 1
  | (_, d) => uptoBulk d + 1
 end
def uptoSmall : (H : Type) → List (DataW H) → Bool := fun _ ds => decide (uptoBulkAll ds ≤ 1048576)
def OpenSpec.upto (s : _root_.Go.ChangeSpec) : _root_.Go.OpenSpec := { _root_.Go.OpenSpec.ofChange s with cond := some uptoSmall }

/-- 'cartagelaw17.CommitSweeps', WHERE WHAT IT READS IS OF BULK AT MOST 1048576: true; the input reads as it did. -/
def commitSweepsUptoRow : OpenClaim := { program := "ytfndfpgmgnacgaagreatdoor", sum := "0a4ae7ffb95a4d07b2288613f7500b7b51d16c70f43f304709c0907dc2aaff85", func := "cartage/cartagelaw17.CommitSweeps", spec := "commitSweeps", inPlace := ["sync/atomic.AddInt64", "sync/atomic.SwapUint32", "sync/atomic.LoadUint32"], unfollowed := true, recurses := true, named := ["internal/strconv.uint64pow10", "math/bits.deBruijn32tab", "math/bits.deBruijn64tab", "strconv.ErrSyntax", "strconv.ErrRange"], apart := false, laid := [("math/bits.deBruijn32tab", laid_math_bits_deBruijn32tab), ("math/bits.deBruijn64tab", laid_math_bits_deBruijn64tab), ("internal/strconv.uint64pow10", laid_internal_strconv_uint64pow10), ("strconv.ErrRange", laid_strconv_ErrRange), ("strconv.ErrSyntax", laid_strconv_ErrSyntax)], narrowed := true }
def CommitSweepsUptoSaid : Prop := commitSweepsUptoRow.holds Tryz.pinned (OpenSpec.upto commitSweepsSpec)

/-- 'cartagelaw17.CommitBytes', WHERE WHAT IT READS IS OF BULK AT MOST 1048576: true; the input reads as it did. -/
def commitBytesUptoRow : OpenClaim := { program := "ytfndfpgmgnacgaagreatdoor", sum := "0a4ae7ffb95a4d07b2288613f7500b7b51d16c70f43f304709c0907dc2aaff85", func := "cartage/cartagelaw17.CommitBytes", spec := "commitBytes", inPlace := ["sync/atomic.AddInt64", "sync/atomic.SwapUint32", "sync/atomic.LoadUint32"], unfollowed := true, recurses := true, named := ["internal/strconv.uint64pow10", "math/bits.deBruijn32tab", "math/bits.deBruijn64tab", "strconv.ErrSyntax", "strconv.ErrRange"], apart := false, laid := [("math/bits.deBruijn32tab", laid_math_bits_deBruijn32tab), ("math/bits.deBruijn64tab", laid_math_bits_deBruijn64tab), ("internal/strconv.uint64pow10", laid_internal_strconv_uint64pow10), ("strconv.ErrRange", laid_strconv_ErrRange), ("strconv.ErrSyntax", laid_strconv_ErrSyntax)], narrowed := true }
def CommitBytesUptoSaid : Prop := commitBytesUptoRow.holds Tryz.pinned (OpenSpec.upto commitBytesSpec)

/-- 'cartagelaw17.CommitErrors', WHERE WHAT IT READS IS OF BULK AT MOST 1048576: true; the input reads as it did. -/
def commitErrorsUptoRow : OpenClaim := { program := "ytfndfpgmgnacgaagreatdoor", sum := "0a4ae7ffb95a4d07b2288613f7500b7b51d16c70f43f304709c0907dc2aaff85", func := "cartage/cartagelaw17.CommitErrors", spec := "commitErrors", inPlace := ["sync/atomic.AddInt64", "sync/atomic.SwapUint32", "sync/atomic.LoadUint32"], unfollowed := true, recurses := true, named := ["internal/strconv.uint64pow10", "math/bits.deBruijn32tab", "math/bits.deBruijn64tab", "strconv.ErrSyntax", "strconv.ErrRange"], apart := false, laid := [("math/bits.deBruijn32tab", laid_math_bits_deBruijn32tab), ("math/bits.deBruijn64tab", laid_math_bits_deBruijn64tab), ("internal/strconv.uint64pow10", laid_internal_strconv_uint64pow10), ("strconv.ErrRange", laid_strconv_ErrRange), ("strconv.ErrSyntax", laid_strconv_ErrSyntax)], narrowed := true }
def CommitErrorsUptoSaid : Prop := commitErrorsUptoRow.holds Tryz.pinned (OpenSpec.upto commitErrorsSpec)

/-- 'cartagelaw17.CommitSaves', WHERE WHAT IT READS IS OF BULK AT MOST 1048576: true; the input reads as it did. -/
def commitSavesUptoRow : OpenClaim := { program := "ytfndfpgmgnacgaagreatdoor", sum := "0a4ae7ffb95a4d07b2288613f7500b7b51d16c70f43f304709c0907dc2aaff85", func := "cartage/cartagelaw17.CommitSaves", spec := "commitSaves", inPlace := ["sync/atomic.AddInt64", "sync/atomic.SwapUint32", "sync/atomic.LoadUint32", "sync/atomic.StoreUint32"], unfollowed := true, recurses := true, named := ["internal/strconv.uint64pow10", "math/bits.deBruijn32tab", "math/bits.deBruijn64tab", "strconv.ErrSyntax", "strconv.ErrRange"], apart := false, laid := [("math/bits.deBruijn32tab", laid_math_bits_deBruijn32tab), ("math/bits.deBruijn64tab", laid_math_bits_deBruijn64tab), ("internal/strconv.uint64pow10", laid_internal_strconv_uint64pow10), ("strconv.ErrRange", laid_strconv_ErrRange), ("strconv.ErrSyntax", laid_strconv_ErrSyntax)], narrowed := true }
def CommitSavesUptoSaid : Prop := commitSavesUptoRow.holds Tryz.pinned (OpenSpec.upto commitSavesSpec)

/-- 'cartagelaw17.CommitCrash', WHERE WHAT IT READS IS OF BULK AT MOST 1048576: true; the input reads as it did. -/
def commitCrashUptoRow : OpenClaim := { program := "ytfndfpgmgnacgaagreatdoor", sum := "0a4ae7ffb95a4d07b2288613f7500b7b51d16c70f43f304709c0907dc2aaff85", func := "cartage/cartagelaw17.CommitCrash", spec := "commitCrash", inPlace := ["sync/atomic.AddInt64", "sync/atomic.SwapUint32", "sync/atomic.LoadUint32", "sync/atomic.StoreUint32"], unfollowed := true, recurses := true, named := ["internal/strconv.uint64pow10", "math/bits.deBruijn32tab", "math/bits.deBruijn64tab", "strconv.ErrSyntax", "strconv.ErrRange"], apart := false, laid := [("math/bits.deBruijn32tab", laid_math_bits_deBruijn32tab), ("math/bits.deBruijn64tab", laid_math_bits_deBruijn64tab), ("internal/strconv.uint64pow10", laid_internal_strconv_uint64pow10), ("strconv.ErrRange", laid_strconv_ErrRange), ("strconv.ErrSyntax", laid_strconv_ErrSyntax)], narrowed := true }
def CommitCrashUptoSaid : Prop := commitCrashUptoRow.holds Tryz.pinned (OpenSpec.upto commitCrashSpec)

/-- 'cartagelaw17.CommitKeeps', WHERE WHAT IT READS IS OF BULK AT MOST 1048576: true; the input reads as it did. -/
def commitKeepsUptoRow : OpenClaim := { program := "ytfndfpgmgnacgaagreatdoor", sum := "0a4ae7ffb95a4d07b2288613f7500b7b51d16c70f43f304709c0907dc2aaff85", func := "cartage/cartagelaw17.CommitKeeps", spec := "commitKeeps", inPlace := ["sync/atomic.AddInt64", "sync/atomic.SwapUint32", "sync/atomic.LoadUint32", "sync/atomic.StoreUint32"], unfollowed := true, recurses := true, named := ["internal/strconv.uint64pow10", "math/bits.deBruijn32tab", "math/bits.deBruijn64tab", "strconv.ErrSyntax", "strconv.ErrRange"], apart := false, laid := [("math/bits.deBruijn32tab", laid_math_bits_deBruijn32tab), ("math/bits.deBruijn64tab", laid_math_bits_deBruijn64tab), ("internal/strconv.uint64pow10", laid_internal_strconv_uint64pow10), ("strconv.ErrRange", laid_strconv_ErrRange), ("strconv.ErrSyntax", laid_strconv_ErrSyntax)], narrowed := true }
def CommitKeepsUptoSaid : Prop := commitKeepsUptoRow.holds Tryz.pinned (OpenSpec.upto commitKeepsSpec)

end Rows
end Go.Proofs.YtfndfpgmgnacgaaGreatDoor
