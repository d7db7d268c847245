/-
  NARROWER THAN 'FOR EVERY INPUT', by the rows' own cells (each row's printed sentence says how): ShardAll: laid · ShardNone: laid · ShardBudget: laid · ShardErrors: laid · ShardSpace: laid · ShardTells: laid · ShardDown: laid.
  DERIVED. THE GIVEN ROWS OF THIS SEAT. 7 by the template 'for every input the law returns true; each argument reads behind the call as it read before'; 0 by the template 'total and deterministic' (their statements: YtoffbmhmocfmnaaGreatDoorTotals.lean).
  GIVEN WITH THE SEED: the statements are not yours to turn. If you find one false, say at which input.
  Laid BY PROGRAM, IN A SANDBOX (cutbox-rows.mjs): the forced cells as the released guide's own fill.sh prints them over the translation b21cb98b066a14d6… (all of the seat's roots in one cut). By AI agents, Wed Nov 11 2026. No macro, syntax, notation, axiom, sorry.
-/
import Derived.Test.YtoffbmhmocfmnaaGreatDoorChecked
import GoSem.Claim
import GoSem.ClaimJoined
import GoSem.ClaimMapViews
import Derived.JoinedTies
import Derived.KernelRfl
namespace Go.Proofs.YtoffbmhmocfmnaaGreatDoor
/- THE CELL 'sum', in the pinned program and in every row, IS THE sha256 OF THE DUMP (.gsa) THAT YtoffbmhmocfmnaaGreatDoorProg.lean LOADS. Nothing in Lean hashes anything: it is a label: what it is worth is what the hold of that sum in a sandbox is worth. -/
noncomputable def Tryz.pinned : Pinned := { name := "ytoffbmhmocfmnaagreatdoor", sum := "b21cb98b066a14d607a60a2503bf06f845e205ef18489332f727155b46e8b3da", checked := Tryz.checked }
namespace Rows
def none {H : Type} : Left H := { results := [], args := [] }

/- WHAT THE LISTED PACKAGE-LEVEL VARIABLES READ AS WHEN THE CALL BEGINS. Each datum BY PROGRAM (the guide's laid-datum.mjs) off the statement by which the dump's own 'gosem.cut.vars' lays the variable. In a bare row this is a premise. The card (YtoffbmhmocfmnaaGreatDoorCards.lean) ties it to the program's text. -/
def laid_math_bits_deBruijn32tab {H : Type} : DataW H := .agg [.lit (.int .u8 0), .lit (.int .u8 1), .lit (.int .u8 28), .lit (.int .u8 2), .lit (.int .u8 29), .lit (.int .u8 14), .lit (.int .u8 24), .lit (.int .u8 3), .lit (.int .u8 30), .lit (.int .u8 22), .lit (.int .u8 20), .lit (.int .u8 15), .lit (.int .u8 25), .lit (.int .u8 17), .lit (.int .u8 4), .lit (.int .u8 8), .lit (.int .u8 31), .lit (.int .u8 27), .lit (.int .u8 13), .lit (.int .u8 23), .lit (.int .u8 21), .lit (.int .u8 19), .lit (.int .u8 16), .lit (.int .u8 7), .lit (.int .u8 26), .lit (.int .u8 12), .lit (.int .u8 18), .lit (.int .u8 6), .lit (.int .u8 11), .lit (.int .u8 5), .lit (.int .u8 10), .lit (.int .u8 9)]
def laid_math_bits_deBruijn64tab {H : Type} : DataW H := .agg [.lit (.int .u8 0), .lit (.int .u8 1), .lit (.int .u8 56), .lit (.int .u8 2), .lit (.int .u8 57), .lit (.int .u8 49), .lit (.int .u8 28), .lit (.int .u8 3), .lit (.int .u8 61), .lit (.int .u8 58), .lit (.int .u8 42), .lit (.int .u8 50), .lit (.int .u8 38), .lit (.int .u8 29), .lit (.int .u8 17), .lit (.int .u8 4), .lit (.int .u8 62), .lit (.int .u8 47), .lit (.int .u8 59), .lit (.int .u8 36), .lit (.int .u8 45), .lit (.int .u8 43), .lit (.int .u8 51), .lit (.int .u8 22), .lit (.int .u8 53), .lit (.int .u8 39), .lit (.int .u8 33), .lit (.int .u8 30), .lit (.int .u8 24), .lit (.int .u8 18), .lit (.int .u8 12), .lit (.int .u8 5), .lit (.int .u8 63), .lit (.int .u8 55), .lit (.int .u8 48), .lit (.int .u8 27), .lit (.int .u8 60), .lit (.int .u8 41), .lit (.int .u8 37), .lit (.int .u8 16), .lit (.int .u8 46), .lit (.int .u8 35), .lit (.int .u8 44), .lit (.int .u8 21), .lit (.int .u8 52), .lit (.int .u8 32), .lit (.int .u8 23), .lit (.int .u8 11), .lit (.int .u8 54), .lit (.int .u8 26), .lit (.int .u8 40), .lit (.int .u8 15), .lit (.int .u8 34), .lit (.int .u8 20), .lit (.int .u8 31), .lit (.int .u8 10), .lit (.int .u8 25), .lit (.int .u8 14), .lit (.int .u8 19), .lit (.int .u8 9), .lit (.int .u8 13), .lit (.int .u8 8), .lit (.int .u8 7), .lit (.int .u8 6)]
def laid_internal_strconv_uint64pow10 {H : Type} : DataW H := .agg [.lit (.int .u64 1), .lit (.int .u64 10), .lit (.int .u64 100), .lit (.int .u64 1000), .lit (.int .u64 10000), .lit (.int .u64 100000), .lit (.int .u64 1000000), .lit (.int .u64 10000000), .lit (.int .u64 100000000), .lit (.int .u64 1000000000), .lit (.int .u64 10000000000), .lit (.int .u64 100000000000), .lit (.int .u64 1000000000000), .lit (.int .u64 10000000000000), .lit (.int .u64 100000000000000), .lit (.int .u64 1000000000000000), .lit (.int .u64 10000000000000000), .lit (.int .u64 100000000000000000), .lit (.int .u64 1000000000000000000), .lit (.int .u64 10000000000000000000)]

/-- 'cartagelaw12.ShardAll': WHATEVER THE INPUT: true; the input reads as it did. -/
def shardAllSpec : ChangeSpec := { name := "shardAll", fn := fun _ => fun
  | [d1, d2] => { results := [.lit (.bool true)], args := [d1, d2] }
  | _ => none }
def shardAllRow : OpenClaim := { program := "ytoffbmhmocfmnaagreatdoor", sum := "b21cb98b066a14d607a60a2503bf06f845e205ef18489332f727155b46e8b3da", func := "cartage/cartagelaw12.ShardAll", spec := "shardAll", inPlace := ["sync/atomic.AddInt64", "sync/atomic.SwapUint32", "sync/atomic.LoadUint32", "math/bits.Add64"], unfollowed := true, recurses := true, named := ["internal/strconv.uint64pow10", "math/bits.deBruijn32tab", "math/bits.deBruijn64tab"], apart := false, laid := [("math/bits.deBruijn32tab", laid_math_bits_deBruijn32tab), ("math/bits.deBruijn64tab", laid_math_bits_deBruijn64tab), ("internal/strconv.uint64pow10", laid_internal_strconv_uint64pow10)] }
def ShardAllSaid : Prop := shardAllRow.holds Tryz.pinned (OpenSpec.ofChange shardAllSpec)

/-- ITS FALSE NEIGHBOUR: 'it returns false'. Refute it at one input. -/
def shardAllWrong : ChangeSpec := { name := "shardAll", fn := fun _ => fun
  | [d1, d2] => { results := [.lit (.bool false)], args := [d1, d2] }
  | _ => none }
def ShardAllWrongFalsely : Prop := shardAllRow.holds Tryz.pinned (OpenSpec.ofChange shardAllWrong)

/-- 'cartagelaw12.ShardNone': WHATEVER THE INPUT: true; the input reads as it did. -/
def shardNoneSpec : ChangeSpec := { name := "shardNone", fn := fun _ => fun
  | [d1, d2] => { results := [.lit (.bool true)], args := [d1, d2] }
  | _ => none }
def shardNoneRow : OpenClaim := { program := "ytoffbmhmocfmnaagreatdoor", sum := "b21cb98b066a14d607a60a2503bf06f845e205ef18489332f727155b46e8b3da", func := "cartage/cartagelaw12.ShardNone", spec := "shardNone", inPlace := ["sync/atomic.AddInt64", "sync/atomic.SwapUint32", "sync/atomic.LoadUint32", "math/bits.Add64"], unfollowed := true, recurses := true, named := ["internal/strconv.uint64pow10", "math/bits.deBruijn32tab", "math/bits.deBruijn64tab"], apart := false, laid := [("math/bits.deBruijn32tab", laid_math_bits_deBruijn32tab), ("math/bits.deBruijn64tab", laid_math_bits_deBruijn64tab), ("internal/strconv.uint64pow10", laid_internal_strconv_uint64pow10)] }
def ShardNoneSaid : Prop := shardNoneRow.holds Tryz.pinned (OpenSpec.ofChange shardNoneSpec)

/-- ITS FALSE NEIGHBOUR: 'it returns false'. Refute it at one input. -/
def shardNoneWrong : ChangeSpec := { name := "shardNone", fn := fun _ => fun
  | [d1, d2] => { results := [.lit (.bool false)], args := [d1, d2] }
  | _ => none }
def ShardNoneWrongFalsely : Prop := shardNoneRow.holds Tryz.pinned (OpenSpec.ofChange shardNoneWrong)

/-- 'cartagelaw12.ShardBudget': WHATEVER THE INPUT: true; the input reads as it did. -/
def shardBudgetSpec : ChangeSpec := { name := "shardBudget", fn := fun _ => fun
  | [d1, d2, d3, d4] => { results := [.lit (.bool true)], args := [d1, d2, d3, d4] }
  | _ => none }
def shardBudgetRow : OpenClaim := { program := "ytoffbmhmocfmnaagreatdoor", sum := "b21cb98b066a14d607a60a2503bf06f845e205ef18489332f727155b46e8b3da", func := "cartage/cartagelaw12.ShardBudget", spec := "shardBudget", inPlace := ["sync/atomic.AddInt64", "sync/atomic.SwapUint32", "sync/atomic.LoadUint32", "math/bits.Add64"], unfollowed := true, recurses := true, named := ["internal/strconv.uint64pow10", "math/bits.deBruijn32tab", "math/bits.deBruijn64tab"], apart := false, laid := [("math/bits.deBruijn32tab", laid_math_bits_deBruijn32tab), ("math/bits.deBruijn64tab", laid_math_bits_deBruijn64tab), ("internal/strconv.uint64pow10", laid_internal_strconv_uint64pow10)] }
def ShardBudgetSaid : Prop := shardBudgetRow.holds Tryz.pinned (OpenSpec.ofChange shardBudgetSpec)

/-- ITS FALSE NEIGHBOUR: 'it returns false'. Refute it at one input. -/
def shardBudgetWrong : ChangeSpec := { name := "shardBudget", fn := fun _ => fun
  | [d1, d2, d3, d4] => { results := [.lit (.bool false)], args := [d1, d2, d3, d4] }
  | _ => none }
def ShardBudgetWrongFalsely : Prop := shardBudgetRow.holds Tryz.pinned (OpenSpec.ofChange shardBudgetWrong)

/-- 'cartagelaw12.ShardErrors': WHATEVER THE INPUT: true; the input reads as it did. -/
def shardErrorsSpec : ChangeSpec := { name := "shardErrors", fn := fun _ => fun
  | [d1, d2, d3, d4] => { results := [.lit (.bool true)], args := [d1, d2, d3, d4] }
  | _ => none }
def shardErrorsRow : OpenClaim := { program := "ytoffbmhmocfmnaagreatdoor", sum := "b21cb98b066a14d607a60a2503bf06f845e205ef18489332f727155b46e8b3da", func := "cartage/cartagelaw12.ShardErrors", spec := "shardErrors", inPlace := ["sync/atomic.AddInt64", "sync/atomic.SwapUint32", "sync/atomic.LoadUint32", "math/bits.Add64"], unfollowed := true, recurses := true, named := ["internal/strconv.uint64pow10", "math/bits.deBruijn32tab", "math/bits.deBruijn64tab"], apart := false, laid := [("math/bits.deBruijn32tab", laid_math_bits_deBruijn32tab), ("math/bits.deBruijn64tab", laid_math_bits_deBruijn64tab), ("internal/strconv.uint64pow10", laid_internal_strconv_uint64pow10)] }
def ShardErrorsSaid : Prop := shardErrorsRow.holds Tryz.pinned (OpenSpec.ofChange shardErrorsSpec)

/-- ITS FALSE NEIGHBOUR: 'it returns false'. Refute it at one input. -/
def shardErrorsWrong : ChangeSpec := { name := "shardErrors", fn := fun _ => fun
  | [d1, d2, d3, d4] => { results := [.lit (.bool false)], args := [d1, d2, d3, d4] }
  | _ => none }
def ShardErrorsWrongFalsely : Prop := shardErrorsRow.holds Tryz.pinned (OpenSpec.ofChange shardErrorsWrong)

/-- 'cartagelaw12.ShardSpace': WHATEVER THE INPUT: true; the input reads as it did. -/
def shardSpaceSpec : ChangeSpec := { name := "shardSpace", fn := fun _ => fun
  | [d1, d2, d3, d4] => { results := [.lit (.bool true)], args := [d1, d2, d3, d4] }
  | _ => none }
def shardSpaceRow : OpenClaim := { program := "ytoffbmhmocfmnaagreatdoor", sum := "b21cb98b066a14d607a60a2503bf06f845e205ef18489332f727155b46e8b3da", func := "cartage/cartagelaw12.ShardSpace", spec := "shardSpace", inPlace := ["sync/atomic.AddInt64", "sync/atomic.SwapUint32", "sync/atomic.LoadUint32", "math/bits.Add64"], unfollowed := true, recurses := true, named := ["internal/strconv.uint64pow10", "math/bits.deBruijn32tab", "math/bits.deBruijn64tab"], apart := false, laid := [("math/bits.deBruijn32tab", laid_math_bits_deBruijn32tab), ("math/bits.deBruijn64tab", laid_math_bits_deBruijn64tab), ("internal/strconv.uint64pow10", laid_internal_strconv_uint64pow10)] }
def ShardSpaceSaid : Prop := shardSpaceRow.holds Tryz.pinned (OpenSpec.ofChange shardSpaceSpec)

/-- ITS FALSE NEIGHBOUR: 'it returns false'. Refute it at one input. -/
def shardSpaceWrong : ChangeSpec := { name := "shardSpace", fn := fun _ => fun
  | [d1, d2, d3, d4] => { results := [.lit (.bool false)], args := [d1, d2, d3, d4] }
  | _ => none }
def ShardSpaceWrongFalsely : Prop := shardSpaceRow.holds Tryz.pinned (OpenSpec.ofChange shardSpaceWrong)

/-- 'cartagelaw12.ShardTells': WHATEVER THE INPUT: true; the input reads as it did. -/
def shardTellsSpec : ChangeSpec := { name := "shardTells", fn := fun _ => fun
  | [d1, d2, d3] => { results := [.lit (.bool true)], args := [d1, d2, d3] }
  | _ => none }
def shardTellsRow : OpenClaim := { program := "ytoffbmhmocfmnaagreatdoor", sum := "b21cb98b066a14d607a60a2503bf06f845e205ef18489332f727155b46e8b3da", func := "cartage/cartagelaw12.ShardTells", spec := "shardTells", inPlace := ["sync/atomic.AddInt64", "sync/atomic.SwapUint32", "sync/atomic.LoadUint32", "math/bits.Add64", "sync/atomic.StoreUint32"], unfollowed := true, recurses := true, named := ["internal/strconv.uint64pow10", "math/bits.deBruijn32tab", "math/bits.deBruijn64tab"], apart := false, laid := [("math/bits.deBruijn32tab", laid_math_bits_deBruijn32tab), ("math/bits.deBruijn64tab", laid_math_bits_deBruijn64tab), ("internal/strconv.uint64pow10", laid_internal_strconv_uint64pow10)] }
def ShardTellsSaid : Prop := shardTellsRow.holds Tryz.pinned (OpenSpec.ofChange shardTellsSpec)

/-- ITS FALSE NEIGHBOUR: 'it returns false'. Refute it at one input. -/
def shardTellsWrong : ChangeSpec := { name := "shardTells", fn := fun _ => fun
  | [d1, d2, d3] => { results := [.lit (.bool false)], args := [d1, d2, d3] }
  | _ => none }
def ShardTellsWrongFalsely : Prop := shardTellsRow.holds Tryz.pinned (OpenSpec.ofChange shardTellsWrong)

/-- 'cartagelaw12.ShardDown': WHATEVER THE INPUT: true; the input reads as it did. -/
def shardDownSpec : ChangeSpec := { name := "shardDown", fn := fun _ => fun
  | [d1, d2, d3] => { results := [.lit (.bool true)], args := [d1, d2, d3] }
  | _ => none }
def shardDownRow : OpenClaim := { program := "ytoffbmhmocfmnaagreatdoor", sum := "b21cb98b066a14d607a60a2503bf06f845e205ef18489332f727155b46e8b3da", func := "cartage/cartagelaw12.ShardDown", spec := "shardDown", inPlace := ["sync/atomic.AddInt64", "sync/atomic.SwapUint32", "sync/atomic.LoadUint32", "math/bits.Add64", "sync/atomic.StoreUint32"], unfollowed := true, recurses := true, named := ["internal/strconv.uint64pow10", "math/bits.deBruijn32tab", "math/bits.deBruijn64tab"], apart := false, laid := [("math/bits.deBruijn32tab", laid_math_bits_deBruijn32tab), ("math/bits.deBruijn64tab", laid_math_bits_deBruijn64tab), ("internal/strconv.uint64pow10", laid_internal_strconv_uint64pow10)] }
def ShardDownSaid : Prop := shardDownRow.holds Tryz.pinned (OpenSpec.ofChange shardDownSpec)

/-- ITS FALSE NEIGHBOUR: 'it returns false'. Refute it at one input. -/
def shardDownWrong : ChangeSpec := { name := "shardDown", fn := fun _ => fun
  | [d1, d2, d3] => { results := [.lit (.bool false)], args := [d1, d2, d3] }
  | _ => none }
def ShardDownWrongFalsely : Prop := shardDownRow.holds Tryz.pinned (OpenSpec.ofChange shardDownWrong)

/- THE SECOND FORM. 'bulk': how many values and letters a reading holds, each counted each time it is reached (what is shared counts as often as it is met; a slice's spare places count too). A statement '..UptoSaid' is the law's where the arguments, and the package variables that the reading takes, are together of bulk at most 1048576: NARROWER than '..Said'. Prove '..Said' where nothing that the law and all that it calls make is longer than what came in: it says more and counts as full. Else prove '..UptoSaid'. A law counts once. -/
mutual
def uptoBulk {H : Type} : DataW H → Nat
  | .lit (.string bytes) => bytes.length + 1
  | .lit _ => 1
  | .nil => 1
  | .ptr d => uptoBulk d + 1
  | .slice elems spare => uptoBulkAll elems + uptoBulkAll spare + 1
  | .agg parts => uptoBulkAll parts + 1
  | .iface _ d => uptoBulk d + 1
  | .map entries => uptoBulkEntries entries + 1
  | .held _ => 1
def uptoBulkAll {H : Type} : List (DataW H) → Nat
  | [] => 0
  | d :: r => uptoBulk d + uptoBulkAll r
def uptoBulkEntries {H : Type} : List (Lit × DataW H) → Nat
  | [] => 0
  | x :: r => uptoBulkEntry x + uptoBulkEntries r
def uptoBulkEntry {H : Type} : Lit × DataW H → Nat
  | (.string bytes, d) => bytes.length + uptoBulk d + 1
  | (_, d) => uptoBulk d + 1
 end
def uptoSmall : (H : Type) → List (DataW H) → Bool := fun _ ds => decide (uptoBulkAll ds ≤ 1048576)
def OpenSpec.upto (s : _root_.Go.ChangeSpec) : _root_.Go.OpenSpec := { _root_.Go.OpenSpec.ofChange s with cond := some uptoSmall }

/-- 'cartagelaw12.ShardAll', WHERE WHAT IT READS IS OF BULK AT MOST 1048576: true; the input reads as it did. -/
def shardAllUptoRow : OpenClaim := { program := "ytoffbmhmocfmnaagreatdoor", sum := "b21cb98b066a14d607a60a2503bf06f845e205ef18489332f727155b46e8b3da", func := "cartage/cartagelaw12.ShardAll", spec := "shardAll", inPlace := ["sync/atomic.AddInt64", "sync/atomic.SwapUint32", "sync/atomic.LoadUint32", "math/bits.Add64"], unfollowed := true, recurses := true, named := ["internal/strconv.uint64pow10", "math/bits.deBruijn32tab", "math/bits.deBruijn64tab"], apart := false, laid := [("math/bits.deBruijn32tab", laid_math_bits_deBruijn32tab), ("math/bits.deBruijn64tab", laid_math_bits_deBruijn64tab), ("internal/strconv.uint64pow10", laid_internal_strconv_uint64pow10)], narrowed := true }
def ShardAllUptoSaid : Prop := shardAllUptoRow.holds Tryz.pinned (OpenSpec.upto shardAllSpec)

/-- 'cartagelaw12.ShardNone', WHERE WHAT IT READS IS OF BULK AT MOST 1048576: true; the input reads as it did. -/
def shardNoneUptoRow : OpenClaim := { program := "ytoffbmhmocfmnaagreatdoor", sum := "b21cb98b066a14d607a60a2503bf06f845e205ef18489332f727155b46e8b3da", func := "cartage/cartagelaw12.ShardNone", spec := "shardNone", inPlace := ["sync/atomic.AddInt64", "sync/atomic.SwapUint32", "sync/atomic.LoadUint32", "math/bits.Add64"], unfollowed := true, recurses := true, named := ["internal/strconv.uint64pow10", "math/bits.deBruijn32tab", "math/bits.deBruijn64tab"], apart := false, laid := [("math/bits.deBruijn32tab", laid_math_bits_deBruijn32tab), ("math/bits.deBruijn64tab", laid_math_bits_deBruijn64tab), ("internal/strconv.uint64pow10", laid_internal_strconv_uint64pow10)], narrowed := true }
def ShardNoneUptoSaid : Prop := shardNoneUptoRow.holds Tryz.pinned (OpenSpec.upto shardNoneSpec)

/-- 'cartagelaw12.ShardBudget', WHERE WHAT IT READS IS OF BULK AT MOST 1048576: true; the input reads as it did. -/
def shardBudgetUptoRow : OpenClaim := { program := "ytoffbmhmocfmnaagreatdoor", sum := "b21cb98b066a14d607a60a2503bf06f845e205ef18489332f727155b46e8b3da", func := "cartage/cartagelaw12.ShardBudget", spec := "shardBudget", inPlace := ["sync/atomic.AddInt64", "sync/atomic.SwapUint32", "sync/atomic.LoadUint32", "math/bits.Add64"], unfollowed := true, recurses := true, named := ["internal/strconv.uint64pow10", "math/bits.deBruijn32tab", "math/bits.deBruijn64tab"], apart := false, laid := [("math/bits.deBruijn32tab", laid_math_bits_deBruijn32tab), ("math/bits.deBruijn64tab", laid_math_bits_deBruijn64tab), ("internal/strconv.uint64pow10", laid_internal_strconv_uint64pow10)], narrowed := true }
def ShardBudgetUptoSaid : Prop := shardBudgetUptoRow.holds Tryz.pinned (OpenSpec.upto shardBudgetSpec)

/-- 'cartagelaw12.ShardErrors', WHERE WHAT IT READS IS OF BULK AT MOST 1048576: true; the input reads as it did. -/
def shardErrorsUptoRow : OpenClaim := { program := "ytoffbmhmocfmnaagreatdoor", sum := "b21cb98b066a14d607a60a2503bf06f845e205ef18489332f727155b46e8b3da", func := "cartage/cartagelaw12.ShardErrors", spec := "shardErrors", inPlace := ["sync/atomic.AddInt64", "sync/atomic.SwapUint32", "sync/atomic.LoadUint32", "math/bits.Add64"], unfollowed := true, recurses := true, named := ["internal/strconv.uint64pow10", "math/bits.deBruijn32tab", "math/bits.deBruijn64tab"], apart := false, laid := [("math/bits.deBruijn32tab", laid_math_bits_deBruijn32tab), ("math/bits.deBruijn64tab", laid_math_bits_deBruijn64tab), ("internal/strconv.uint64pow10", laid_internal_strconv_uint64pow10)], narrowed := true }
def ShardErrorsUptoSaid : Prop := shardErrorsUptoRow.holds Tryz.pinned (OpenSpec.upto shardErrorsSpec)

/-- 'cartagelaw12.ShardSpace', WHERE WHAT IT READS IS OF BULK AT MOST 1048576: true; the input reads as it did. -/
def shardSpaceUptoRow : OpenClaim := { program := "ytoffbmhmocfmnaagreatdoor", sum := "b21cb98b066a14d607a60a2503bf06f845e205ef18489332f727155b46e8b3da", func := "cartage/cartagelaw12.ShardSpace", spec := "shardSpace", inPlace := ["sync/atomic.AddInt64", "sync/atomic.SwapUint32", "sync/atomic.LoadUint32", "math/bits.Add64"], unfollowed := true, recurses := true, named := ["internal/strconv.uint64pow10", "math/bits.deBruijn32tab", "math/bits.deBruijn64tab"], apart := false, laid := [("math/bits.deBruijn32tab", laid_math_bits_deBruijn32tab), ("math/bits.deBruijn64tab", laid_math_bits_deBruijn64tab), ("internal/strconv.uint64pow10", laid_internal_strconv_uint64pow10)], narrowed := true }
def ShardSpaceUptoSaid : Prop := shardSpaceUptoRow.holds Tryz.pinned (OpenSpec.upto shardSpaceSpec)

/-- 'cartagelaw12.ShardTells', WHERE WHAT IT READS IS OF BULK AT MOST 1048576: true; the input reads as it did. -/
def shardTellsUptoRow : OpenClaim := { program := "ytoffbmhmocfmnaagreatdoor", sum := "b21cb98b066a14d607a60a2503bf06f845e205ef18489332f727155b46e8b3da", func := "cartage/cartagelaw12.ShardTells", spec := "shardTells", inPlace := ["sync/atomic.AddInt64", "sync/atomic.SwapUint32", "sync/atomic.LoadUint32", "math/bits.Add64", "sync/atomic.StoreUint32"], unfollowed := true, recurses := true, named := ["internal/strconv.uint64pow10", "math/bits.deBruijn32tab", "math/bits.deBruijn64tab"], apart := false, laid := [("math/bits.deBruijn32tab", laid_math_bits_deBruijn32tab), ("math/bits.deBruijn64tab", laid_math_bits_deBruijn64tab), ("internal/strconv.uint64pow10", laid_internal_strconv_uint64pow10)], narrowed := true }
def ShardTellsUptoSaid : Prop := shardTellsUptoRow.holds Tryz.pinned (OpenSpec.upto shardTellsSpec)

/-- 'cartagelaw12.ShardDown', WHERE WHAT IT READS IS OF BULK AT MOST 1048576: true; the input reads as it did. -/
def shardDownUptoRow : OpenClaim := { program := "ytoffbmhmocfmnaagreatdoor", sum := "b21cb98b066a14d607a60a2503bf06f845e205ef18489332f727155b46e8b3da", func := "cartage/cartagelaw12.ShardDown", spec := "shardDown", inPlace := ["sync/atomic.AddInt64", "sync/atomic.SwapUint32", "sync/atomic.LoadUint32", "math/bits.Add64", "sync/atomic.StoreUint32"], unfollowed := true, recurses := true, named := ["internal/strconv.uint64pow10", "math/bits.deBruijn32tab", "math/bits.deBruijn64tab"], apart := false, laid := [("math/bits.deBruijn32tab", laid_math_bits_deBruijn32tab), ("math/bits.deBruijn64tab", laid_math_bits_deBruijn64tab), ("internal/strconv.uint64pow10", laid_internal_strconv_uint64pow10)], narrowed := true }
def ShardDownUptoSaid : Prop := shardDownUptoRow.holds Tryz.pinned (OpenSpec.upto shardDownSpec)

end Rows
end Go.Proofs.YtoffbmhmocfmnaaGreatDoor
