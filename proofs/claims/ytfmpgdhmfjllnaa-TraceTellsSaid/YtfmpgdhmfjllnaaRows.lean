/-
  No cell of these rows narrows 'for every input' (looked for: loops, veiled, ifaces, maps, wideKeys, modest, calm, conditions, laid).
  DERIVED. THE GIVEN ROWS OF THIS SEAT. 11 by the template 'for every input the law returns true; each argument reads behind the call as it read before'; 0 by the template 'total and deterministic' (their statements: YtfmpgdhmfjllnaaTotals.lean).
  GIVEN WITH THE SEED: the statements are not yours to turn. If you find one false, say at which input.
  Laid BY PROGRAM, IN A SANDBOX (cutbox-rows.mjs): the forced cells as the released guide's own fill.sh prints them over the translation d02c4e2d495bb927… (all of the seat's roots in one cut). By AI agents, Wed Nov 11 2026. No macro, syntax, notation, axiom, sorry.
-/
import Derived.Test.YtfmpgdhmfjllnaaChecked
import GoSem.Claim
import GoSem.ClaimJoined
import GoSem.ClaimMapViews
import Derived.JoinedTies
import Derived.KernelRfl
namespace Go.Proofs.Ytfmpgdhmfjllnaa
/- THE CELL 'sum', in the pinned program and in every row, IS THE sha256 OF THE DUMP (.gsa) THAT YtfmpgdhmfjllnaaProg.lean LOADS. Nothing in Lean hashes anything: it is a label: what it is worth is what the hold of that sum in a sandbox is worth. -/
noncomputable def Try.pinned : Pinned := { name := "ytfmpgdhmfjllnaa", sum := "d02c4e2d495bb9276ddd014d2c4ac9db4211edc75c4ebf855877147ffc3ee150", checked := Try.checked }
namespace Rows
def none {H : Type} : Left H := { results := [], args := [] }

/-- 'cartagelaw13.TraceParts': WHATEVER THE INPUT: true; the input reads as it did. -/
def tracePartsSpec : ChangeSpec := { name := "traceParts", fn := fun _ => fun
  | [d1, d2, d3, d4, d5, d6, d7] => { results := [.lit (.bool true)], args := [d1, d2, d3, d4, d5, d6, d7] }
  | _ => none }
def tracePartsRow : OpenClaim := { program := "ytfmpgdhmfjllnaa", sum := "d02c4e2d495bb9276ddd014d2c4ac9db4211edc75c4ebf855877147ffc3ee150", func := "cartage/cartagelaw13.TraceParts", spec := "traceParts", inPlace := ["math/bits.Add64"], unfollowed := true, recurses := true, apart := false }
def TracePartsSaid : Prop := tracePartsRow.holds Try.pinned (OpenSpec.ofChange tracePartsSpec)

/-- ITS FALSE NEIGHBOUR: 'it returns false'. Refute it at one input. -/
def tracePartsWrong : ChangeSpec := { name := "traceParts", fn := fun _ => fun
  | [d1, d2, d3, d4, d5, d6, d7] => { results := [.lit (.bool false)], args := [d1, d2, d3, d4, d5, d6, d7] }
  | _ => none }
def TracePartsWrongFalsely : Prop := tracePartsRow.holds Try.pinned (OpenSpec.ofChange tracePartsWrong)

/-- 'cartagelaw13.TraceHops': WHATEVER THE INPUT: true; the input reads as it did. -/
def traceHopsSpec : ChangeSpec := { name := "traceHops", fn := fun _ => fun
  | [d1, d2] => { results := [.lit (.bool true)], args := [d1, d2] }
  | _ => none }
def traceHopsRow : OpenClaim := { program := "ytfmpgdhmfjllnaa", sum := "d02c4e2d495bb9276ddd014d2c4ac9db4211edc75c4ebf855877147ffc3ee150", func := "cartage/cartagelaw13.TraceHops", spec := "traceHops", inPlace := ["math/bits.Add64"], unfollowed := true, recurses := true, apart := false }
def TraceHopsSaid : Prop := traceHopsRow.holds Try.pinned (OpenSpec.ofChange traceHopsSpec)

/-- ITS FALSE NEIGHBOUR: 'it returns false'. Refute it at one input. -/
def traceHopsWrong : ChangeSpec := { name := "traceHops", fn := fun _ => fun
  | [d1, d2] => { results := [.lit (.bool false)], args := [d1, d2] }
  | _ => none }
def TraceHopsWrongFalsely : Prop := traceHopsRow.holds Try.pinned (OpenSpec.ofChange traceHopsWrong)

/-- 'cartagelaw13.TraceLeast': WHATEVER THE INPUT: true; the input reads as it did. -/
def traceLeastSpec : ChangeSpec := { name := "traceLeast", fn := fun _ => fun
  | [d] => { results := [.lit (.bool true)], args := [d] }
  | _ => none }
def traceLeastRow : OpenClaim := { program := "ytfmpgdhmfjllnaa", sum := "d02c4e2d495bb9276ddd014d2c4ac9db4211edc75c4ebf855877147ffc3ee150", func := "cartage/cartagelaw13.TraceLeast", spec := "traceLeast", inPlace := ["math/bits.Add64"], unfollowed := true, recurses := true, apart := false }
def TraceLeastSaid : Prop := traceLeastRow.holds Try.pinned (OpenSpec.ofChange traceLeastSpec)

/-- ITS FALSE NEIGHBOUR: 'it returns false'. Refute it at one input. -/
def traceLeastWrong : ChangeSpec := { name := "traceLeast", fn := fun _ => fun
  | [d] => { results := [.lit (.bool false)], args := [d] }
  | _ => none }
def TraceLeastWrongFalsely : Prop := traceLeastRow.holds Try.pinned (OpenSpec.ofChange traceLeastWrong)

/-- 'cartagelaw13.TracePaths': WHATEVER THE INPUT: true; the input reads as it did. -/
def tracePathsSpec : ChangeSpec := { name := "tracePaths", fn := fun _ => fun
  | [d1, d2] => { results := [.lit (.bool true)], args := [d1, d2] }
  | _ => none }
def tracePathsRow : OpenClaim := { program := "ytfmpgdhmfjllnaa", sum := "d02c4e2d495bb9276ddd014d2c4ac9db4211edc75c4ebf855877147ffc3ee150", func := "cartage/cartagelaw13.TracePaths", spec := "tracePaths", inPlace := ["math/bits.Add64"], unfollowed := true, recurses := true, apart := false }
def TracePathsSaid : Prop := tracePathsRow.holds Try.pinned (OpenSpec.ofChange tracePathsSpec)

/-- ITS FALSE NEIGHBOUR: 'it returns false'. Refute it at one input. -/
def tracePathsWrong : ChangeSpec := { name := "tracePaths", fn := fun _ => fun
  | [d1, d2] => { results := [.lit (.bool false)], args := [d1, d2] }
  | _ => none }
def TracePathsWrongFalsely : Prop := tracePathsRow.holds Try.pinned (OpenSpec.ofChange tracePathsWrong)

/-- 'cartagelaw13.TraceDegree': WHATEVER THE INPUT: true; the input reads as it did. -/
def traceDegreeSpec : ChangeSpec := { name := "traceDegree", fn := fun _ => fun
  | [d] => { results := [.lit (.bool true)], args := [d] }
  | _ => none }
def traceDegreeRow : OpenClaim := { program := "ytfmpgdhmfjllnaa", sum := "d02c4e2d495bb9276ddd014d2c4ac9db4211edc75c4ebf855877147ffc3ee150", func := "cartage/cartagelaw13.TraceDegree", spec := "traceDegree", inPlace := ["math/bits.Add64"], unfollowed := true, recurses := true, apart := false }
def TraceDegreeSaid : Prop := traceDegreeRow.holds Try.pinned (OpenSpec.ofChange traceDegreeSpec)

/-- ITS FALSE NEIGHBOUR: 'it returns false'. Refute it at one input. -/
def traceDegreeWrong : ChangeSpec := { name := "traceDegree", fn := fun _ => fun
  | [d] => { results := [.lit (.bool false)], args := [d] }
  | _ => none }
def TraceDegreeWrongFalsely : Prop := traceDegreeRow.holds Try.pinned (OpenSpec.ofChange traceDegreeWrong)

/-- 'cartagelaw13.TraceOrder': WHATEVER THE INPUT: true; the input reads as it did. -/
def traceOrderSpec : ChangeSpec := { name := "traceOrder", fn := fun _ => fun
  | [d1, d2, d3] => { results := [.lit (.bool true)], args := [d1, d2, d3] }
  | _ => none }
def traceOrderRow : OpenClaim := { program := "ytfmpgdhmfjllnaa", sum := "d02c4e2d495bb9276ddd014d2c4ac9db4211edc75c4ebf855877147ffc3ee150", func := "cartage/cartagelaw13.TraceOrder", spec := "traceOrder", inPlace := ["math/bits.Add64"], unfollowed := true, recurses := true, apart := false }
def TraceOrderSaid : Prop := traceOrderRow.holds Try.pinned (OpenSpec.ofChange traceOrderSpec)

/-- ITS FALSE NEIGHBOUR: 'it returns false'. Refute it at one input. -/
def traceOrderWrong : ChangeSpec := { name := "traceOrder", fn := fun _ => fun
  | [d1, d2, d3] => { results := [.lit (.bool false)], args := [d1, d2, d3] }
  | _ => none }
def TraceOrderWrongFalsely : Prop := traceOrderRow.holds Try.pinned (OpenSpec.ofChange traceOrderWrong)

/-- 'cartagelaw13.TraceFalls': WHATEVER THE INPUT: true; the input reads as it did. -/
def traceFallsSpec : ChangeSpec := { name := "traceFalls", fn := fun _ => fun
  | [d1, d2, d3, d4] => { results := [.lit (.bool true)], args := [d1, d2, d3, d4] }
  | _ => none }
def traceFallsRow : OpenClaim := { program := "ytfmpgdhmfjllnaa", sum := "d02c4e2d495bb9276ddd014d2c4ac9db4211edc75c4ebf855877147ffc3ee150", func := "cartage/cartagelaw13.TraceFalls", spec := "traceFalls", inPlace := ["math/bits.Add64"], unfollowed := true, recurses := true, apart := false }
def TraceFallsSaid : Prop := traceFallsRow.holds Try.pinned (OpenSpec.ofChange traceFallsSpec)

/-- ITS FALSE NEIGHBOUR: 'it returns false'. Refute it at one input. -/
def traceFallsWrong : ChangeSpec := { name := "traceFalls", fn := fun _ => fun
  | [d1, d2, d3, d4] => { results := [.lit (.bool false)], args := [d1, d2, d3, d4] }
  | _ => none }
def TraceFallsWrongFalsely : Prop := traceFallsRow.holds Try.pinned (OpenSpec.ofChange traceFallsWrong)

/-- 'cartagelaw13.TraceShares': WHATEVER THE INPUT: true; the input reads as it did. -/
def traceSharesSpec : ChangeSpec := { name := "traceShares", fn := fun _ => fun
  | [d1, d2] => { results := [.lit (.bool true)], args := [d1, d2] }
  | _ => none }
def traceSharesRow : OpenClaim := { program := "ytfmpgdhmfjllnaa", sum := "d02c4e2d495bb9276ddd014d2c4ac9db4211edc75c4ebf855877147ffc3ee150", func := "cartage/cartagelaw13.TraceShares", spec := "traceShares", inPlace := ["math/bits.Add64"], unfollowed := true, recurses := true, apart := false }
def TraceSharesSaid : Prop := traceSharesRow.holds Try.pinned (OpenSpec.ofChange traceSharesSpec)

/-- ITS FALSE NEIGHBOUR: 'it returns false'. Refute it at one input. -/
def traceSharesWrong : ChangeSpec := { name := "traceShares", fn := fun _ => fun
  | [d1, d2] => { results := [.lit (.bool false)], args := [d1, d2] }
  | _ => none }
def TraceSharesWrongFalsely : Prop := traceSharesRow.holds Try.pinned (OpenSpec.ofChange traceSharesWrong)

/-- 'cartagelaw13.TraceStays': WHATEVER THE INPUT: true; the input reads as it did. -/
def traceStaysSpec : ChangeSpec := { name := "traceStays", fn := fun _ => fun
  | [d1, d2, d3] => { results := [.lit (.bool true)], args := [d1, d2, d3] }
  | _ => none }
def traceStaysRow : OpenClaim := { program := "ytfmpgdhmfjllnaa", sum := "d02c4e2d495bb9276ddd014d2c4ac9db4211edc75c4ebf855877147ffc3ee150", func := "cartage/cartagelaw13.TraceStays", spec := "traceStays", inPlace := ["math/bits.Add64"], unfollowed := true, recurses := true, apart := false }
def TraceStaysSaid : Prop := traceStaysRow.holds Try.pinned (OpenSpec.ofChange traceStaysSpec)

/-- ITS FALSE NEIGHBOUR: 'it returns false'. Refute it at one input. -/
def traceStaysWrong : ChangeSpec := { name := "traceStays", fn := fun _ => fun
  | [d1, d2, d3] => { results := [.lit (.bool false)], args := [d1, d2, d3] }
  | _ => none }
def TraceStaysWrongFalsely : Prop := traceStaysRow.holds Try.pinned (OpenSpec.ofChange traceStaysWrong)

/-- 'cartagelaw13.TraceErrors': WHATEVER THE INPUT: true; the input reads as it did. -/
def traceErrorsSpec : ChangeSpec := { name := "traceErrors", fn := fun _ => fun
  | [d1, d2, d3, d4] => { results := [.lit (.bool true)], args := [d1, d2, d3, d4] }
  | _ => none }
def traceErrorsRow : OpenClaim := { program := "ytfmpgdhmfjllnaa", sum := "d02c4e2d495bb9276ddd014d2c4ac9db4211edc75c4ebf855877147ffc3ee150", func := "cartage/cartagelaw13.TraceErrors", spec := "traceErrors", inPlace := ["math/bits.Add64"], unfollowed := true, recurses := true, apart := false }
def TraceErrorsSaid : Prop := traceErrorsRow.holds Try.pinned (OpenSpec.ofChange traceErrorsSpec)

/-- ITS FALSE NEIGHBOUR: 'it returns false'. Refute it at one input. -/
def traceErrorsWrong : ChangeSpec := { name := "traceErrors", fn := fun _ => fun
  | [d1, d2, d3, d4] => { results := [.lit (.bool false)], args := [d1, d2, d3, d4] }
  | _ => none }
def TraceErrorsWrongFalsely : Prop := traceErrorsRow.holds Try.pinned (OpenSpec.ofChange traceErrorsWrong)

/-- 'cartagelaw13.TraceTells': WHATEVER THE INPUT: true; the input reads as it did. -/
def traceTellsSpec : ChangeSpec := { name := "traceTells", fn := fun _ => fun
  | [d1, d2, d3, d4] => { results := [.lit (.bool true)], args := [d1, d2, d3, d4] }
  | _ => none }
def traceTellsRow : OpenClaim := { program := "ytfmpgdhmfjllnaa", sum := "d02c4e2d495bb9276ddd014d2c4ac9db4211edc75c4ebf855877147ffc3ee150", func := "cartage/cartagelaw13.TraceTells", spec := "traceTells", inPlace := ["math/bits.Add64"], unfollowed := true, recurses := true, apart := false }
def TraceTellsSaid : Prop := traceTellsRow.holds Try.pinned (OpenSpec.ofChange traceTellsSpec)

/-- ITS FALSE NEIGHBOUR: 'it returns false'. Refute it at one input. -/
def traceTellsWrong : ChangeSpec := { name := "traceTells", fn := fun _ => fun
  | [d1, d2, d3, d4] => { results := [.lit (.bool false)], args := [d1, d2, d3, d4] }
  | _ => none }
def TraceTellsWrongFalsely : Prop := traceTellsRow.holds Try.pinned (OpenSpec.ofChange traceTellsWrong)

/- THE SECOND FORM. 'bulk': how many values and letters a reading holds, each counted each time it is reached (what is shared counts as often as it is met; a slice's spare places count too). A statement '..UptoSaid' is the law's where the arguments, and the package variables that the reading takes, are together of bulk at most 1048576: NARROWER than '..Said'. Prove '..Said' where nothing that the law and all that it calls make is longer than what came in: it says more and counts as full. Else prove '..UptoSaid'. A law counts once. -/
mutual
def uptoBulk {H : Type} : DataW H → Nat
  | .lit (.string bytes) => bytes.length + 1
  | .lit _ => 1
  | .nil => 1
  | .ptr d => uptoBulk d + 1
  | .slice elems spare => uptoBulkAll elems + uptoBulkAll spare + 1
  | .agg parts => uptoBulkAll parts + 1
  | .iface _ d => uptoBulk d + 1
  | .map entries => uptoBulkEntries entries + 1
  | .held _ => 1
def uptoBulkAll {H : Type} : List (DataW H) → Nat
  | [] => 0
  | d :: r => uptoBulk d + uptoBulkAll r
def uptoBulkEntries {H : Type} : List (Lit × DataW H) → Nat
  | [] => 0
  | x :: r => uptoBulkEntry x + uptoBulkEntries r
def uptoBulkEntry {H : Type} : Lit × DataW H → Nat
  | (.string bytes, d) => bytes.length + uptoBulk d + 1
  | (_, d) => uptoBulk d + 1
 end
def uptoSmall : (H : Type) → List (DataW H) → Bool := fun _ ds => decide (uptoBulkAll ds ≤ 1048576)
def OpenSpec.upto (s : _root_.Go.ChangeSpec) : _root_.Go.OpenSpec := { _root_.Go.OpenSpec.ofChange s with cond := some uptoSmall }

/-- 'cartagelaw13.TraceParts', WHERE WHAT IT READS IS OF BULK AT MOST 1048576: true; the input reads as it did. -/
def tracePartsUptoRow : OpenClaim := { program := "ytfmpgdhmfjllnaa", sum := "d02c4e2d495bb9276ddd014d2c4ac9db4211edc75c4ebf855877147ffc3ee150", func := "cartage/cartagelaw13.TraceParts", spec := "traceParts", inPlace := ["math/bits.Add64"], unfollowed := true, recurses := true, apart := false, narrowed := true }
def TracePartsUptoSaid : Prop := tracePartsUptoRow.holds Try.pinned (OpenSpec.upto tracePartsSpec)

/-- 'cartagelaw13.TraceHops', WHERE WHAT IT READS IS OF BULK AT MOST 1048576: true; the input reads as it did. -/
def traceHopsUptoRow : OpenClaim := { program := "ytfmpgdhmfjllnaa", sum := "d02c4e2d495bb9276ddd014d2c4ac9db4211edc75c4ebf855877147ffc3ee150", func := "cartage/cartagelaw13.TraceHops", spec := "traceHops", inPlace := ["math/bits.Add64"], unfollowed := true, recurses := true, apart := false, narrowed := true }
def TraceHopsUptoSaid : Prop := traceHopsUptoRow.holds Try.pinned (OpenSpec.upto traceHopsSpec)

/-- 'cartagelaw13.TraceLeast', WHERE WHAT IT READS IS OF BULK AT MOST 1048576: true; the input reads as it did. -/
def traceLeastUptoRow : OpenClaim := { program := "ytfmpgdhmfjllnaa", sum := "d02c4e2d495bb9276ddd014d2c4ac9db4211edc75c4ebf855877147ffc3ee150", func := "cartage/cartagelaw13.TraceLeast", spec := "traceLeast", inPlace := ["math/bits.Add64"], unfollowed := true, recurses := true, apart := false, narrowed := true }
def TraceLeastUptoSaid : Prop := traceLeastUptoRow.holds Try.pinned (OpenSpec.upto traceLeastSpec)

/-- 'cartagelaw13.TracePaths', WHERE WHAT IT READS IS OF BULK AT MOST 1048576: true; the input reads as it did. -/
def tracePathsUptoRow : OpenClaim := { program := "ytfmpgdhmfjllnaa", sum := "d02c4e2d495bb9276ddd014d2c4ac9db4211edc75c4ebf855877147ffc3ee150", func := "cartage/cartagelaw13.TracePaths", spec := "tracePaths", inPlace := ["math/bits.Add64"], unfollowed := true, recurses := true, apart := false, narrowed := true }
def TracePathsUptoSaid : Prop := tracePathsUptoRow.holds Try.pinned (OpenSpec.upto tracePathsSpec)

/-- 'cartagelaw13.TraceDegree', WHERE WHAT IT READS IS OF BULK AT MOST 1048576: true; the input reads as it did. -/
def traceDegreeUptoRow : OpenClaim := { program := "ytfmpgdhmfjllnaa", sum := "d02c4e2d495bb9276ddd014d2c4ac9db4211edc75c4ebf855877147ffc3ee150", func := "cartage/cartagelaw13.TraceDegree", spec := "traceDegree", inPlace := ["math/bits.Add64"], unfollowed := true, recurses := true, apart := false, narrowed := true }
def TraceDegreeUptoSaid : Prop := traceDegreeUptoRow.holds Try.pinned (OpenSpec.upto traceDegreeSpec)

/-- 'cartagelaw13.TraceOrder', WHERE WHAT IT READS IS OF BULK AT MOST 1048576: true; the input reads as it did. -/
def traceOrderUptoRow : OpenClaim := { program := "ytfmpgdhmfjllnaa", sum := "d02c4e2d495bb9276ddd014d2c4ac9db4211edc75c4ebf855877147ffc3ee150", func := "cartage/cartagelaw13.TraceOrder", spec := "traceOrder", inPlace := ["math/bits.Add64"], unfollowed := true, recurses := true, apart := false, narrowed := true }
def TraceOrderUptoSaid : Prop := traceOrderUptoRow.holds Try.pinned (OpenSpec.upto traceOrderSpec)

/-- 'cartagelaw13.TraceFalls', WHERE WHAT IT READS IS OF BULK AT MOST 1048576: true; the input reads as it did. -/
def traceFallsUptoRow : OpenClaim := { program := "ytfmpgdhmfjllnaa", sum := "d02c4e2d495bb9276ddd014d2c4ac9db4211edc75c4ebf855877147ffc3ee150", func := "cartage/cartagelaw13.TraceFalls", spec := "traceFalls", inPlace := ["math/bits.Add64"], unfollowed := true, recurses := true, apart := false, narrowed := true }
def TraceFallsUptoSaid : Prop := traceFallsUptoRow.holds Try.pinned (OpenSpec.upto traceFallsSpec)

/-- 'cartagelaw13.TraceShares', WHERE WHAT IT READS IS OF BULK AT MOST 1048576: true; the input reads as it did. -/
def traceSharesUptoRow : OpenClaim := { program := "ytfmpgdhmfjllnaa", sum := "d02c4e2d495bb9276ddd014d2c4ac9db4211edc75c4ebf855877147ffc3ee150", func := "cartage/cartagelaw13.TraceShares", spec := "traceShares", inPlace := ["math/bits.Add64"], unfollowed := true, recurses := true, apart := false, narrowed := true }
def TraceSharesUptoSaid : Prop := traceSharesUptoRow.holds Try.pinned (OpenSpec.upto traceSharesSpec)

/-- 'cartagelaw13.TraceStays', WHERE WHAT IT READS IS OF BULK AT MOST 1048576: true; the input reads as it did. -/
def traceStaysUptoRow : OpenClaim := { program := "ytfmpgdhmfjllnaa", sum := "d02c4e2d495bb9276ddd014d2c4ac9db4211edc75c4ebf855877147ffc3ee150", func := "cartage/cartagelaw13.TraceStays", spec := "traceStays", inPlace := ["math/bits.Add64"], unfollowed := true, recurses := true, apart := false, narrowed := true }
def TraceStaysUptoSaid : Prop := traceStaysUptoRow.holds Try.pinned (OpenSpec.upto traceStaysSpec)

/-- 'cartagelaw13.TraceErrors', WHERE WHAT IT READS IS OF BULK AT MOST 1048576: true; the input reads as it did. -/
def traceErrorsUptoRow : OpenClaim := { program := "ytfmpgdhmfjllnaa", sum := "d02c4e2d495bb9276ddd014d2c4ac9db4211edc75c4ebf855877147ffc3ee150", func := "cartage/cartagelaw13.TraceErrors", spec := "traceErrors", inPlace := ["math/bits.Add64"], unfollowed := true, recurses := true, apart := false, narrowed := true }
def TraceErrorsUptoSaid : Prop := traceErrorsUptoRow.holds Try.pinned (OpenSpec.upto traceErrorsSpec)

/-- 'cartagelaw13.TraceTells', WHERE WHAT IT READS IS OF BULK AT MOST 1048576: true; the input reads as it did. -/
def traceTellsUptoRow : OpenClaim := { program := "ytfmpgdhmfjllnaa", sum := "d02c4e2d495bb9276ddd014d2c4ac9db4211edc75c4ebf855877147ffc3ee150", func := "cartage/cartagelaw13.TraceTells", spec := "traceTells", inPlace := ["math/bits.Add64"], unfollowed := true, recurses := true, apart := false, narrowed := true }
def TraceTellsUptoSaid : Prop := traceTellsUptoRow.holds Try.pinned (OpenSpec.upto traceTellsSpec)

end Rows
end Go.Proofs.Ytfmpgdhmfjllnaa
