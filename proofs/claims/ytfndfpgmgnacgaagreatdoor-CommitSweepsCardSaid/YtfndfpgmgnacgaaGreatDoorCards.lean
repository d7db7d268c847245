/-
  DERIVED. GIVEN WITH THE SEED: THE CARDS: each row of YtfndfpgmgnacgaaGreatDoorRows.lean that lists a variable, with what it lists TIED to the program's text (the seventh form; the later family's looks); each row that meets fmt, with fmt's text TOLD by the authors' own Lean function (tested against real Go, not proved from fmt's source: count such statements apart). THE CARD IS WHAT COUNTS. Prove the row's statement (the work); the ties are given (YtfndfpgmgnacgaaGreatDoorTie.lean); close each card by the builder's one call (the guide's Derived/Test/ToyasCard.lean, 'card_holds'). Laid BY PROGRAM, IN A SANDBOX (cutbox-door.mjs). By AI agents, Wed Nov 11 2026. No macro, syntax, notation, axiom, sorry.
-/
import Derived.Test.YtfndfpgmgnacgaaGreatDoorRows
import GoSem.ClaimSeven
namespace Go.Proofs.YtfndfpgmgnacgaaGreatDoor
namespace Rows

/-- THE TIED CARD OF 'cartagelaw17.CommitSweeps'. -/
def commitSweepsCard : Claim7 := { stood := { row := commitSweepsRow, standIns := [], harness := (true, "5fa3191dd6a63722bb0beac176e48dad58d2adc28722359b0a02bfaf61e3ef68"), looks := true }, kinds := [], alts := [], laidByText := true, laidKinds := [.data, .data, .data, .sentinel, .sentinel], laidTests := true, laidLooks := .later }
def CommitSweepsCardSaid : Prop := Claim7.holds Tryz.pinned (.plain (OpenSpec.ofChange commitSweepsSpec)) commitSweepsCard

/-- THE TIED CARD OF 'cartagelaw17.CommitBytes'. -/
def commitBytesCard : Claim7 := { stood := { row := commitBytesRow, standIns := [], harness := (true, "5fa3191dd6a63722bb0beac176e48dad58d2adc28722359b0a02bfaf61e3ef68"), looks := true }, kinds := [], alts := [], laidByText := true, laidKinds := [.data, .data, .data, .sentinel, .sentinel], laidTests := true, laidLooks := .later }
def CommitBytesCardSaid : Prop := Claim7.holds Tryz.pinned (.plain (OpenSpec.ofChange commitBytesSpec)) commitBytesCard

/-- THE TIED CARD OF 'cartagelaw17.CommitErrors'. -/
def commitErrorsCard : Claim7 := { stood := { row := commitErrorsRow, standIns := [], harness := (true, "5fa3191dd6a63722bb0beac176e48dad58d2adc28722359b0a02bfaf61e3ef68"), looks := true }, kinds := [], alts := [], laidByText := true, laidKinds := [.data, .data, .data, .sentinel, .sentinel], laidTests := true, laidLooks := .later }
def CommitErrorsCardSaid : Prop := Claim7.holds Tryz.pinned (.plain (OpenSpec.ofChange commitErrorsSpec)) commitErrorsCard

/-- THE TIED CARD OF 'cartagelaw17.CommitSaves'. -/
def commitSavesCard : Claim7 := { stood := { row := commitSavesRow, standIns := [], harness := (true, "5fa3191dd6a63722bb0beac176e48dad58d2adc28722359b0a02bfaf61e3ef68"), looks := true }, kinds := [], alts := [], laidByText := true, laidKinds := [.data, .data, .data, .sentinel, .sentinel], laidTests := true, laidLooks := .later }
def CommitSavesCardSaid : Prop := Claim7.holds Tryz.pinned (.plain (OpenSpec.ofChange commitSavesSpec)) commitSavesCard

/-- THE TIED CARD OF 'cartagelaw17.CommitCrash'. -/
def commitCrashCard : Claim7 := { stood := { row := commitCrashRow, standIns := [], harness := (true, "5fa3191dd6a63722bb0beac176e48dad58d2adc28722359b0a02bfaf61e3ef68"), looks := true }, kinds := [], alts := [], laidByText := true, laidKinds := [.data, .data, .data, .sentinel, .sentinel], laidTests := true, laidLooks := .later }
def CommitCrashCardSaid : Prop := Claim7.holds Tryz.pinned (.plain (OpenSpec.ofChange commitCrashSpec)) commitCrashCard

/-- THE TIED CARD OF 'cartagelaw17.CommitKeeps'. -/
def commitKeepsCard : Claim7 := { stood := { row := commitKeepsRow, standIns := [], harness := (true, "5fa3191dd6a63722bb0beac176e48dad58d2adc28722359b0a02bfaf61e3ef68"), looks := true }, kinds := [], alts := [], laidByText := true, laidKinds := [.data, .data, .data, .sentinel, .sentinel], laidTests := true, laidLooks := .later }
def CommitKeepsCardSaid : Prop := Claim7.holds Tryz.pinned (.plain (OpenSpec.ofChange commitKeepsSpec)) commitKeepsCard

/-- THE SECOND FORM's CARD OF 'cartagelaw17.CommitSweeps'. -/
def commitSweepsUptoCard : Claim7 := { stood := { row := commitSweepsUptoRow, standIns := [], harness := (true, "5fa3191dd6a63722bb0beac176e48dad58d2adc28722359b0a02bfaf61e3ef68"), looks := true }, kinds := [], alts := [], laidByText := true, laidKinds := [.data, .data, .data, .sentinel, .sentinel], laidTests := true, laidLooks := .later }
def CommitSweepsUptoCardSaid : Prop := Claim7.holds Tryz.pinned (.plain (OpenSpec.upto commitSweepsSpec)) commitSweepsUptoCard

/-- THE SECOND FORM's CARD OF 'cartagelaw17.CommitBytes'. -/
def commitBytesUptoCard : Claim7 := { stood := { row := commitBytesUptoRow, standIns := [], harness := (true, "5fa3191dd6a63722bb0beac176e48dad58d2adc28722359b0a02bfaf61e3ef68"), looks := true }, kinds := [], alts := [], laidByText := true, laidKinds := [.data, .data, .data, .sentinel, .sentinel], laidTests := true, laidLooks := .later }
def CommitBytesUptoCardSaid : Prop := Claim7.holds Tryz.pinned (.plain (OpenSpec.upto commitBytesSpec)) commitBytesUptoCard

/-- THE SECOND FORM's CARD OF 'cartagelaw17.CommitErrors'. -/
def commitErrorsUptoCard : Claim7 := { stood := { row := commitErrorsUptoRow, standIns := [], harness := (true, "5fa3191dd6a63722bb0beac176e48dad58d2adc28722359b0a02bfaf61e3ef68"), looks := true }, kinds := [], alts := [], laidByText := true, laidKinds := [.data, .data, .data, .sentinel, .sentinel], laidTests := true, laidLooks := .later }
def CommitErrorsUptoCardSaid : Prop := Claim7.holds Tryz.pinned (.plain (OpenSpec.upto commitErrorsSpec)) commitErrorsUptoCard

/-- THE SECOND FORM's CARD OF 'cartagelaw17.CommitSaves'. -/
def commitSavesUptoCard : Claim7 := { stood := { row := commitSavesUptoRow, standIns := [], harness := (true, "5fa3191dd6a63722bb0beac176e48dad58d2adc28722359b0a02bfaf61e3ef68"), looks := true }, kinds := [], alts := [], laidByText := true, laidKinds := [.data, .data, .data, .sentinel, .sentinel], laidTests := true, laidLooks := .later }
def CommitSavesUptoCardSaid : Prop := Claim7.holds Tryz.pinned (.plain (OpenSpec.upto commitSavesSpec)) commitSavesUptoCard

/-- THE SECOND FORM's CARD OF 'cartagelaw17.CommitCrash'. -/
def commitCrashUptoCard : Claim7 := { stood := { row := commitCrashUptoRow, standIns := [], harness := (true, "5fa3191dd6a63722bb0beac176e48dad58d2adc28722359b0a02bfaf61e3ef68"), looks := true }, kinds := [], alts := [], laidByText := true, laidKinds := [.data, .data, .data, .sentinel, .sentinel], laidTests := true, laidLooks := .later }
def CommitCrashUptoCardSaid : Prop := Claim7.holds Tryz.pinned (.plain (OpenSpec.upto commitCrashSpec)) commitCrashUptoCard

/-- THE SECOND FORM's CARD OF 'cartagelaw17.CommitKeeps'. -/
def commitKeepsUptoCard : Claim7 := { stood := { row := commitKeepsUptoRow, standIns := [], harness := (true, "5fa3191dd6a63722bb0beac176e48dad58d2adc28722359b0a02bfaf61e3ef68"), looks := true }, kinds := [], alts := [], laidByText := true, laidKinds := [.data, .data, .data, .sentinel, .sentinel], laidTests := true, laidLooks := .later }
def CommitKeepsUptoCardSaid : Prop := Claim7.holds Tryz.pinned (.plain (OpenSpec.upto commitKeepsSpec)) commitKeepsUptoCard
end Rows
end Go.Proofs.YtfndfpgmgnacgaaGreatDoor
