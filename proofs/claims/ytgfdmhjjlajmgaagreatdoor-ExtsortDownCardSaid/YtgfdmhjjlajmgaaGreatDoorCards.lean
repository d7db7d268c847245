/-
  DERIVED. GIVEN WITH THE SEED: THE CARDS: each row of YtgfdmhjjlajmgaaGreatDoorRows.lean that lists a variable, with what it lists TIED to the program's text (the seventh form; the later family's looks); each row that meets fmt, with fmt's text TOLD by the authors' own Lean function (tested against real Go, not proved from fmt's source: count such statements apart). THE CARD IS WHAT COUNTS. Prove the row's statement (the work); the ties are given (YtgfdmhjjlajmgaaGreatDoorTie.lean); close each card by the builder's one call (the guide's Derived/Test/ToyasCard.lean, 'card_holds'). Laid BY PROGRAM, IN A SANDBOX (cutbox-door.mjs). By AI agents, Wed Nov 11 2026. No macro, syntax, notation, axiom, sorry.
-/
import Derived.Test.YtgfdmhjjlajmgaaGreatDoorRows
import GoSem.ClaimSeven
namespace Go.Proofs.YtgfdmhjjlajmgaaGreatDoor
namespace Rows

/-- THE TIED CARD OF 'cartagelaw10.ExtsortTells'. -/
def extsortTellsCard : Claim7 := { stood := { row := extsortTellsRow, standIns := [], harness := (true, "0531a25f0adf6e98b7e1b2535ca952c4d8d6fc5579afac9a6c465743bb5e5bd5"), looks := false }, kinds := [], alts := [], laidByText := true, laidKinds := [.data, .data, .data], laidTests := true, laidLooks := .later }
def ExtsortTellsCardSaid : Prop := Claim7.holds Tryz.pinned (.plain (OpenSpec.ofChange extsortTellsSpec)) extsortTellsCard

/-- THE TIED CARD OF 'cartagelaw10.ExtsortPasses'. -/
def extsortPassesCard : Claim7 := { stood := { row := extsortPassesRow, standIns := [], harness := (true, "0531a25f0adf6e98b7e1b2535ca952c4d8d6fc5579afac9a6c465743bb5e5bd5"), looks := false }, kinds := [], alts := [], laidByText := true, laidKinds := [.data, .data, .data], laidTests := true, laidLooks := .later }
def ExtsortPassesCardSaid : Prop := Claim7.holds Tryz.pinned (.plain (OpenSpec.ofChange extsortPassesSpec)) extsortPassesCard

/-- THE TIED CARD OF 'cartagelaw10.ExtsortOut'. -/
def extsortOutCard : Claim7 := { stood := { row := extsortOutRow, standIns := [], harness := (true, "0531a25f0adf6e98b7e1b2535ca952c4d8d6fc5579afac9a6c465743bb5e5bd5"), looks := false }, kinds := [], alts := [], laidByText := true, laidKinds := [.data, .data, .data], laidTests := true, laidLooks := .later }
def ExtsortOutCardSaid : Prop := Claim7.holds Tryz.pinned (.plain (OpenSpec.ofChange extsortOutSpec)) extsortOutCard

/-- THE TIED CARD OF 'cartagelaw10.ExtsortSame'. -/
def extsortSameCard : Claim7 := { stood := { row := extsortSameRow, standIns := [], harness := (true, "0531a25f0adf6e98b7e1b2535ca952c4d8d6fc5579afac9a6c465743bb5e5bd5"), looks := false }, kinds := [], alts := [], laidByText := true, laidKinds := [.data, .data, .data], laidTests := true, laidLooks := .later }
def ExtsortSameCardSaid : Prop := Claim7.holds Tryz.pinned (.plain (OpenSpec.ofChange extsortSameSpec)) extsortSameCard

/-- THE TIED CARD OF 'cartagelaw10.ExtsortBytes'. -/
def extsortBytesCard : Claim7 := { stood := { row := extsortBytesRow, standIns := [], harness := (true, "0531a25f0adf6e98b7e1b2535ca952c4d8d6fc5579afac9a6c465743bb5e5bd5"), looks := false }, kinds := [], alts := [], laidByText := true, laidKinds := [.data, .data, .data], laidTests := true, laidLooks := .later }
def ExtsortBytesCardSaid : Prop := Claim7.holds Tryz.pinned (.plain (OpenSpec.ofChange extsortBytesSpec)) extsortBytesCard

/-- THE TIED CARD OF 'cartagelaw10.ExtsortSpace'. -/
def extsortSpaceCard : Claim7 := { stood := { row := extsortSpaceRow, standIns := [], harness := (true, "0531a25f0adf6e98b7e1b2535ca952c4d8d6fc5579afac9a6c465743bb5e5bd5"), looks := false }, kinds := [], alts := [], laidByText := true, laidKinds := [.data, .data, .data], laidTests := true, laidLooks := .later }
def ExtsortSpaceCardSaid : Prop := Claim7.holds Tryz.pinned (.plain (OpenSpec.ofChange extsortSpaceSpec)) extsortSpaceCard

/-- THE TIED CARD OF 'cartagelaw10.ExtsortDown'. -/
def extsortDownCard : Claim7 := { stood := { row := extsortDownRow, standIns := [], harness := (true, "0531a25f0adf6e98b7e1b2535ca952c4d8d6fc5579afac9a6c465743bb5e5bd5"), looks := false }, kinds := [], alts := [], laidByText := true, laidKinds := [.data, .data, .data], laidTests := true, laidLooks := .later }
def ExtsortDownCardSaid : Prop := Claim7.holds Tryz.pinned (.plain (OpenSpec.ofChange extsortDownSpec)) extsortDownCard

/-- THE SECOND FORM's CARD OF 'cartagelaw10.ExtsortTells'. -/
def extsortTellsUptoCard : Claim7 := { stood := { row := extsortTellsUptoRow, standIns := [], harness := (true, "0531a25f0adf6e98b7e1b2535ca952c4d8d6fc5579afac9a6c465743bb5e5bd5"), looks := false }, kinds := [], alts := [], laidByText := true, laidKinds := [.data, .data, .data], laidTests := true, laidLooks := .later }
def ExtsortTellsUptoCardSaid : Prop := Claim7.holds Tryz.pinned (.plain (OpenSpec.upto extsortTellsSpec)) extsortTellsUptoCard

/-- THE SECOND FORM's CARD OF 'cartagelaw10.ExtsortPasses'. -/
def extsortPassesUptoCard : Claim7 := { stood := { row := extsortPassesUptoRow, standIns := [], harness := (true, "0531a25f0adf6e98b7e1b2535ca952c4d8d6fc5579afac9a6c465743bb5e5bd5"), looks := false }, kinds := [], alts := [], laidByText := true, laidKinds := [.data, .data, .data], laidTests := true, laidLooks := .later }
def ExtsortPassesUptoCardSaid : Prop := Claim7.holds Tryz.pinned (.plain (OpenSpec.upto extsortPassesSpec)) extsortPassesUptoCard

/-- THE SECOND FORM's CARD OF 'cartagelaw10.ExtsortOut'. -/
def extsortOutUptoCard : Claim7 := { stood := { row := extsortOutUptoRow, standIns := [], harness := (true, "0531a25f0adf6e98b7e1b2535ca952c4d8d6fc5579afac9a6c465743bb5e5bd5"), looks := false }, kinds := [], alts := [], laidByText := true, laidKinds := [.data, .data, .data], laidTests := true, laidLooks := .later }
def ExtsortOutUptoCardSaid : Prop := Claim7.holds Tryz.pinned (.plain (OpenSpec.upto extsortOutSpec)) extsortOutUptoCard

/-- THE SECOND FORM's CARD OF 'cartagelaw10.ExtsortSame'. -/
def extsortSameUptoCard : Claim7 := { stood := { row := extsortSameUptoRow, standIns := [], harness := (true, "0531a25f0adf6e98b7e1b2535ca952c4d8d6fc5579afac9a6c465743bb5e5bd5"), looks := false }, kinds := [], alts := [], laidByText := true, laidKinds := [.data, .data, .data], laidTests := true, laidLooks := .later }
def ExtsortSameUptoCardSaid : Prop := Claim7.holds Tryz.pinned (.plain (OpenSpec.upto extsortSameSpec)) extsortSameUptoCard

/-- THE SECOND FORM's CARD OF 'cartagelaw10.ExtsortBytes'. -/
def extsortBytesUptoCard : Claim7 := { stood := { row := extsortBytesUptoRow, standIns := [], harness := (true, "0531a25f0adf6e98b7e1b2535ca952c4d8d6fc5579afac9a6c465743bb5e5bd5"), looks := false }, kinds := [], alts := [], laidByText := true, laidKinds := [.data, .data, .data], laidTests := true, laidLooks := .later }
def ExtsortBytesUptoCardSaid : Prop := Claim7.holds Tryz.pinned (.plain (OpenSpec.upto extsortBytesSpec)) extsortBytesUptoCard

/-- THE SECOND FORM's CARD OF 'cartagelaw10.ExtsortSpace'. -/
def extsortSpaceUptoCard : Claim7 := { stood := { row := extsortSpaceUptoRow, standIns := [], harness := (true, "0531a25f0adf6e98b7e1b2535ca952c4d8d6fc5579afac9a6c465743bb5e5bd5"), looks := false }, kinds := [], alts := [], laidByText := true, laidKinds := [.data, .data, .data], laidTests := true, laidLooks := .later }
def ExtsortSpaceUptoCardSaid : Prop := Claim7.holds Tryz.pinned (.plain (OpenSpec.upto extsortSpaceSpec)) extsortSpaceUptoCard

/-- THE SECOND FORM's CARD OF 'cartagelaw10.ExtsortDown'. -/
def extsortDownUptoCard : Claim7 := { stood := { row := extsortDownUptoRow, standIns := [], harness := (true, "0531a25f0adf6e98b7e1b2535ca952c4d8d6fc5579afac9a6c465743bb5e5bd5"), looks := false }, kinds := [], alts := [], laidByText := true, laidKinds := [.data, .data, .data], laidTests := true, laidLooks := .later }
def ExtsortDownUptoCardSaid : Prop := Claim7.holds Tryz.pinned (.plain (OpenSpec.upto extsortDownSpec)) extsortDownUptoCard
end Rows
end Go.Proofs.YtgfdmhjjlajmgaaGreatDoor
