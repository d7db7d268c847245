/-
  DERIVED. GIVEN WITH THE SEED: THE CARDS: each row of YtembfpadojnpmaaGreatDoorRows.lean that lists a variable, with what it lists TIED to the program's text (the seventh form; the later family's looks); each row that meets fmt, with fmt's text TOLD by the authors' own Lean function (tested against real Go, not proved from fmt's source: count such statements apart). THE CARD IS WHAT COUNTS. Prove the row's statement (the work); the ties are given (YtembfpadojnpmaaGreatDoorTie.lean); close each card by the builder's one call (the guide's Derived/Test/ToyasCard.lean, 'card_holds'). Laid BY PROGRAM, IN A SANDBOX (cutbox-door.mjs). By AI agents, Wed Nov 11 2026. No macro, syntax, notation, axiom, sorry.
-/
import Derived.Test.YtembfpadojnpmaaGreatDoorRows
import GoSem.ClaimSeven
namespace Go.Proofs.YtembfpadojnpmaaGreatDoor
namespace Rows

/-- THE TIED CARD OF 'cartagelaw14.MailboxSpills'. -/
def mailboxSpillsCard : Claim7 := { stood := { row := mailboxSpillsRow, standIns := [], harness := (true, "0f8f9ad0c06a3a03acb582b83a2aef77449a5beb1bd03b8940dcf2148d7e37d7"), looks := false }, kinds := [], alts := [], laidByText := true, laidKinds := [.data, .data, .data], laidTests := true, laidLooks := .later }
def MailboxSpillsCardSaid : Prop := Claim7.holds Tryz.pinned (.plain (OpenSpec.ofChange mailboxSpillsSpec)) mailboxSpillsCard

/-- THE TIED CARD OF 'cartagelaw14.MailboxOrder'. -/
def mailboxOrderCard : Claim7 := { stood := { row := mailboxOrderRow, standIns := [], harness := (true, "0f8f9ad0c06a3a03acb582b83a2aef77449a5beb1bd03b8940dcf2148d7e37d7"), looks := false }, kinds := [], alts := [], laidByText := true, laidKinds := [.data, .data, .data], laidTests := true, laidLooks := .later }
def MailboxOrderCardSaid : Prop := Claim7.holds Tryz.pinned (.plain (OpenSpec.ofChange mailboxOrderSpec)) mailboxOrderCard

/-- THE TIED CARD OF 'cartagelaw14.MailboxAgain'. -/
def mailboxAgainCard : Claim7 := { stood := { row := mailboxAgainRow, standIns := [], harness := (true, "0f8f9ad0c06a3a03acb582b83a2aef77449a5beb1bd03b8940dcf2148d7e37d7"), looks := false }, kinds := [], alts := [], laidByText := true, laidKinds := [.data, .data, .data], laidTests := true, laidLooks := .later }
def MailboxAgainCardSaid : Prop := Claim7.holds Tryz.pinned (.plain (OpenSpec.ofChange mailboxAgainSpec)) mailboxAgainCard

/-- THE TIED CARD OF 'cartagelaw14.MailboxDown'. -/
def mailboxDownCard : Claim7 := { stood := { row := mailboxDownRow, standIns := [], harness := (true, "0f8f9ad0c06a3a03acb582b83a2aef77449a5beb1bd03b8940dcf2148d7e37d7"), looks := false }, kinds := [], alts := [], laidByText := true, laidKinds := [.data, .data, .data], laidTests := true, laidLooks := .later }
def MailboxDownCardSaid : Prop := Claim7.holds Tryz.pinned (.plain (OpenSpec.ofChange mailboxDownSpec)) mailboxDownCard

/-- THE TIED CARD OF 'cartagelaw14.MailboxTells'. -/
def mailboxTellsCard : Claim7 := { stood := { row := mailboxTellsRow, standIns := [], harness := (true, "0f8f9ad0c06a3a03acb582b83a2aef77449a5beb1bd03b8940dcf2148d7e37d7"), looks := false }, kinds := [], alts := [], laidByText := true, laidKinds := [.data, .data, .data], laidTests := true, laidLooks := .later }
def MailboxTellsCardSaid : Prop := Claim7.holds Tryz.pinned (.plain (OpenSpec.ofChange mailboxTellsSpec)) mailboxTellsCard

/-- THE TIED CARD OF 'cartagelaw14.MailboxSpace'. -/
def mailboxSpaceCard : Claim7 := { stood := { row := mailboxSpaceRow, standIns := [], harness := (true, "0f8f9ad0c06a3a03acb582b83a2aef77449a5beb1bd03b8940dcf2148d7e37d7"), looks := false }, kinds := [], alts := [], laidByText := true, laidKinds := [.data, .data, .data], laidTests := true, laidLooks := .later }
def MailboxSpaceCardSaid : Prop := Claim7.holds Tryz.pinned (.plain (OpenSpec.ofChange mailboxSpaceSpec)) mailboxSpaceCard

/-- THE SECOND FORM's CARD OF 'cartagelaw14.MailboxSpills'. -/
def mailboxSpillsUptoCard : Claim7 := { stood := { row := mailboxSpillsUptoRow, standIns := [], harness := (true, "0f8f9ad0c06a3a03acb582b83a2aef77449a5beb1bd03b8940dcf2148d7e37d7"), looks := false }, kinds := [], alts := [], laidByText := true, laidKinds := [.data, .data, .data], laidTests := true, laidLooks := .later }
def MailboxSpillsUptoCardSaid : Prop := Claim7.holds Tryz.pinned (.plain (OpenSpec.upto mailboxSpillsSpec)) mailboxSpillsUptoCard

/-- THE SECOND FORM's CARD OF 'cartagelaw14.MailboxOrder'. -/
def mailboxOrderUptoCard : Claim7 := { stood := { row := mailboxOrderUptoRow, standIns := [], harness := (true, "0f8f9ad0c06a3a03acb582b83a2aef77449a5beb1bd03b8940dcf2148d7e37d7"), looks := false }, kinds := [], alts := [], laidByText := true, laidKinds := [.data, .data, .data], laidTests := true, laidLooks := .later }
def MailboxOrderUptoCardSaid : Prop := Claim7.holds Tryz.pinned (.plain (OpenSpec.upto mailboxOrderSpec)) mailboxOrderUptoCard

/-- THE SECOND FORM's CARD OF 'cartagelaw14.MailboxAgain'. -/
def mailboxAgainUptoCard : Claim7 := { stood := { row := mailboxAgainUptoRow, standIns := [], harness := (true, "0f8f9ad0c06a3a03acb582b83a2aef77449a5beb1bd03b8940dcf2148d7e37d7"), looks := false }, kinds := [], alts := [], laidByText := true, laidKinds := [.data, .data, .data], laidTests := true, laidLooks := .later }
def MailboxAgainUptoCardSaid : Prop := Claim7.holds Tryz.pinned (.plain (OpenSpec.upto mailboxAgainSpec)) mailboxAgainUptoCard

/-- THE SECOND FORM's CARD OF 'cartagelaw14.MailboxDown'. -/
def mailboxDownUptoCard : Claim7 := { stood := { row := mailboxDownUptoRow, standIns := [], harness := (true, "0f8f9ad0c06a3a03acb582b83a2aef77449a5beb1bd03b8940dcf2148d7e37d7"), looks := false }, kinds := [], alts := [], laidByText := true, laidKinds := [.data, .data, .data], laidTests := true, laidLooks := .later }
def MailboxDownUptoCardSaid : Prop := Claim7.holds Tryz.pinned (.plain (OpenSpec.upto mailboxDownSpec)) mailboxDownUptoCard

/-- THE SECOND FORM's CARD OF 'cartagelaw14.MailboxTells'. -/
def mailboxTellsUptoCard : Claim7 := { stood := { row := mailboxTellsUptoRow, standIns := [], harness := (true, "0f8f9ad0c06a3a03acb582b83a2aef77449a5beb1bd03b8940dcf2148d7e37d7"), looks := false }, kinds := [], alts := [], laidByText := true, laidKinds := [.data, .data, .data], laidTests := true, laidLooks := .later }
def MailboxTellsUptoCardSaid : Prop := Claim7.holds Tryz.pinned (.plain (OpenSpec.upto mailboxTellsSpec)) mailboxTellsUptoCard

/-- THE SECOND FORM's CARD OF 'cartagelaw14.MailboxSpace'. -/
def mailboxSpaceUptoCard : Claim7 := { stood := { row := mailboxSpaceUptoRow, standIns := [], harness := (true, "0f8f9ad0c06a3a03acb582b83a2aef77449a5beb1bd03b8940dcf2148d7e37d7"), looks := false }, kinds := [], alts := [], laidByText := true, laidKinds := [.data, .data, .data], laidTests := true, laidLooks := .later }
def MailboxSpaceUptoCardSaid : Prop := Claim7.holds Tryz.pinned (.plain (OpenSpec.upto mailboxSpaceSpec)) mailboxSpaceUptoCard
end Rows
end Go.Proofs.YtembfpadojnpmaaGreatDoor
