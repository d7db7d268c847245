/-
  DERIVED. GIVEN WITH THE SEED: THE CARDS: each row of YtoffbmhmocfmnaaGreatDoorRows.lean that lists a variable, with what it lists TIED to the program's text (the seventh form; the later family's looks); each row that meets fmt, with fmt's text TOLD by the authors' own Lean function (tested against real Go, not proved from fmt's source: count such statements apart). THE CARD IS WHAT COUNTS. Prove the row's statement (the work); the ties are given (YtoffbmhmocfmnaaGreatDoorTie.lean); close each card by the builder's one call (the guide's Derived/Test/ToyasCard.lean, 'card_holds'). Laid BY PROGRAM, IN A SANDBOX (cutbox-door.mjs). By AI agents, Wed Nov 11 2026. No macro, syntax, notation, axiom, sorry.
-/
import Derived.Test.YtoffbmhmocfmnaaGreatDoorRows
import GoSem.ClaimSeven
namespace Go.Proofs.YtoffbmhmocfmnaaGreatDoor
namespace Rows

/-- THE TIED CARD OF 'cartagelaw12.ShardAll'. -/
def shardAllCard : Claim7 := { stood := { row := shardAllRow, standIns := [], harness := (true, "9e9c911928029037daad0bc46bbe37fa9fe968ec9b6fb411fb219e26f8b93c74"), looks := false }, kinds := [], alts := [], laidByText := true, laidKinds := [.data, .data, .data], laidTests := true, laidLooks := .later }
def ShardAllCardSaid : Prop := Claim7.holds Tryz.pinned (.plain (OpenSpec.ofChange shardAllSpec)) shardAllCard

/-- THE TIED CARD OF 'cartagelaw12.ShardNone'. -/
def shardNoneCard : Claim7 := { stood := { row := shardNoneRow, standIns := [], harness := (true, "9e9c911928029037daad0bc46bbe37fa9fe968ec9b6fb411fb219e26f8b93c74"), looks := false }, kinds := [], alts := [], laidByText := true, laidKinds := [.data, .data, .data], laidTests := true, laidLooks := .later }
def ShardNoneCardSaid : Prop := Claim7.holds Tryz.pinned (.plain (OpenSpec.ofChange shardNoneSpec)) shardNoneCard

/-- THE TIED CARD OF 'cartagelaw12.ShardBudget'. -/
def shardBudgetCard : Claim7 := { stood := { row := shardBudgetRow, standIns := [], harness := (true, "9e9c911928029037daad0bc46bbe37fa9fe968ec9b6fb411fb219e26f8b93c74"), looks := false }, kinds := [], alts := [], laidByText := true, laidKinds := [.data, .data, .data], laidTests := true, laidLooks := .later }
def ShardBudgetCardSaid : Prop := Claim7.holds Tryz.pinned (.plain (OpenSpec.ofChange shardBudgetSpec)) shardBudgetCard

/-- THE TIED CARD OF 'cartagelaw12.ShardErrors'. -/
def shardErrorsCard : Claim7 := { stood := { row := shardErrorsRow, standIns := [], harness := (true, "9e9c911928029037daad0bc46bbe37fa9fe968ec9b6fb411fb219e26f8b93c74"), looks := false }, kinds := [], alts := [], laidByText := true, laidKinds := [.data, .data, .data], laidTests := true, laidLooks := .later }
def ShardErrorsCardSaid : Prop := Claim7.holds Tryz.pinned (.plain (OpenSpec.ofChange shardErrorsSpec)) shardErrorsCard

/-- THE TIED CARD OF 'cartagelaw12.ShardSpace'. -/
def shardSpaceCard : Claim7 := { stood := { row := shardSpaceRow, standIns := [], harness := (true, "9e9c911928029037daad0bc46bbe37fa9fe968ec9b6fb411fb219e26f8b93c74"), looks := false }, kinds := [], alts := [], laidByText := true, laidKinds := [.data, .data, .data], laidTests := true, laidLooks := .later }
def ShardSpaceCardSaid : Prop := Claim7.holds Tryz.pinned (.plain (OpenSpec.ofChange shardSpaceSpec)) shardSpaceCard

/-- THE TIED CARD OF 'cartagelaw12.ShardTells'. -/
def shardTellsCard : Claim7 := { stood := { row := shardTellsRow, standIns := [], harness := (true, "9e9c911928029037daad0bc46bbe37fa9fe968ec9b6fb411fb219e26f8b93c74"), looks := false }, kinds := [], alts := [], laidByText := true, laidKinds := [.data, .data, .data], laidTests := true, laidLooks := .later }
def ShardTellsCardSaid : Prop := Claim7.holds Tryz.pinned (.plain (OpenSpec.ofChange shardTellsSpec)) shardTellsCard

/-- THE TIED CARD OF 'cartagelaw12.ShardDown'. -/
def shardDownCard : Claim7 := { stood := { row := shardDownRow, standIns := [], harness := (true, "9e9c911928029037daad0bc46bbe37fa9fe968ec9b6fb411fb219e26f8b93c74"), looks := false }, kinds := [], alts := [], laidByText := true, laidKinds := [.data, .data, .data], laidTests := true, laidLooks := .later }
def ShardDownCardSaid : Prop := Claim7.holds Tryz.pinned (.plain (OpenSpec.ofChange shardDownSpec)) shardDownCard

/-- THE SECOND FORM's CARD OF 'cartagelaw12.ShardAll'. -/
def shardAllUptoCard : Claim7 := { stood := { row := shardAllUptoRow, standIns := [], harness := (true, "9e9c911928029037daad0bc46bbe37fa9fe968ec9b6fb411fb219e26f8b93c74"), looks := false }, kinds := [], alts := [], laidByText := true, laidKinds := [.data, .data, .data], laidTests := true, laidLooks := .later }
def ShardAllUptoCardSaid : Prop := Claim7.holds Tryz.pinned (.plain (OpenSpec.upto shardAllSpec)) shardAllUptoCard

/-- THE SECOND FORM's CARD OF 'cartagelaw12.ShardNone'. -/
def shardNoneUptoCard : Claim7 := { stood := { row := shardNoneUptoRow, standIns := [], harness := (true, "9e9c911928029037daad0bc46bbe37fa9fe968ec9b6fb411fb219e26f8b93c74"), looks := false }, kinds := [], alts := [], laidByText := true, laidKinds := [.data, .data, .data], laidTests := true, laidLooks := .later }
def ShardNoneUptoCardSaid : Prop := Claim7.holds Tryz.pinned (.plain (OpenSpec.upto shardNoneSpec)) shardNoneUptoCard

/-- THE SECOND FORM's CARD OF 'cartagelaw12.ShardBudget'. -/
def shardBudgetUptoCard : Claim7 := { stood := { row := shardBudgetUptoRow, standIns := [], harness := (true, "9e9c911928029037daad0bc46bbe37fa9fe968ec9b6fb411fb219e26f8b93c74"), looks := false }, kinds := [], alts := [], laidByText := true, laidKinds := [.data, .data, .data], laidTests := true, laidLooks := .later }
def ShardBudgetUptoCardSaid : Prop := Claim7.holds Tryz.pinned (.plain (OpenSpec.upto shardBudgetSpec)) shardBudgetUptoCard

/-- THE SECOND FORM's CARD OF 'cartagelaw12.ShardErrors'. -/
def shardErrorsUptoCard : Claim7 := { stood := { row := shardErrorsUptoRow, standIns := [], harness := (true, "9e9c911928029037daad0bc46bbe37fa9fe968ec9b6fb411fb219e26f8b93c74"), looks := false }, kinds := [], alts := [], laidByText := true, laidKinds := [.data, .data, .data], laidTests := true, laidLooks := .later }
def ShardErrorsUptoCardSaid : Prop := Claim7.holds Tryz.pinned (.plain (OpenSpec.upto shardErrorsSpec)) shardErrorsUptoCard

/-- THE SECOND FORM's CARD OF 'cartagelaw12.ShardSpace'. -/
def shardSpaceUptoCard : Claim7 := { stood := { row := shardSpaceUptoRow, standIns := [], harness := (true, "9e9c911928029037daad0bc46bbe37fa9fe968ec9b6fb411fb219e26f8b93c74"), looks := false }, kinds := [], alts := [], laidByText := true, laidKinds := [.data, .data, .data], laidTests := true, laidLooks := .later }
def ShardSpaceUptoCardSaid : Prop := Claim7.holds Tryz.pinned (.plain (OpenSpec.upto shardSpaceSpec)) shardSpaceUptoCard

/-- THE SECOND FORM's CARD OF 'cartagelaw12.ShardTells'. -/
def shardTellsUptoCard : Claim7 := { stood := { row := shardTellsUptoRow, standIns := [], harness := (true, "9e9c911928029037daad0bc46bbe37fa9fe968ec9b6fb411fb219e26f8b93c74"), looks := false }, kinds := [], alts := [], laidByText := true, laidKinds := [.data, .data, .data], laidTests := true, laidLooks := .later }
def ShardTellsUptoCardSaid : Prop := Claim7.holds Tryz.pinned (.plain (OpenSpec.upto shardTellsSpec)) shardTellsUptoCard

/-- THE SECOND FORM's CARD OF 'cartagelaw12.ShardDown'. -/
def shardDownUptoCard : Claim7 := { stood := { row := shardDownUptoRow, standIns := [], harness := (true, "9e9c911928029037daad0bc46bbe37fa9fe968ec9b6fb411fb219e26f8b93c74"), looks := false }, kinds := [], alts := [], laidByText := true, laidKinds := [.data, .data, .data], laidTests := true, laidLooks := .later }
def ShardDownUptoCardSaid : Prop := Claim7.holds Tryz.pinned (.plain (OpenSpec.upto shardDownSpec)) shardDownUptoCard
end Rows
end Go.Proofs.YtoffbmhmocfmnaaGreatDoor
