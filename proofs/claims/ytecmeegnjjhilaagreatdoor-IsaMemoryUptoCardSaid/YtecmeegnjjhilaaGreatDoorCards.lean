/-
  DERIVED. GIVEN WITH THE SEED: THE CARDS: each row of YtecmeegnjjhilaaGreatDoorRows.lean that lists a variable, with what it lists TIED to the program's text (the seventh form; the later family's looks); each row that meets fmt, with fmt's text TOLD by the authors' own Lean function (tested against real Go, not proved from fmt's source: count such statements apart). THE CARD IS WHAT COUNTS. Prove the row's statement (the work); the ties are given (YtecmeegnjjhilaaGreatDoorTie.lean); close each card by the builder's one call (the guide's Derived/Test/ToyasCard.lean, 'card_holds'). Laid BY PROGRAM, IN A SANDBOX (cutbox-door.mjs). By AI agents, Wed Nov 11 2026. No macro, syntax, notation, axiom, sorry.
-/
import Derived.Test.YtecmeegnjjhilaaGreatDoorRows
import GoSem.ClaimSeven
namespace Go.Proofs.YtecmeegnjjhilaaGreatDoor
namespace Rows

/-- THE TIED CARD OF 'ferrylaw04.IsaNames'. -/
def isaNamesCard : Claim7 := { stood := { row := isaNamesRow, standIns := [], harness := (true, "9526aed7d8828531b456e2ca27baada462d4ae8f50e56da90056951d1a15d6ee"), looks := true }, kinds := [], alts := [], laidByText := true, laidKinds := [.data, .data, .data, .data, .sentinel, .sentinel, .sentinel, .sentinel, .sentinel, .sentinel, .sentinel, .sentinel, .listed, .data, .pinned], laidTests := true, laidLooks := .later }
def IsaNamesCardSaid : Prop := Claim7.holds Tryz.pinned (.plain (OpenSpec.ofChange isaNamesSpec)) isaNamesCard

/-- THE TIED CARD OF 'ferrylaw04.IsaWords'. -/
def isaWordsCard : Claim7 := { stood := { row := isaWordsRow, standIns := [], harness := (true, "9526aed7d8828531b456e2ca27baada462d4ae8f50e56da90056951d1a15d6ee"), looks := true }, kinds := [], alts := [], laidByText := true, laidKinds := [.data, .data, .data, .data, .sentinel, .sentinel, .sentinel, .sentinel, .sentinel, .sentinel, .sentinel, .sentinel, .listed, .data, .pinned], laidTests := true, laidLooks := .later }
def IsaWordsCardSaid : Prop := Claim7.holds Tryz.pinned (.plain (OpenSpec.ofChange isaWordsSpec)) isaWordsCard

/-- THE TIED CARD OF 'ferrylaw04.IsaTexts'. -/
def isaTextsCard : Claim7 := { stood := { row := isaTextsRow, standIns := [], harness := (true, "9526aed7d8828531b456e2ca27baada462d4ae8f50e56da90056951d1a15d6ee"), looks := true }, kinds := [], alts := [], laidByText := true, laidKinds := [.data, .data, .data, .data, .sentinel, .sentinel, .sentinel, .sentinel, .sentinel, .sentinel, .sentinel, .sentinel, .listed, .data, .pinned], laidTests := true, laidLooks := .later }
def IsaTextsCardSaid : Prop := Claim7.holds Tryz.pinned (.plain (OpenSpec.ofChange isaTextsSpec)) isaTextsCard

/-- THE TIED CARD OF 'ferrylaw04.IsaCodes'. -/
def isaCodesCard : Claim7 := { stood := { row := isaCodesRow, standIns := [], harness := (true, "9526aed7d8828531b456e2ca27baada462d4ae8f50e56da90056951d1a15d6ee"), looks := true }, kinds := [], alts := [], laidByText := true, laidKinds := [.data, .data, .data, .data, .handle, .sentinel, .sentinel, .sentinel, .sentinel, .sentinel, .sentinel, .sentinel, .sentinel, .sentinel, .sentinel, .sentinel, .sentinel, .sentinel, .sentinel, .sentinel, .sentinel, .sentinel, .sentinel, .sentinel, .sentinel, .sentinel, .sentinel, .listed, .data, .pinned], laidTests := true, laidLooks := .later }
def IsaCodesCardSaid : Prop := Claim7.holds Tryz.pinned (.plain (OpenSpec.ofChange isaCodesSpec)) isaCodesCard

/-- THE TIED CARD OF 'ferrylaw04.IsaSources'. -/
def isaSourcesCard : Claim7 := { stood := { row := isaSourcesRow, standIns := [], harness := (true, "9526aed7d8828531b456e2ca27baada462d4ae8f50e56da90056951d1a15d6ee"), looks := true }, kinds := [], alts := [], laidByText := true, laidKinds := [.data, .data, .data, .data, .handle, .sentinel, .sentinel, .sentinel, .sentinel, .sentinel, .sentinel, .sentinel, .sentinel, .sentinel, .sentinel, .sentinel, .sentinel, .sentinel, .sentinel, .sentinel, .sentinel, .sentinel, .sentinel, .sentinel, .sentinel, .sentinel, .sentinel, .listed, .data, .pinned], laidTests := true, laidLooks := .later }
def IsaSourcesCardSaid : Prop := Claim7.holds Tryz.pinned (.plain (OpenSpec.ofChange isaSourcesSpec)) isaSourcesCard

/-- THE TIED CARD OF 'ferrylaw04.IsaTurns'. -/
def isaTurnsCard : Claim7 := { stood := { row := isaTurnsRow, standIns := [], harness := (true, "9526aed7d8828531b456e2ca27baada462d4ae8f50e56da90056951d1a15d6ee"), looks := true }, kinds := [], alts := [], laidByText := true, laidKinds := [.data, .data, .data, .data, .handle, .sentinel, .sentinel, .sentinel, .sentinel, .sentinel, .sentinel, .sentinel, .sentinel, .sentinel, .sentinel, .sentinel, .sentinel, .sentinel, .sentinel, .sentinel, .sentinel, .sentinel, .sentinel, .sentinel, .sentinel, .sentinel, .sentinel, .listed, .data, .pinned], laidTests := true, laidLooks := .later }
def IsaTurnsCardSaid : Prop := Claim7.holds Tryz.pinned (.plain (OpenSpec.ofChange isaTurnsSpec)) isaTurnsCard

/-- THE TIED CARD OF 'ferrylaw04.IsaMemory'. -/
def isaMemoryCard : Claim7 := { stood := { row := isaMemoryRow, standIns := [], harness := (true, "9526aed7d8828531b456e2ca27baada462d4ae8f50e56da90056951d1a15d6ee"), looks := true }, kinds := [], alts := [], laidByText := true, laidKinds := [.data, .data, .data, .data, .handle, .sentinel, .sentinel, .sentinel, .sentinel, .sentinel, .sentinel, .sentinel, .sentinel, .sentinel, .sentinel, .sentinel, .sentinel, .sentinel, .sentinel, .sentinel, .sentinel, .sentinel, .sentinel, .sentinel, .sentinel, .sentinel, .sentinel, .listed, .data, .pinned], laidTests := true, laidLooks := .later }
def IsaMemoryCardSaid : Prop := Claim7.holds Tryz.pinned (.plain (OpenSpec.ofChange isaMemorySpec)) isaMemoryCard

/-- THE SECOND FORM's CARD OF 'ferrylaw04.IsaNames'. -/
def isaNamesUptoCard : Claim7 := { stood := { row := isaNamesUptoRow, standIns := [], harness := (true, "9526aed7d8828531b456e2ca27baada462d4ae8f50e56da90056951d1a15d6ee"), looks := true }, kinds := [], alts := [], laidByText := true, laidKinds := [.data, .data, .data, .data, .sentinel, .sentinel, .sentinel, .sentinel, .sentinel, .sentinel, .sentinel, .sentinel, .listed, .data, .pinned], laidTests := true, laidLooks := .later }
def IsaNamesUptoCardSaid : Prop := Claim7.holds Tryz.pinned (.plain (OpenSpec.upto isaNamesSpec)) isaNamesUptoCard

/-- THE SECOND FORM's CARD OF 'ferrylaw04.IsaWords'. -/
def isaWordsUptoCard : Claim7 := { stood := { row := isaWordsUptoRow, standIns := [], harness := (true, "9526aed7d8828531b456e2ca27baada462d4ae8f50e56da90056951d1a15d6ee"), looks := true }, kinds := [], alts := [], laidByText := true, laidKinds := [.data, .data, .data, .data, .sentinel, .sentinel, .sentinel, .sentinel, .sentinel, .sentinel, .sentinel, .sentinel, .listed, .data, .pinned], laidTests := true, laidLooks := .later }
def IsaWordsUptoCardSaid : Prop := Claim7.holds Tryz.pinned (.plain (OpenSpec.upto isaWordsSpec)) isaWordsUptoCard

/-- THE SECOND FORM's CARD OF 'ferrylaw04.IsaTexts'. -/
def isaTextsUptoCard : Claim7 := { stood := { row := isaTextsUptoRow, standIns := [], harness := (true, "9526aed7d8828531b456e2ca27baada462d4ae8f50e56da90056951d1a15d6ee"), looks := true }, kinds := [], alts := [], laidByText := true, laidKinds := [.data, .data, .data, .data, .sentinel, .sentinel, .sentinel, .sentinel, .sentinel, .sentinel, .sentinel, .sentinel, .listed, .data, .pinned], laidTests := true, laidLooks := .later }
def IsaTextsUptoCardSaid : Prop := Claim7.holds Tryz.pinned (.plain (OpenSpec.upto isaTextsSpec)) isaTextsUptoCard

/-- THE SECOND FORM's CARD OF 'ferrylaw04.IsaCodes'. -/
def isaCodesUptoCard : Claim7 := { stood := { row := isaCodesUptoRow, standIns := [], harness := (true, "9526aed7d8828531b456e2ca27baada462d4ae8f50e56da90056951d1a15d6ee"), looks := true }, kinds := [], alts := [], laidByText := true, laidKinds := [.data, .data, .data, .data, .handle, .sentinel, .sentinel, .sentinel, .sentinel, .sentinel, .sentinel, .sentinel, .sentinel, .sentinel, .sentinel, .sentinel, .sentinel, .sentinel, .sentinel, .sentinel, .sentinel, .sentinel, .sentinel, .sentinel, .sentinel, .sentinel, .sentinel, .listed, .data, .pinned], laidTests := true, laidLooks := .later }
def IsaCodesUptoCardSaid : Prop := Claim7.holds Tryz.pinned (.plain (OpenSpec.upto isaCodesSpec)) isaCodesUptoCard

/-- THE SECOND FORM's CARD OF 'ferrylaw04.IsaSources'. -/
def isaSourcesUptoCard : Claim7 := { stood := { row := isaSourcesUptoRow, standIns := [], harness := (true, "9526aed7d8828531b456e2ca27baada462d4ae8f50e56da90056951d1a15d6ee"), looks := true }, kinds := [], alts := [], laidByText := true, laidKinds := [.data, .data, .data, .data, .handle, .sentinel, .sentinel, .sentinel, .sentinel, .sentinel, .sentinel, .sentinel, .sentinel, .sentinel, .sentinel, .sentinel, .sentinel, .sentinel, .sentinel, .sentinel, .sentinel, .sentinel, .sentinel, .sentinel, .sentinel, .sentinel, .sentinel, .listed, .data, .pinned], laidTests := true, laidLooks := .later }
def IsaSourcesUptoCardSaid : Prop := Claim7.holds Tryz.pinned (.plain (OpenSpec.upto isaSourcesSpec)) isaSourcesUptoCard

/-- THE SECOND FORM's CARD OF 'ferrylaw04.IsaTurns'. -/
def isaTurnsUptoCard : Claim7 := { stood := { row := isaTurnsUptoRow, standIns := [], harness := (true, "9526aed7d8828531b456e2ca27baada462d4ae8f50e56da90056951d1a15d6ee"), looks := true }, kinds := [], alts := [], laidByText := true, laidKinds := [.data, .data, .data, .data, .handle, .sentinel, .sentinel, .sentinel, .sentinel, .sentinel, .sentinel, .sentinel, .sentinel, .sentinel, .sentinel, .sentinel, .sentinel, .sentinel, .sentinel, .sentinel, .sentinel, .sentinel, .sentinel, .sentinel, .sentinel, .sentinel, .sentinel, .listed, .data, .pinned], laidTests := true, laidLooks := .later }
def IsaTurnsUptoCardSaid : Prop := Claim7.holds Tryz.pinned (.plain (OpenSpec.upto isaTurnsSpec)) isaTurnsUptoCard

/-- THE SECOND FORM's CARD OF 'ferrylaw04.IsaMemory'. -/
def isaMemoryUptoCard : Claim7 := { stood := { row := isaMemoryUptoRow, standIns := [], harness := (true, "9526aed7d8828531b456e2ca27baada462d4ae8f50e56da90056951d1a15d6ee"), looks := true }, kinds := [], alts := [], laidByText := true, laidKinds := [.data, .data, .data, .data, .handle, .sentinel, .sentinel, .sentinel, .sentinel, .sentinel, .sentinel, .sentinel, .sentinel, .sentinel, .sentinel, .sentinel, .sentinel, .sentinel, .sentinel, .sentinel, .sentinel, .sentinel, .sentinel, .sentinel, .sentinel, .sentinel, .sentinel, .listed, .data, .pinned], laidTests := true, laidLooks := .later }
def IsaMemoryUptoCardSaid : Prop := Claim7.holds Tryz.pinned (.plain (OpenSpec.upto isaMemorySpec)) isaMemoryUptoCard
end Rows
end Go.Proofs.YtecmeegnjjhilaaGreatDoor
