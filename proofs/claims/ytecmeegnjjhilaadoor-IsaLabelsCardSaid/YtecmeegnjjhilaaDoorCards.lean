/-
  DERIVED. GIVEN WITH THE SEED: THE CARDS: each row of YtecmeegnjjhilaaDoorRows.lean that lists a variable, with what it lists TIED to the program's text (the seventh form; the later family's looks); each row that meets fmt, with fmt's text TOLD by the authors' own Lean function (tested against real Go, not proved from fmt's source: count such statements apart). THE CARD IS WHAT COUNTS. Prove the row's statement (the work); the ties are given (YtecmeegnjjhilaaDoorTie.lean); close each card by the builder's one call (the guide's Derived/Test/ToyasCard.lean, 'card_holds'). Laid BY PROGRAM, IN A SANDBOX (cutbox-door.mjs). By AI agents, Wed Nov 11 2026. No macro, syntax, notation, axiom, sorry.
-/
import Derived.Test.YtecmeegnjjhilaaDoorRows
import GoSem.ClaimSeven
namespace Go.Proofs.YtecmeegnjjhilaaDoor
namespace Rows

/-- THE TIED CARD OF 'ferrylaw04.IsaLabels'. -/
def isaLabelsCard : Claim7 := { stood := { row := isaLabelsRow, standIns := [], harness := (true, "04bd49312061a02d9ffd01c2578dadf27174814ff0fcbadd4a83ed52e343385e"), looks := true }, kinds := [], alts := [], laidByText := true, laidKinds := [.data, .data, .data, .data, .sentinel, .sentinel, .sentinel, .sentinel, .sentinel, .sentinel, .sentinel, .sentinel, .listed, .data, .pinned], laidTests := true, laidLooks := .later }
def IsaLabelsCardSaid : Prop := Claim7.holds Tryd.pinned (.plain (OpenSpec.ofChange isaLabelsSpec)) isaLabelsCard

/-- THE SECOND FORM's CARD OF 'ferrylaw04.IsaLabels'. -/
def isaLabelsUptoCard : Claim7 := { stood := { row := isaLabelsUptoRow, standIns := [], harness := (true, "04bd49312061a02d9ffd01c2578dadf27174814ff0fcbadd4a83ed52e343385e"), looks := true }, kinds := [], alts := [], laidByText := true, laidKinds := [.data, .data, .data, .data, .sentinel, .sentinel, .sentinel, .sentinel, .sentinel, .sentinel, .sentinel, .sentinel, .listed, .data, .pinned], laidTests := true, laidLooks := .later }
def IsaLabelsUptoCardSaid : Prop := Claim7.holds Tryd.pinned (.plain (OpenSpec.upto isaLabelsSpec)) isaLabelsUptoCard
end Rows
end Go.Proofs.YtecmeegnjjhilaaDoor
