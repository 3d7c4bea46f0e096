/-
  DERIVED. GIVEN WITH THE SEED: THE CARDS: each row of YthillkfmdndedaaGreatDoorRows.lean that lists a variable, with what it lists TIED to the program's text (the seventh form; the later family's looks); each row that meets fmt, with fmt's text TOLD by the authors' own Lean function (tested against real Go, not proved from fmt's source: count such statements apart). THE CARD IS WHAT COUNTS. Prove the row's statement (the work); the ties are given (YthillkfmdndedaaGreatDoorTie.lean); close each card by the builder's one call (the guide's Derived/Test/ToyasCard.lean, 'card_holds'). Laid BY PROGRAM, IN A SANDBOX (cutbox-door.mjs). By AI agents, Wed Nov 11 2026. No macro, syntax, notation, axiom, sorry.
-/
import Derived.Test.YthillkfmdndedaaGreatDoorRows
import GoSem.ClaimSeven
namespace Go.Proofs.YthillkfmdndedaaGreatDoor
namespace Rows

/-- THE TIED CARD OF 'permafrosttop.TopFresh'. -/
def topFreshCard : Claim7 := { stood := { row := topFreshRow, standIns := [], harness := (true, "7d557fdfdff9d9badfd1234695388e463d5a5017cbd1409d9770ce4cbaa51fc6"), looks := true }, kinds := [], alts := [], laidByText := true, laidKinds := [.data, .pinned], laidTests := true, laidLooks := .later }
def TopFreshCardSaid : Prop := Claim7.holds Tryz.pinned (.plain (OpenSpec.ofChange topFreshSpec)) topFreshCard

/-- THE SECOND FORM's CARD OF 'permafrosttop.TopFresh'. -/
def topFreshUptoCard : Claim7 := { stood := { row := topFreshUptoRow, standIns := [], harness := (true, "7d557fdfdff9d9badfd1234695388e463d5a5017cbd1409d9770ce4cbaa51fc6"), looks := true }, kinds := [], alts := [], laidByText := true, laidKinds := [.data, .pinned], laidTests := true, laidLooks := .later }
def TopFreshUptoCardSaid : Prop := Claim7.holds Tryz.pinned (.plain (OpenSpec.upto topFreshSpec)) topFreshUptoCard
end Rows
end Go.Proofs.YthillkfmdndedaaGreatDoor
