/-
  DERIVED. GIVEN WITH THE SEED: THE CARDS: each row of YtjnhnlabpccgjaaGreatDoorRows.lean that lists a variable, with what it lists TIED to the program's text (the seventh form; the later family's looks); each row that meets fmt, with fmt's text TOLD by the authors' own Lean function (tested against real Go, not proved from fmt's source: count such statements apart). THE CARD IS WHAT COUNTS. Prove the row's statement (the work); the ties are given (YtjnhnlabpccgjaaGreatDoorTie.lean); close each card by the builder's one call (the guide's Derived/Test/ToyasCard.lean, 'card_holds'). Laid BY PROGRAM, IN A SANDBOX (cutbox-door.mjs). By AI agents, Wed Nov 11 2026. No macro, syntax, notation, axiom, sorry.
-/
import Derived.Test.YtjnhnlabpccgjaaGreatDoorRows
import GoSem.ClaimSeven
namespace Go.Proofs.YtjnhnlabpccgjaaGreatDoor
namespace Rows

/-- THE TIED CARD OF 'permafrostlaw14.StateNumbers'. -/
def stateNumbersCard : Claim7 := { stood := { row := stateNumbersRow, standIns := [], harness := (true, "7b8c4036b84ee19216e1338d5fc53d420115297d896ad272205bffe6dcfe37d7"), looks := true }, kinds := [], alts := [], laidByText := true, laidKinds := [.data, .pinned], laidTests := true, laidLooks := .later }
def StateNumbersCardSaid : Prop := Claim7.holds Tryz.pinned (.plain (OpenSpec.ofChange stateNumbersSpec)) stateNumbersCard

/-- THE TIED CARD OF 'permafrostlaw14.StatePlays'. -/
def statePlaysCard : Claim7 := { stood := { row := statePlaysRow, standIns := [], harness := (true, "7b8c4036b84ee19216e1338d5fc53d420115297d896ad272205bffe6dcfe37d7"), looks := true }, kinds := [], alts := [], laidByText := true, laidKinds := [.data, .pinned], laidTests := true, laidLooks := .later }
def StatePlaysCardSaid : Prop := Claim7.holds Tryz.pinned (.plain (OpenSpec.ofChange statePlaysSpec)) statePlaysCard

/-- THE TIED CARD OF 'permafrostlaw14.StateSmall'. -/
def stateSmallCard : Claim7 := { stood := { row := stateSmallRow, standIns := [], harness := (true, "7b8c4036b84ee19216e1338d5fc53d420115297d896ad272205bffe6dcfe37d7"), looks := true }, kinds := [], alts := [], laidByText := true, laidKinds := [.data, .pinned], laidTests := true, laidLooks := .later }
def StateSmallCardSaid : Prop := Claim7.holds Tryz.pinned (.plain (OpenSpec.ofChange stateSmallSpec)) stateSmallCard

/-- THE TIED CARD OF 'permafrostlaw14.StateLoads'. -/
def stateLoadsCard : Claim7 := { stood := { row := stateLoadsRow, standIns := [], harness := (true, "7b8c4036b84ee19216e1338d5fc53d420115297d896ad272205bffe6dcfe37d7"), looks := true }, kinds := [], alts := [], laidByText := true, laidKinds := [.data, .pinned], laidTests := true, laidLooks := .later }
def StateLoadsCardSaid : Prop := Claim7.holds Tryz.pinned (.plain (OpenSpec.ofChange stateLoadsSpec)) stateLoadsCard

/-- THE SECOND FORM's CARD OF 'permafrostlaw14.StateNumbers'. -/
def stateNumbersUptoCard : Claim7 := { stood := { row := stateNumbersUptoRow, standIns := [], harness := (true, "7b8c4036b84ee19216e1338d5fc53d420115297d896ad272205bffe6dcfe37d7"), looks := true }, kinds := [], alts := [], laidByText := true, laidKinds := [.data, .pinned], laidTests := true, laidLooks := .later }
def StateNumbersUptoCardSaid : Prop := Claim7.holds Tryz.pinned (.plain (OpenSpec.upto stateNumbersSpec)) stateNumbersUptoCard

/-- THE SECOND FORM's CARD OF 'permafrostlaw14.StatePlays'. -/
def statePlaysUptoCard : Claim7 := { stood := { row := statePlaysUptoRow, standIns := [], harness := (true, "7b8c4036b84ee19216e1338d5fc53d420115297d896ad272205bffe6dcfe37d7"), looks := true }, kinds := [], alts := [], laidByText := true, laidKinds := [.data, .pinned], laidTests := true, laidLooks := .later }
def StatePlaysUptoCardSaid : Prop := Claim7.holds Tryz.pinned (.plain (OpenSpec.upto statePlaysSpec)) statePlaysUptoCard

/-- THE SECOND FORM's CARD OF 'permafrostlaw14.StateSmall'. -/
def stateSmallUptoCard : Claim7 := { stood := { row := stateSmallUptoRow, standIns := [], harness := (true, "7b8c4036b84ee19216e1338d5fc53d420115297d896ad272205bffe6dcfe37d7"), looks := true }, kinds := [], alts := [], laidByText := true, laidKinds := [.data, .pinned], laidTests := true, laidLooks := .later }
def StateSmallUptoCardSaid : Prop := Claim7.holds Tryz.pinned (.plain (OpenSpec.upto stateSmallSpec)) stateSmallUptoCard

/-- THE SECOND FORM's CARD OF 'permafrostlaw14.StateLoads'. -/
def stateLoadsUptoCard : Claim7 := { stood := { row := stateLoadsUptoRow, standIns := [], harness := (true, "7b8c4036b84ee19216e1338d5fc53d420115297d896ad272205bffe6dcfe37d7"), looks := true }, kinds := [], alts := [], laidByText := true, laidKinds := [.data, .pinned], laidTests := true, laidLooks := .later }
def StateLoadsUptoCardSaid : Prop := Claim7.holds Tryz.pinned (.plain (OpenSpec.upto stateLoadsSpec)) stateLoadsUptoCard
end Rows
end Go.Proofs.YtjnhnlabpccgjaaGreatDoor
