/-
  DERIVED. GIVEN WITH THE SEED: THE CARDS: each row of YtdgmndahfbmgfaaDoorRows.lean that lists a variable, with what it lists TIED to the program's text (the seventh form; the later family's looks); each row that meets fmt, with fmt's text TOLD by the authors' own Lean function (tested against real Go, not proved from fmt's source: count such statements apart). THE CARD IS WHAT COUNTS. Prove the row's statement (the work); the ties are given (YtdgmndahfbmgfaaDoorTie.lean); close each card by the builder's one call (the guide's Derived/Test/ToyasCard.lean, 'card_holds'). Laid BY PROGRAM, IN A SANDBOX (cutbox-door.mjs). By AI agents, Wed Nov 11 2026. No macro, syntax, notation, axiom, sorry.
-/
import Derived.Test.YtdgmndahfbmgfaaDoorRows
import GoSem.ClaimSeven
namespace Go.Proofs.YtdgmndahfbmgfaaDoor
namespace Rows

/-- THE TIED CARD OF 'permafrostlaw7.PathBack'. -/
def pathBackCard : Claim7 := { stood := { row := pathBackRow, standIns := [], harness := (true, "49df89c9a868d4033b3b3ead8e3407bf75057ae75649359e80fbed5291dc519e"), looks := false }, kinds := [], alts := [], laidByText := true, laidKinds := [.data, .pinned], laidTests := true, laidLooks := .later }
def PathBackCardSaid : Prop := Claim7.holds Tryd.pinned (.plain (OpenSpec.ofChange pathBackSpec)) pathBackCard

/-- THE TIED CARD OF 'permafrostlaw7.PathNumbers'. -/
def pathNumbersCard : Claim7 := { stood := { row := pathNumbersRow, standIns := [], harness := (true, "49df89c9a868d4033b3b3ead8e3407bf75057ae75649359e80fbed5291dc519e"), looks := false }, kinds := [], alts := [], laidByText := true, laidKinds := [.data, .pinned], laidTests := true, laidLooks := .later }
def PathNumbersCardSaid : Prop := Claim7.holds Tryd.pinned (.plain (OpenSpec.ofChange pathNumbersSpec)) pathNumbersCard

/-- THE TIED CARD OF 'permafrostlaw7.PathTells'. -/
def pathTellsCard : Claim7 := { stood := { row := pathTellsRow, standIns := [], harness := (true, "49df89c9a868d4033b3b3ead8e3407bf75057ae75649359e80fbed5291dc519e"), looks := false }, kinds := [], alts := [], laidByText := true, laidKinds := [.data, .pinned], laidTests := true, laidLooks := .later }
def PathTellsCardSaid : Prop := Claim7.holds Tryd.pinned (.plain (OpenSpec.ofChange pathTellsSpec)) pathTellsCard

/-- THE TIED CARD OF 'permafrostlaw7.PathParents'. -/
def pathParentsCard : Claim7 := { stood := { row := pathParentsRow, standIns := [], harness := (true, "49df89c9a868d4033b3b3ead8e3407bf75057ae75649359e80fbed5291dc519e"), looks := false }, kinds := [], alts := [], laidByText := true, laidKinds := [.data, .pinned], laidTests := true, laidLooks := .later }
def PathParentsCardSaid : Prop := Claim7.holds Tryd.pinned (.plain (OpenSpec.ofChange pathParentsSpec)) pathParentsCard

/-- THE SECOND FORM's CARD OF 'permafrostlaw7.PathBack'. -/
def pathBackUptoCard : Claim7 := { stood := { row := pathBackUptoRow, standIns := [], harness := (true, "49df89c9a868d4033b3b3ead8e3407bf75057ae75649359e80fbed5291dc519e"), looks := false }, kinds := [], alts := [], laidByText := true, laidKinds := [.data, .pinned], laidTests := true, laidLooks := .later }
def PathBackUptoCardSaid : Prop := Claim7.holds Tryd.pinned (.plain (OpenSpec.upto pathBackSpec)) pathBackUptoCard

/-- THE SECOND FORM's CARD OF 'permafrostlaw7.PathNumbers'. -/
def pathNumbersUptoCard : Claim7 := { stood := { row := pathNumbersUptoRow, standIns := [], harness := (true, "49df89c9a868d4033b3b3ead8e3407bf75057ae75649359e80fbed5291dc519e"), looks := false }, kinds := [], alts := [], laidByText := true, laidKinds := [.data, .pinned], laidTests := true, laidLooks := .later }
def PathNumbersUptoCardSaid : Prop := Claim7.holds Tryd.pinned (.plain (OpenSpec.upto pathNumbersSpec)) pathNumbersUptoCard

/-- THE SECOND FORM's CARD OF 'permafrostlaw7.PathTells'. -/
def pathTellsUptoCard : Claim7 := { stood := { row := pathTellsUptoRow, standIns := [], harness := (true, "49df89c9a868d4033b3b3ead8e3407bf75057ae75649359e80fbed5291dc519e"), looks := false }, kinds := [], alts := [], laidByText := true, laidKinds := [.data, .pinned], laidTests := true, laidLooks := .later }
def PathTellsUptoCardSaid : Prop := Claim7.holds Tryd.pinned (.plain (OpenSpec.upto pathTellsSpec)) pathTellsUptoCard

/-- THE SECOND FORM's CARD OF 'permafrostlaw7.PathParents'. -/
def pathParentsUptoCard : Claim7 := { stood := { row := pathParentsUptoRow, standIns := [], harness := (true, "49df89c9a868d4033b3b3ead8e3407bf75057ae75649359e80fbed5291dc519e"), looks := false }, kinds := [], alts := [], laidByText := true, laidKinds := [.data, .pinned], laidTests := true, laidLooks := .later }
def PathParentsUptoCardSaid : Prop := Claim7.holds Tryd.pinned (.plain (OpenSpec.upto pathParentsSpec)) pathParentsUptoCard
end Rows
end Go.Proofs.YtdgmndahfbmgfaaDoor
