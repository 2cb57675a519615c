/-
  DERIVED. GIVEN WITH THE SEED: THE CARDS: each row of YtbfjkclijjhlhaaDoorRows.lean that lists a variable, with what it lists TIED to the program's text (the seventh form; the later family's looks); each row that meets fmt, with fmt's text TOLD by the authors' own Lean function (tested against real Go, not proved from fmt's source: count such statements apart). THE CARD IS WHAT COUNTS. Prove the row's statement (the work); the ties are given (YtbfjkclijjhlhaaDoorTie.lean); close each card by the builder's one call (the guide's Derived/Test/ToyasCard.lean, 'card_holds'). Laid BY PROGRAM, IN A SANDBOX (cutbox-door.mjs). By AI agents, Wed Nov 11 2026. No macro, syntax, notation, axiom, sorry.
-/
import Derived.Test.YtbfjkclijjhlhaaDoorRows
import GoSem.ClaimSeven
namespace Go.Proofs.YtbfjkclijjhlhaaDoor
namespace Rows

/-- THE TIED CARD OF 'slagheaplaw01.ElemOrder'. -/
def elemOrderCard : Claim7 := { stood := { row := elemOrderRow, standIns := [], harness := (true, "3396a2b4c893c248c2ecc2a123e66547fdc8e397ba3b7f7615a77bd9c8d8db64"), looks := true }, kinds := [], alts := [], laidByText := true, laidKinds := [.data, .data, .data, .sentinel, .sentinel], laidTests := true, laidLooks := .later }
def ElemOrderCardSaid : Prop := Claim7.holds Tryd.pinned (.plain (OpenSpec.ofChange elemOrderSpec)) elemOrderCard

/-- THE TIED CARD OF 'slagheaplaw01.ElemTexts'. -/
def elemTextsCard : Claim7 := { stood := { row := elemTextsRow, standIns := [], harness := (true, "3396a2b4c893c248c2ecc2a123e66547fdc8e397ba3b7f7615a77bd9c8d8db64"), looks := true }, kinds := [], alts := [], laidByText := true, laidKinds := [.data, .data, .data, .sentinel, .sentinel], laidTests := true, laidLooks := .later }
def ElemTextsCardSaid : Prop := Claim7.holds Tryd.pinned (.plain (OpenSpec.ofChange elemTextsSpec)) elemTextsCard

/-- THE TIED CARD OF 'slagheaplaw01.ElemTotal'. -/
def elemTotalCard : Claim7 := { stood := { row := elemTotalRow, standIns := [], harness := (true, "3396a2b4c893c248c2ecc2a123e66547fdc8e397ba3b7f7615a77bd9c8d8db64"), looks := true }, kinds := [], alts := [], laidByText := true, laidKinds := [.data, .data, .data, .sentinel, .sentinel], laidTests := true, laidLooks := .later }
def ElemTotalCardSaid : Prop := Claim7.holds Tryd.pinned (.plain (OpenSpec.ofChange elemTotalSpec)) elemTotalCard

/-- THE TIED CARD OF 'slagheaplaw01.ElemSorts'. -/
def elemSortsCard : Claim7 := { stood := { row := elemSortsRow, standIns := [], harness := (true, "3396a2b4c893c248c2ecc2a123e66547fdc8e397ba3b7f7615a77bd9c8d8db64"), looks := true }, kinds := [], alts := [], laidByText := true, laidKinds := [.data, .data, .data, .sentinel, .sentinel], laidTests := true, laidLooks := .later }
def ElemSortsCardSaid : Prop := Claim7.holds Tryd.pinned (.plain (OpenSpec.ofChange elemSortsSpec)) elemSortsCard

/-- THE TIED CARD OF 'slagheaplaw01.ElemLeast'. -/
def elemLeastCard : Claim7 := { stood := { row := elemLeastRow, standIns := [], harness := (true, "3396a2b4c893c248c2ecc2a123e66547fdc8e397ba3b7f7615a77bd9c8d8db64"), looks := true }, kinds := [], alts := [], laidByText := true, laidKinds := [.data, .data, .data, .sentinel, .sentinel], laidTests := true, laidLooks := .later }
def ElemLeastCardSaid : Prop := Claim7.holds Tryd.pinned (.plain (OpenSpec.ofChange elemLeastSpec)) elemLeastCard

/-- THE TIED CARD OF 'slagheaplaw01.ElemParses'. -/
def elemParsesCard : Claim7 := { stood := { row := elemParsesRow, standIns := [], harness := (true, "3396a2b4c893c248c2ecc2a123e66547fdc8e397ba3b7f7615a77bd9c8d8db64"), looks := true }, kinds := [], alts := [], laidByText := true, laidKinds := [.data, .data, .data, .sentinel, .sentinel], laidTests := true, laidLooks := .later }
def ElemParsesCardSaid : Prop := Claim7.holds Tryd.pinned (.plain (OpenSpec.ofChange elemParsesSpec)) elemParsesCard

/-- THE SECOND FORM's CARD OF 'slagheaplaw01.ElemOrder'. -/
def elemOrderUptoCard : Claim7 := { stood := { row := elemOrderUptoRow, standIns := [], harness := (true, "3396a2b4c893c248c2ecc2a123e66547fdc8e397ba3b7f7615a77bd9c8d8db64"), looks := true }, kinds := [], alts := [], laidByText := true, laidKinds := [.data, .data, .data, .sentinel, .sentinel], laidTests := true, laidLooks := .later }
def ElemOrderUptoCardSaid : Prop := Claim7.holds Tryd.pinned (.plain (OpenSpec.upto elemOrderSpec)) elemOrderUptoCard

/-- THE SECOND FORM's CARD OF 'slagheaplaw01.ElemTexts'. -/
def elemTextsUptoCard : Claim7 := { stood := { row := elemTextsUptoRow, standIns := [], harness := (true, "3396a2b4c893c248c2ecc2a123e66547fdc8e397ba3b7f7615a77bd9c8d8db64"), looks := true }, kinds := [], alts := [], laidByText := true, laidKinds := [.data, .data, .data, .sentinel, .sentinel], laidTests := true, laidLooks := .later }
def ElemTextsUptoCardSaid : Prop := Claim7.holds Tryd.pinned (.plain (OpenSpec.upto elemTextsSpec)) elemTextsUptoCard

/-- THE SECOND FORM's CARD OF 'slagheaplaw01.ElemTotal'. -/
def elemTotalUptoCard : Claim7 := { stood := { row := elemTotalUptoRow, standIns := [], harness := (true, "3396a2b4c893c248c2ecc2a123e66547fdc8e397ba3b7f7615a77bd9c8d8db64"), looks := true }, kinds := [], alts := [], laidByText := true, laidKinds := [.data, .data, .data, .sentinel, .sentinel], laidTests := true, laidLooks := .later }
def ElemTotalUptoCardSaid : Prop := Claim7.holds Tryd.pinned (.plain (OpenSpec.upto elemTotalSpec)) elemTotalUptoCard

/-- THE SECOND FORM's CARD OF 'slagheaplaw01.ElemSorts'. -/
def elemSortsUptoCard : Claim7 := { stood := { row := elemSortsUptoRow, standIns := [], harness := (true, "3396a2b4c893c248c2ecc2a123e66547fdc8e397ba3b7f7615a77bd9c8d8db64"), looks := true }, kinds := [], alts := [], laidByText := true, laidKinds := [.data, .data, .data, .sentinel, .sentinel], laidTests := true, laidLooks := .later }
def ElemSortsUptoCardSaid : Prop := Claim7.holds Tryd.pinned (.plain (OpenSpec.upto elemSortsSpec)) elemSortsUptoCard

/-- THE SECOND FORM's CARD OF 'slagheaplaw01.ElemLeast'. -/
def elemLeastUptoCard : Claim7 := { stood := { row := elemLeastUptoRow, standIns := [], harness := (true, "3396a2b4c893c248c2ecc2a123e66547fdc8e397ba3b7f7615a77bd9c8d8db64"), looks := true }, kinds := [], alts := [], laidByText := true, laidKinds := [.data, .data, .data, .sentinel, .sentinel], laidTests := true, laidLooks := .later }
def ElemLeastUptoCardSaid : Prop := Claim7.holds Tryd.pinned (.plain (OpenSpec.upto elemLeastSpec)) elemLeastUptoCard

/-- THE SECOND FORM's CARD OF 'slagheaplaw01.ElemParses'. -/
def elemParsesUptoCard : Claim7 := { stood := { row := elemParsesUptoRow, standIns := [], harness := (true, "3396a2b4c893c248c2ecc2a123e66547fdc8e397ba3b7f7615a77bd9c8d8db64"), looks := true }, kinds := [], alts := [], laidByText := true, laidKinds := [.data, .data, .data, .sentinel, .sentinel], laidTests := true, laidLooks := .later }
def ElemParsesUptoCardSaid : Prop := Claim7.holds Tryd.pinned (.plain (OpenSpec.upto elemParsesSpec)) elemParsesUptoCard
end Rows
end Go.Proofs.YtbfjkclijjhlhaaDoor
