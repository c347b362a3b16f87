/-
  DERIVED. GIVEN WITH THE SEED: THE CARDS: each row of YthcjocojngochaaGreatDoorRows.lean that lists a variable, with what it lists TIED to the program's text (the seventh form; the later family's looks); each row that meets fmt, with fmt's text TOLD by the authors' own Lean function (tested against real Go, not proved from fmt's source: count such statements apart). THE CARD IS WHAT COUNTS. Prove the row's statement (the work); the ties are given (YthcjocojngochaaGreatDoorTie.lean); close each card by the builder's one call (the guide's Derived/Test/ToyasCard.lean, 'card_holds'). Laid BY PROGRAM, IN A SANDBOX (cutbox-door.mjs). By AI agents, Wed Nov 11 2026. No macro, syntax, notation, axiom, sorry.
-/
import Derived.Test.YthcjocojngochaaGreatDoorRows
import GoSem.ClaimSeven
namespace Go.Proofs.YthcjocojngochaaGreatDoor
namespace Rows

/-- THE TIED CARD OF 'cohousinglaw16.FactsLate'. -/
def factsLateCard : Claim7 := { stood := { row := factsLateRow, standIns := [], harness := (true, "f5d10299bb8804484d899352c3597c59620fce5dc545ef57d375c3b0aa57a690"), looks := true }, kinds := [], alts := [], laidByText := true, laidKinds := [.data, .data, .data, .sentinel, .sentinel], laidTests := true, laidLooks := .later }
def FactsLateCardSaid : Prop := Claim7.holds Tryz.pinned (.plain (OpenSpec.ofChange factsLateSpec)) factsLateCard

/-- THE TIED CARD OF 'cohousinglaw16.FactsAside'. -/
def factsAsideCard : Claim7 := { stood := { row := factsAsideRow, standIns := [], harness := (true, "f5d10299bb8804484d899352c3597c59620fce5dc545ef57d375c3b0aa57a690"), looks := true }, kinds := [], alts := [], laidByText := true, laidKinds := [.data, .data, .data, .sentinel, .sentinel], laidTests := true, laidLooks := .later }
def FactsAsideCardSaid : Prop := Claim7.holds Tryz.pinned (.plain (OpenSpec.ofChange factsAsideSpec)) factsAsideCard

/-- THE TIED CARD OF 'cohousinglaw16.FactsDays'. -/
def factsDaysCard : Claim7 := { stood := { row := factsDaysRow, standIns := [], harness := (true, "f5d10299bb8804484d899352c3597c59620fce5dc545ef57d375c3b0aa57a690"), looks := true }, kinds := [], alts := [], laidByText := true, laidKinds := [.data, .data, .data, .sentinel, .sentinel], laidTests := true, laidLooks := .later }
def FactsDaysCardSaid : Prop := Claim7.holds Tryz.pinned (.plain (OpenSpec.ofChange factsDaysSpec)) factsDaysCard

/-- THE TIED CARD OF 'cohousinglaw16.FactsMatchesReference'. -/
def factsMatchesReferenceCard : Claim7 := { stood := { row := factsMatchesReferenceRow, standIns := [], harness := (true, "f5d10299bb8804484d899352c3597c59620fce5dc545ef57d375c3b0aa57a690"), looks := true }, kinds := [], alts := [], laidByText := true, laidKinds := [.data, .data, .data, .sentinel, .sentinel], laidTests := true, laidLooks := .later }
def FactsMatchesReferenceCardSaid : Prop := Claim7.holds Tryz.pinned (.plain (OpenSpec.ofChange factsMatchesReferenceSpec)) factsMatchesReferenceCard

/-- THE TIED CARD OF 'cohousinglaw16.FactsOrder'. -/
def factsOrderCard : Claim7 := { stood := { row := factsOrderRow, standIns := [], harness := (true, "f5d10299bb8804484d899352c3597c59620fce5dc545ef57d375c3b0aa57a690"), looks := true }, kinds := [], alts := [], laidByText := true, laidKinds := [.data, .data, .data, .sentinel, .sentinel], laidTests := true, laidLooks := .later }
def FactsOrderCardSaid : Prop := Claim7.holds Tryz.pinned (.plain (OpenSpec.ofChange factsOrderSpec)) factsOrderCard

/-- THE TIED CARD OF 'cohousinglaw16.FactsDiffers'. -/
def factsDiffersCard : Claim7 := { stood := { row := factsDiffersRow, standIns := [], harness := (true, "f5d10299bb8804484d899352c3597c59620fce5dc545ef57d375c3b0aa57a690"), looks := true }, kinds := [], alts := [], laidByText := true, laidKinds := [.data, .data, .data, .sentinel, .sentinel], laidTests := true, laidLooks := .later }
def FactsDiffersCardSaid : Prop := Claim7.holds Tryz.pinned (.plain (OpenSpec.ofChange factsDiffersSpec)) factsDiffersCard

/-- THE TIED CARD OF 'cohousinglaw16.FactsValues'. -/
def factsValuesCard : Claim7 := { stood := { row := factsValuesRow, standIns := [], harness := (true, "f5d10299bb8804484d899352c3597c59620fce5dc545ef57d375c3b0aa57a690"), looks := true }, kinds := [], alts := [], laidByText := true, laidKinds := [.data, .data, .data, .sentinel, .sentinel], laidTests := true, laidLooks := .later }
def FactsValuesCardSaid : Prop := Claim7.holds Tryz.pinned (.plain (OpenSpec.ofChange factsValuesSpec)) factsValuesCard

/-- THE SECOND FORM's CARD OF 'cohousinglaw16.FactsLate'. -/
def factsLateUptoCard : Claim7 := { stood := { row := factsLateUptoRow, standIns := [], harness := (true, "f5d10299bb8804484d899352c3597c59620fce5dc545ef57d375c3b0aa57a690"), looks := true }, kinds := [], alts := [], laidByText := true, laidKinds := [.data, .data, .data, .sentinel, .sentinel], laidTests := true, laidLooks := .later }
def FactsLateUptoCardSaid : Prop := Claim7.holds Tryz.pinned (.plain (OpenSpec.upto factsLateSpec)) factsLateUptoCard

/-- THE SECOND FORM's CARD OF 'cohousinglaw16.FactsAside'. -/
def factsAsideUptoCard : Claim7 := { stood := { row := factsAsideUptoRow, standIns := [], harness := (true, "f5d10299bb8804484d899352c3597c59620fce5dc545ef57d375c3b0aa57a690"), looks := true }, kinds := [], alts := [], laidByText := true, laidKinds := [.data, .data, .data, .sentinel, .sentinel], laidTests := true, laidLooks := .later }
def FactsAsideUptoCardSaid : Prop := Claim7.holds Tryz.pinned (.plain (OpenSpec.upto factsAsideSpec)) factsAsideUptoCard

/-- THE SECOND FORM's CARD OF 'cohousinglaw16.FactsDays'. -/
def factsDaysUptoCard : Claim7 := { stood := { row := factsDaysUptoRow, standIns := [], harness := (true, "f5d10299bb8804484d899352c3597c59620fce5dc545ef57d375c3b0aa57a690"), looks := true }, kinds := [], alts := [], laidByText := true, laidKinds := [.data, .data, .data, .sentinel, .sentinel], laidTests := true, laidLooks := .later }
def FactsDaysUptoCardSaid : Prop := Claim7.holds Tryz.pinned (.plain (OpenSpec.upto factsDaysSpec)) factsDaysUptoCard

/-- THE SECOND FORM's CARD OF 'cohousinglaw16.FactsMatchesReference'. -/
def factsMatchesReferenceUptoCard : Claim7 := { stood := { row := factsMatchesReferenceUptoRow, standIns := [], harness := (true, "f5d10299bb8804484d899352c3597c59620fce5dc545ef57d375c3b0aa57a690"), looks := true }, kinds := [], alts := [], laidByText := true, laidKinds := [.data, .data, .data, .sentinel, .sentinel], laidTests := true, laidLooks := .later }
def FactsMatchesReferenceUptoCardSaid : Prop := Claim7.holds Tryz.pinned (.plain (OpenSpec.upto factsMatchesReferenceSpec)) factsMatchesReferenceUptoCard

/-- THE SECOND FORM's CARD OF 'cohousinglaw16.FactsOrder'. -/
def factsOrderUptoCard : Claim7 := { stood := { row := factsOrderUptoRow, standIns := [], harness := (true, "f5d10299bb8804484d899352c3597c59620fce5dc545ef57d375c3b0aa57a690"), looks := true }, kinds := [], alts := [], laidByText := true, laidKinds := [.data, .data, .data, .sentinel, .sentinel], laidTests := true, laidLooks := .later }
def FactsOrderUptoCardSaid : Prop := Claim7.holds Tryz.pinned (.plain (OpenSpec.upto factsOrderSpec)) factsOrderUptoCard

/-- THE SECOND FORM's CARD OF 'cohousinglaw16.FactsDiffers'. -/
def factsDiffersUptoCard : Claim7 := { stood := { row := factsDiffersUptoRow, standIns := [], harness := (true, "f5d10299bb8804484d899352c3597c59620fce5dc545ef57d375c3b0aa57a690"), looks := true }, kinds := [], alts := [], laidByText := true, laidKinds := [.data, .data, .data, .sentinel, .sentinel], laidTests := true, laidLooks := .later }
def FactsDiffersUptoCardSaid : Prop := Claim7.holds Tryz.pinned (.plain (OpenSpec.upto factsDiffersSpec)) factsDiffersUptoCard

/-- THE SECOND FORM's CARD OF 'cohousinglaw16.FactsValues'. -/
def factsValuesUptoCard : Claim7 := { stood := { row := factsValuesUptoRow, standIns := [], harness := (true, "f5d10299bb8804484d899352c3597c59620fce5dc545ef57d375c3b0aa57a690"), looks := true }, kinds := [], alts := [], laidByText := true, laidKinds := [.data, .data, .data, .sentinel, .sentinel], laidTests := true, laidLooks := .later }
def FactsValuesUptoCardSaid : Prop := Claim7.holds Tryz.pinned (.plain (OpenSpec.upto factsValuesSpec)) factsValuesUptoCard
end Rows
end Go.Proofs.YthcjocojngochaaGreatDoor
