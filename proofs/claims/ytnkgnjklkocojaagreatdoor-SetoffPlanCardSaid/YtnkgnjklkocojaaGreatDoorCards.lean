/-
  DERIVED. GIVEN WITH THE SEED: THE CARDS: each row of YtnkgnjklkocojaaGreatDoorRows.lean that lists a variable, with what it lists TIED to the program's text (the seventh form; the later family's looks); each row that meets fmt, with fmt's text TOLD by the authors' own Lean function (tested against real Go, not proved from fmt's source: count such statements apart). THE CARD IS WHAT COUNTS. Prove the row's statement (the work); the ties are given (YtnkgnjklkocojaaGreatDoorTie.lean); close each card by the builder's one call (the guide's Derived/Test/ToyasCard.lean, 'card_holds'). Laid BY PROGRAM, IN A SANDBOX (cutbox-door.mjs). By AI agents, Wed Nov 11 2026. No macro, syntax, notation, axiom, sorry.
-/
import Derived.Test.YtnkgnjklkocojaaGreatDoorRows
import GoSem.ClaimSeven
namespace Go.Proofs.YtnkgnjklkocojaaGreatDoor
namespace Rows

/-- THE TIED CARD OF 'cohousinglaw34.SetoffMatchesReference'. -/
def setoffMatchesReferenceCard : Claim7 := { stood := { row := setoffMatchesReferenceRow, standIns := [], harness := (true, "b9b352d7e7ca658880366bb27da8ecea9b91016bbcfd07f7166eeef9194199a4"), looks := true }, kinds := [], alts := [], laidByText := true, laidKinds := [.data], laidTests := true, laidLooks := .later }
def SetoffMatchesReferenceCardSaid : Prop := Claim7.holds Tryz.pinned (.plain (OpenSpec.ofChange setoffMatchesReferenceSpec)) setoffMatchesReferenceCard

/-- THE TIED CARD OF 'cohousinglaw34.SetoffSums'. -/
def setoffSumsCard : Claim7 := { stood := { row := setoffSumsRow, standIns := [], harness := (true, "b9b352d7e7ca658880366bb27da8ecea9b91016bbcfd07f7166eeef9194199a4"), looks := true }, kinds := [], alts := [], laidByText := true, laidKinds := [.data], laidTests := true, laidLooks := .later }
def SetoffSumsCardSaid : Prop := Claim7.holds Tryz.pinned (.plain (OpenSpec.ofChange setoffSumsSpec)) setoffSumsCard

/-- THE TIED CARD OF 'cohousinglaw34.SetoffOrder'. -/
def setoffOrderCard : Claim7 := { stood := { row := setoffOrderRow, standIns := [], harness := (true, "b9b352d7e7ca658880366bb27da8ecea9b91016bbcfd07f7166eeef9194199a4"), looks := true }, kinds := [], alts := [], laidByText := true, laidKinds := [.data], laidTests := true, laidLooks := .later }
def SetoffOrderCardSaid : Prop := Claim7.holds Tryz.pinned (.plain (OpenSpec.ofChange setoffOrderSpec)) setoffOrderCard

/-- THE TIED CARD OF 'cohousinglaw34.SetoffParts'. -/
def setoffPartsCard : Claim7 := { stood := { row := setoffPartsRow, standIns := [], harness := (true, "b9b352d7e7ca658880366bb27da8ecea9b91016bbcfd07f7166eeef9194199a4"), looks := true }, kinds := [], alts := [], laidByText := true, laidKinds := [.data], laidTests := true, laidLooks := .later }
def SetoffPartsCardSaid : Prop := Claim7.holds Tryz.pinned (.plain (OpenSpec.ofChange setoffPartsSpec)) setoffPartsCard

/-- THE TIED CARD OF 'cohousinglaw34.SetoffInterest'. -/
def setoffInterestCard : Claim7 := { stood := { row := setoffInterestRow, standIns := [], harness := (true, "b9b352d7e7ca658880366bb27da8ecea9b91016bbcfd07f7166eeef9194199a4"), looks := true }, kinds := [], alts := [], laidByText := true, laidKinds := [.data], laidTests := true, laidLooks := .later }
def SetoffInterestCardSaid : Prop := Claim7.holds Tryz.pinned (.plain (OpenSpec.ofChange setoffInterestSpec)) setoffInterestCard

/-- THE TIED CARD OF 'cohousinglaw34.SetoffPlan'. -/
def setoffPlanCard : Claim7 := { stood := { row := setoffPlanRow, standIns := [], harness := (true, "b9b352d7e7ca658880366bb27da8ecea9b91016bbcfd07f7166eeef9194199a4"), looks := true }, kinds := [], alts := [], laidByText := true, laidKinds := [.data], laidTests := true, laidLooks := .later }
def SetoffPlanCardSaid : Prop := Claim7.holds Tryz.pinned (.plain (OpenSpec.ofChange setoffPlanSpec)) setoffPlanCard

/-- THE SECOND FORM's CARD OF 'cohousinglaw34.SetoffMatchesReference'. -/
def setoffMatchesReferenceUptoCard : Claim7 := { stood := { row := setoffMatchesReferenceUptoRow, standIns := [], harness := (true, "b9b352d7e7ca658880366bb27da8ecea9b91016bbcfd07f7166eeef9194199a4"), looks := true }, kinds := [], alts := [], laidByText := true, laidKinds := [.data], laidTests := true, laidLooks := .later }
def SetoffMatchesReferenceUptoCardSaid : Prop := Claim7.holds Tryz.pinned (.plain (OpenSpec.upto setoffMatchesReferenceSpec)) setoffMatchesReferenceUptoCard

/-- THE SECOND FORM's CARD OF 'cohousinglaw34.SetoffSums'. -/
def setoffSumsUptoCard : Claim7 := { stood := { row := setoffSumsUptoRow, standIns := [], harness := (true, "b9b352d7e7ca658880366bb27da8ecea9b91016bbcfd07f7166eeef9194199a4"), looks := true }, kinds := [], alts := [], laidByText := true, laidKinds := [.data], laidTests := true, laidLooks := .later }
def SetoffSumsUptoCardSaid : Prop := Claim7.holds Tryz.pinned (.plain (OpenSpec.upto setoffSumsSpec)) setoffSumsUptoCard

/-- THE SECOND FORM's CARD OF 'cohousinglaw34.SetoffOrder'. -/
def setoffOrderUptoCard : Claim7 := { stood := { row := setoffOrderUptoRow, standIns := [], harness := (true, "b9b352d7e7ca658880366bb27da8ecea9b91016bbcfd07f7166eeef9194199a4"), looks := true }, kinds := [], alts := [], laidByText := true, laidKinds := [.data], laidTests := true, laidLooks := .later }
def SetoffOrderUptoCardSaid : Prop := Claim7.holds Tryz.pinned (.plain (OpenSpec.upto setoffOrderSpec)) setoffOrderUptoCard

/-- THE SECOND FORM's CARD OF 'cohousinglaw34.SetoffParts'. -/
def setoffPartsUptoCard : Claim7 := { stood := { row := setoffPartsUptoRow, standIns := [], harness := (true, "b9b352d7e7ca658880366bb27da8ecea9b91016bbcfd07f7166eeef9194199a4"), looks := true }, kinds := [], alts := [], laidByText := true, laidKinds := [.data], laidTests := true, laidLooks := .later }
def SetoffPartsUptoCardSaid : Prop := Claim7.holds Tryz.pinned (.plain (OpenSpec.upto setoffPartsSpec)) setoffPartsUptoCard

/-- THE SECOND FORM's CARD OF 'cohousinglaw34.SetoffInterest'. -/
def setoffInterestUptoCard : Claim7 := { stood := { row := setoffInterestUptoRow, standIns := [], harness := (true, "b9b352d7e7ca658880366bb27da8ecea9b91016bbcfd07f7166eeef9194199a4"), looks := true }, kinds := [], alts := [], laidByText := true, laidKinds := [.data], laidTests := true, laidLooks := .later }
def SetoffInterestUptoCardSaid : Prop := Claim7.holds Tryz.pinned (.plain (OpenSpec.upto setoffInterestSpec)) setoffInterestUptoCard

/-- THE SECOND FORM's CARD OF 'cohousinglaw34.SetoffPlan'. -/
def setoffPlanUptoCard : Claim7 := { stood := { row := setoffPlanUptoRow, standIns := [], harness := (true, "b9b352d7e7ca658880366bb27da8ecea9b91016bbcfd07f7166eeef9194199a4"), looks := true }, kinds := [], alts := [], laidByText := true, laidKinds := [.data], laidTests := true, laidLooks := .later }
def SetoffPlanUptoCardSaid : Prop := Claim7.holds Tryz.pinned (.plain (OpenSpec.upto setoffPlanSpec)) setoffPlanUptoCard
end Rows
end Go.Proofs.YtnkgnjklkocojaaGreatDoor
