/-
  DERIVED. GIVEN WITH THE SEED: THE CARDS: each row of YteifflpjhlgpjaaDoorRows.lean that lists a variable, with what it lists TIED to the program's text (the seventh form; the later family's looks); each row that meets fmt, with fmt's text TOLD by the authors' own Lean function (tested against real Go, not proved from fmt's source: count such statements apart). THE CARD IS WHAT COUNTS. Prove the row's statement (the work); the ties are given (YteifflpjhlgpjaaDoorTie.lean); close each card by the builder's one call (the guide's Derived/Test/ToyasCard.lean, 'card_holds'). Laid BY PROGRAM, IN A SANDBOX (cutbox-door.mjs). By AI agents, Wed Nov 11 2026. No macro, syntax, notation, axiom, sorry.
-/
import Derived.Test.YteifflpjhlgpjaaDoorRows
import GoSem.ClaimSeven
namespace Go.Proofs.YteifflpjhlgpjaaDoor
namespace Rows

/-- THE TIED CARD OF 'cohousinglaw01.RationalReduced'. -/
def rationalReducedCard : Claim7 := { stood := { row := rationalReducedRow, standIns := [], harness := (true, "2714db4512c39ed30cbca0b10b1f15753955e472a09e5c51a33b4c18b4634e7e"), looks := true }, kinds := [], alts := [], laidByText := true, laidKinds := [.data, .data, .data, .sentinel, .sentinel], laidTests := true, laidLooks := .later }
def RationalReducedCardSaid : Prop := Claim7.holds Tryd.pinned (.plain (OpenSpec.ofChange rationalReducedSpec)) rationalReducedCard

/-- THE TIED CARD OF 'cohousinglaw01.RationalProducts'. -/
def rationalProductsCard : Claim7 := { stood := { row := rationalProductsRow, standIns := [], harness := (true, "2714db4512c39ed30cbca0b10b1f15753955e472a09e5c51a33b4c18b4634e7e"), looks := true }, kinds := [], alts := [], laidByText := true, laidKinds := [.data, .data, .data, .sentinel, .sentinel], laidTests := true, laidLooks := .later }
def RationalProductsCardSaid : Prop := Claim7.holds Tryd.pinned (.plain (OpenSpec.ofChange rationalProductsSpec)) rationalProductsCard

/-- THE TIED CARD OF 'cohousinglaw01.RationalText'. -/
def rationalTextCard : Claim7 := { stood := { row := rationalTextRow, standIns := [], harness := (true, "2714db4512c39ed30cbca0b10b1f15753955e472a09e5c51a33b4c18b4634e7e"), looks := true }, kinds := [], alts := [], laidByText := true, laidKinds := [.data, .data, .data, .sentinel, .sentinel], laidTests := true, laidLooks := .later }
def RationalTextCardSaid : Prop := Claim7.holds Tryd.pinned (.plain (OpenSpec.ofChange rationalTextSpec)) rationalTextCard

/-- THE TIED CARD OF 'cohousinglaw01.RationalMatchesReference'. -/
def rationalMatchesReferenceCard : Claim7 := { stood := { row := rationalMatchesReferenceRow, standIns := [], harness := (true, "2714db4512c39ed30cbca0b10b1f15753955e472a09e5c51a33b4c18b4634e7e"), looks := true }, kinds := [], alts := [], laidByText := true, laidKinds := [.data, .data, .data, .sentinel, .sentinel], laidTests := true, laidLooks := .later }
def RationalMatchesReferenceCardSaid : Prop := Claim7.holds Tryd.pinned (.plain (OpenSpec.ofChange rationalMatchesReferenceSpec)) rationalMatchesReferenceCard

/-- THE TIED CARD OF 'cohousinglaw01.RationalSums'. -/
def rationalSumsCard : Claim7 := { stood := { row := rationalSumsRow, standIns := [], harness := (true, "2714db4512c39ed30cbca0b10b1f15753955e472a09e5c51a33b4c18b4634e7e"), looks := true }, kinds := [], alts := [], laidByText := true, laidKinds := [.data, .data, .data, .sentinel, .sentinel], laidTests := true, laidLooks := .later }
def RationalSumsCardSaid : Prop := Claim7.holds Tryd.pinned (.plain (OpenSpec.ofChange rationalSumsSpec)) rationalSumsCard

/-- THE TIED CARD OF 'cohousinglaw01.RationalOrder'. -/
def rationalOrderCard : Claim7 := { stood := { row := rationalOrderRow, standIns := [], harness := (true, "2714db4512c39ed30cbca0b10b1f15753955e472a09e5c51a33b4c18b4634e7e"), looks := true }, kinds := [], alts := [], laidByText := true, laidKinds := [.data, .data, .data, .sentinel, .sentinel], laidTests := true, laidLooks := .later }
def RationalOrderCardSaid : Prop := Claim7.holds Tryd.pinned (.plain (OpenSpec.ofChange rationalOrderSpec)) rationalOrderCard

/-- THE TIED CARD OF 'cohousinglaw01.RationalFloor'. -/
def rationalFloorCard : Claim7 := { stood := { row := rationalFloorRow, standIns := [], harness := (true, "2714db4512c39ed30cbca0b10b1f15753955e472a09e5c51a33b4c18b4634e7e"), looks := true }, kinds := [], alts := [], laidByText := true, laidKinds := [.data, .data, .data, .sentinel, .sentinel], laidTests := true, laidLooks := .later }
def RationalFloorCardSaid : Prop := Claim7.holds Tryd.pinned (.plain (OpenSpec.ofChange rationalFloorSpec)) rationalFloorCard

/-- THE SECOND FORM's CARD OF 'cohousinglaw01.RationalReduced'. -/
def rationalReducedUptoCard : Claim7 := { stood := { row := rationalReducedUptoRow, standIns := [], harness := (true, "2714db4512c39ed30cbca0b10b1f15753955e472a09e5c51a33b4c18b4634e7e"), looks := true }, kinds := [], alts := [], laidByText := true, laidKinds := [.data, .data, .data, .sentinel, .sentinel], laidTests := true, laidLooks := .later }
def RationalReducedUptoCardSaid : Prop := Claim7.holds Tryd.pinned (.plain (OpenSpec.upto rationalReducedSpec)) rationalReducedUptoCard

/-- THE SECOND FORM's CARD OF 'cohousinglaw01.RationalProducts'. -/
def rationalProductsUptoCard : Claim7 := { stood := { row := rationalProductsUptoRow, standIns := [], harness := (true, "2714db4512c39ed30cbca0b10b1f15753955e472a09e5c51a33b4c18b4634e7e"), looks := true }, kinds := [], alts := [], laidByText := true, laidKinds := [.data, .data, .data, .sentinel, .sentinel], laidTests := true, laidLooks := .later }
def RationalProductsUptoCardSaid : Prop := Claim7.holds Tryd.pinned (.plain (OpenSpec.upto rationalProductsSpec)) rationalProductsUptoCard

/-- THE SECOND FORM's CARD OF 'cohousinglaw01.RationalText'. -/
def rationalTextUptoCard : Claim7 := { stood := { row := rationalTextUptoRow, standIns := [], harness := (true, "2714db4512c39ed30cbca0b10b1f15753955e472a09e5c51a33b4c18b4634e7e"), looks := true }, kinds := [], alts := [], laidByText := true, laidKinds := [.data, .data, .data, .sentinel, .sentinel], laidTests := true, laidLooks := .later }
def RationalTextUptoCardSaid : Prop := Claim7.holds Tryd.pinned (.plain (OpenSpec.upto rationalTextSpec)) rationalTextUptoCard

/-- THE SECOND FORM's CARD OF 'cohousinglaw01.RationalMatchesReference'. -/
def rationalMatchesReferenceUptoCard : Claim7 := { stood := { row := rationalMatchesReferenceUptoRow, standIns := [], harness := (true, "2714db4512c39ed30cbca0b10b1f15753955e472a09e5c51a33b4c18b4634e7e"), looks := true }, kinds := [], alts := [], laidByText := true, laidKinds := [.data, .data, .data, .sentinel, .sentinel], laidTests := true, laidLooks := .later }
def RationalMatchesReferenceUptoCardSaid : Prop := Claim7.holds Tryd.pinned (.plain (OpenSpec.upto rationalMatchesReferenceSpec)) rationalMatchesReferenceUptoCard

/-- THE SECOND FORM's CARD OF 'cohousinglaw01.RationalSums'. -/
def rationalSumsUptoCard : Claim7 := { stood := { row := rationalSumsUptoRow, standIns := [], harness := (true, "2714db4512c39ed30cbca0b10b1f15753955e472a09e5c51a33b4c18b4634e7e"), looks := true }, kinds := [], alts := [], laidByText := true, laidKinds := [.data, .data, .data, .sentinel, .sentinel], laidTests := true, laidLooks := .later }
def RationalSumsUptoCardSaid : Prop := Claim7.holds Tryd.pinned (.plain (OpenSpec.upto rationalSumsSpec)) rationalSumsUptoCard

/-- THE SECOND FORM's CARD OF 'cohousinglaw01.RationalOrder'. -/
def rationalOrderUptoCard : Claim7 := { stood := { row := rationalOrderUptoRow, standIns := [], harness := (true, "2714db4512c39ed30cbca0b10b1f15753955e472a09e5c51a33b4c18b4634e7e"), looks := true }, kinds := [], alts := [], laidByText := true, laidKinds := [.data, .data, .data, .sentinel, .sentinel], laidTests := true, laidLooks := .later }
def RationalOrderUptoCardSaid : Prop := Claim7.holds Tryd.pinned (.plain (OpenSpec.upto rationalOrderSpec)) rationalOrderUptoCard

/-- THE SECOND FORM's CARD OF 'cohousinglaw01.RationalFloor'. -/
def rationalFloorUptoCard : Claim7 := { stood := { row := rationalFloorUptoRow, standIns := [], harness := (true, "2714db4512c39ed30cbca0b10b1f15753955e472a09e5c51a33b4c18b4634e7e"), looks := true }, kinds := [], alts := [], laidByText := true, laidKinds := [.data, .data, .data, .sentinel, .sentinel], laidTests := true, laidLooks := .later }
def RationalFloorUptoCardSaid : Prop := Claim7.holds Tryd.pinned (.plain (OpenSpec.upto rationalFloorSpec)) rationalFloorUptoCard
end Rows
end Go.Proofs.YteifflpjhlgpjaaDoor
