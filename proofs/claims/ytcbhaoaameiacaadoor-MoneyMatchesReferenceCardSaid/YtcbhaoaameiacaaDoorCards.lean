/-
  DERIVED. GIVEN WITH THE SEED: THE CARDS: each row of YtcbhaoaameiacaaDoorRows.lean that lists a variable, with what it lists TIED to the program's text (the seventh form; the later family's looks); each row that meets fmt, with fmt's text TOLD by the authors' own Lean function (tested against real Go, not proved from fmt's source: count such statements apart). THE CARD IS WHAT COUNTS. Prove the row's statement (the work); the ties are given (YtcbhaoaameiacaaDoorTie.lean); close each card by the builder's one call (the guide's Derived/Test/ToyasCard.lean, 'card_holds'). Laid BY PROGRAM, IN A SANDBOX (cutbox-door.mjs). By AI agents, Wed Nov 11 2026. No macro, syntax, notation, axiom, sorry.
-/
import Derived.Test.YtcbhaoaameiacaaDoorRows
import GoSem.ClaimSeven
namespace Go.Proofs.YtcbhaoaameiacaaDoor
namespace Rows

/-- THE TIED CARD OF 'cohousinglaw02.MoneyAdds'. -/
def moneyAddsCard : Claim7 := { stood := { row := moneyAddsRow, standIns := [], harness := (true, "8d4804e318f36d4962864da9af54a3044db60f0fa999b87983c3a8aece1083a9"), looks := true }, kinds := [], alts := [], laidByText := true, laidKinds := [.data, .data, .data], laidTests := true, laidLooks := .later }
def MoneyAddsCardSaid : Prop := Claim7.holds Tryd.pinned (.plain (OpenSpec.ofChange moneyAddsSpec)) moneyAddsCard

/-- THE TIED CARD OF 'cohousinglaw02.MoneyRounds'. -/
def moneyRoundsCard : Claim7 := { stood := { row := moneyRoundsRow, standIns := [], harness := (true, "8d4804e318f36d4962864da9af54a3044db60f0fa999b87983c3a8aece1083a9"), looks := true }, kinds := [], alts := [], laidByText := true, laidKinds := [.data, .data, .data], laidTests := true, laidLooks := .later }
def MoneyRoundsCardSaid : Prop := Claim7.holds Tryd.pinned (.plain (OpenSpec.ofChange moneyRoundsSpec)) moneyRoundsCard

/-- THE TIED CARD OF 'cohousinglaw02.MoneyMonotone'. -/
def moneyMonotoneCard : Claim7 := { stood := { row := moneyMonotoneRow, standIns := [], harness := (true, "8d4804e318f36d4962864da9af54a3044db60f0fa999b87983c3a8aece1083a9"), looks := true }, kinds := [], alts := [], laidByText := true, laidKinds := [.data, .data, .data], laidTests := true, laidLooks := .later }
def MoneyMonotoneCardSaid : Prop := Claim7.holds Tryd.pinned (.plain (OpenSpec.ofChange moneyMonotoneSpec)) moneyMonotoneCard

/-- THE TIED CARD OF 'cohousinglaw02.MoneyParts'. -/
def moneyPartsCard : Claim7 := { stood := { row := moneyPartsRow, standIns := [], harness := (true, "8d4804e318f36d4962864da9af54a3044db60f0fa999b87983c3a8aece1083a9"), looks := true }, kinds := [], alts := [], laidByText := true, laidKinds := [.data, .data, .data], laidTests := true, laidLooks := .later }
def MoneyPartsCardSaid : Prop := Claim7.holds Tryd.pinned (.plain (OpenSpec.ofChange moneyPartsSpec)) moneyPartsCard

/-- THE TIED CARD OF 'cohousinglaw02.MoneyRemainders'. -/
def moneyRemaindersCard : Claim7 := { stood := { row := moneyRemaindersRow, standIns := [], harness := (true, "8d4804e318f36d4962864da9af54a3044db60f0fa999b87983c3a8aece1083a9"), looks := true }, kinds := [], alts := [], laidByText := true, laidKinds := [.data, .data, .data], laidTests := true, laidLooks := .later }
def MoneyRemaindersCardSaid : Prop := Claim7.holds Tryd.pinned (.plain (OpenSpec.ofChange moneyRemaindersSpec)) moneyRemaindersCard

/-- THE TIED CARD OF 'cohousinglaw02.MoneyMatchesReference'. -/
def moneyMatchesReferenceCard : Claim7 := { stood := { row := moneyMatchesReferenceRow, standIns := [], harness := (true, "8d4804e318f36d4962864da9af54a3044db60f0fa999b87983c3a8aece1083a9"), looks := true }, kinds := [], alts := [], laidByText := true, laidKinds := [.data, .data, .data, .sentinel, .sentinel], laidTests := true, laidLooks := .later }
def MoneyMatchesReferenceCardSaid : Prop := Claim7.holds Tryd.pinned (.plain (OpenSpec.ofChange moneyMatchesReferenceSpec)) moneyMatchesReferenceCard

/-- THE TIED CARD OF 'cohousinglaw02.MoneyTexts'. -/
def moneyTextsCard : Claim7 := { stood := { row := moneyTextsRow, standIns := [], harness := (true, "8d4804e318f36d4962864da9af54a3044db60f0fa999b87983c3a8aece1083a9"), looks := true }, kinds := [], alts := [], laidByText := true, laidKinds := [.data, .data, .data, .sentinel, .sentinel], laidTests := true, laidLooks := .later }
def MoneyTextsCardSaid : Prop := Claim7.holds Tryd.pinned (.plain (OpenSpec.ofChange moneyTextsSpec)) moneyTextsCard

/-- THE SECOND FORM's CARD OF 'cohousinglaw02.MoneyAdds'. -/
def moneyAddsUptoCard : Claim7 := { stood := { row := moneyAddsUptoRow, standIns := [], harness := (true, "8d4804e318f36d4962864da9af54a3044db60f0fa999b87983c3a8aece1083a9"), looks := true }, kinds := [], alts := [], laidByText := true, laidKinds := [.data, .data, .data], laidTests := true, laidLooks := .later }
def MoneyAddsUptoCardSaid : Prop := Claim7.holds Tryd.pinned (.plain (OpenSpec.upto moneyAddsSpec)) moneyAddsUptoCard

/-- THE SECOND FORM's CARD OF 'cohousinglaw02.MoneyRounds'. -/
def moneyRoundsUptoCard : Claim7 := { stood := { row := moneyRoundsUptoRow, standIns := [], harness := (true, "8d4804e318f36d4962864da9af54a3044db60f0fa999b87983c3a8aece1083a9"), looks := true }, kinds := [], alts := [], laidByText := true, laidKinds := [.data, .data, .data], laidTests := true, laidLooks := .later }
def MoneyRoundsUptoCardSaid : Prop := Claim7.holds Tryd.pinned (.plain (OpenSpec.upto moneyRoundsSpec)) moneyRoundsUptoCard

/-- THE SECOND FORM's CARD OF 'cohousinglaw02.MoneyMonotone'. -/
def moneyMonotoneUptoCard : Claim7 := { stood := { row := moneyMonotoneUptoRow, standIns := [], harness := (true, "8d4804e318f36d4962864da9af54a3044db60f0fa999b87983c3a8aece1083a9"), looks := true }, kinds := [], alts := [], laidByText := true, laidKinds := [.data, .data, .data], laidTests := true, laidLooks := .later }
def MoneyMonotoneUptoCardSaid : Prop := Claim7.holds Tryd.pinned (.plain (OpenSpec.upto moneyMonotoneSpec)) moneyMonotoneUptoCard

/-- THE SECOND FORM's CARD OF 'cohousinglaw02.MoneyParts'. -/
def moneyPartsUptoCard : Claim7 := { stood := { row := moneyPartsUptoRow, standIns := [], harness := (true, "8d4804e318f36d4962864da9af54a3044db60f0fa999b87983c3a8aece1083a9"), looks := true }, kinds := [], alts := [], laidByText := true, laidKinds := [.data, .data, .data], laidTests := true, laidLooks := .later }
def MoneyPartsUptoCardSaid : Prop := Claim7.holds Tryd.pinned (.plain (OpenSpec.upto moneyPartsSpec)) moneyPartsUptoCard

/-- THE SECOND FORM's CARD OF 'cohousinglaw02.MoneyRemainders'. -/
def moneyRemaindersUptoCard : Claim7 := { stood := { row := moneyRemaindersUptoRow, standIns := [], harness := (true, "8d4804e318f36d4962864da9af54a3044db60f0fa999b87983c3a8aece1083a9"), looks := true }, kinds := [], alts := [], laidByText := true, laidKinds := [.data, .data, .data], laidTests := true, laidLooks := .later }
def MoneyRemaindersUptoCardSaid : Prop := Claim7.holds Tryd.pinned (.plain (OpenSpec.upto moneyRemaindersSpec)) moneyRemaindersUptoCard

/-- THE SECOND FORM's CARD OF 'cohousinglaw02.MoneyMatchesReference'. -/
def moneyMatchesReferenceUptoCard : Claim7 := { stood := { row := moneyMatchesReferenceUptoRow, standIns := [], harness := (true, "8d4804e318f36d4962864da9af54a3044db60f0fa999b87983c3a8aece1083a9"), looks := true }, kinds := [], alts := [], laidByText := true, laidKinds := [.data, .data, .data, .sentinel, .sentinel], laidTests := true, laidLooks := .later }
def MoneyMatchesReferenceUptoCardSaid : Prop := Claim7.holds Tryd.pinned (.plain (OpenSpec.upto moneyMatchesReferenceSpec)) moneyMatchesReferenceUptoCard

/-- THE SECOND FORM's CARD OF 'cohousinglaw02.MoneyTexts'. -/
def moneyTextsUptoCard : Claim7 := { stood := { row := moneyTextsUptoRow, standIns := [], harness := (true, "8d4804e318f36d4962864da9af54a3044db60f0fa999b87983c3a8aece1083a9"), looks := true }, kinds := [], alts := [], laidByText := true, laidKinds := [.data, .data, .data, .sentinel, .sentinel], laidTests := true, laidLooks := .later }
def MoneyTextsUptoCardSaid : Prop := Claim7.holds Tryd.pinned (.plain (OpenSpec.upto moneyTextsSpec)) moneyTextsUptoCard
end Rows
end Go.Proofs.YtcbhaoaameiacaaDoor
