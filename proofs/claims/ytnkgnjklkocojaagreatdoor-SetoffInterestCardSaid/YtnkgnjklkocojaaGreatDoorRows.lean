/-
  NARROWER THAN 'FOR EVERY INPUT', by the rows' own cells (each row's printed sentence says how): SetoffMatchesReference: laid · SetoffSums: laid · SetoffOrder: laid · SetoffParts: laid · SetoffInterest: laid · SetoffPlan: laid.
  DERIVED. THE GIVEN ROWS OF THIS SEAT. 6 by the template 'for every input the law returns true; each argument reads behind the call as it read before'; 0 by the template 'total and deterministic' (their statements: YtnkgnjklkocojaaGreatDoorTotals.lean).
  GIVEN WITH THE SEED: the statements are not yours to turn. If you find one false, say at which input.
  Laid BY PROGRAM, IN A SANDBOX (cutbox-rows.mjs): the forced cells as the released guide's own fill.sh prints them over the translation 4dcc95d1bae74efe… (all of the seat's roots in one cut). By AI agents, Wed Nov 11 2026. No macro, syntax, notation, axiom, sorry.
-/
import Derived.Test.YtnkgnjklkocojaaGreatDoorChecked
import GoSem.Claim
import GoSem.ClaimJoined
import GoSem.ClaimMapViews
import Derived.JoinedTies
import Derived.KernelRfl
namespace Go.Proofs.YtnkgnjklkocojaaGreatDoor
/- THE CELL 'sum', in the pinned program and in every row, IS THE sha256 OF THE DUMP (.gsa) THAT YtnkgnjklkocojaaGreatDoorProg.lean LOADS. Nothing in Lean hashes anything: it is a label: what it is worth is what the hold of that sum in a sandbox is worth. -/
noncomputable def Tryz.pinned : Pinned := { name := "ytnkgnjklkocojaagreatdoor", sum := "4dcc95d1bae74efe1021beebc7851d867d83c250f5f10710bb929f29bf533426", checked := Tryz.checked }
namespace Rows
def none {H : Type} : Left H := { results := [], args := [] }

/- WHAT THE LISTED PACKAGE-LEVEL VARIABLES READ AS WHEN THE CALL BEGINS. Each datum BY PROGRAM (the guide's laid-datum.mjs) off the statement by which the dump's own 'gosem.cut.vars' lays the variable. In a bare row this is a premise. The card (YtnkgnjklkocojaaGreatDoorCards.lean) ties it to the program's text. -/
def laid_cohousing_calendar_lengths {H : Type} : DataW H := .agg [.lit (.int .i64 31), .lit (.int .i64 28), .lit (.int .i64 31), .lit (.int .i64 30), .lit (.int .i64 31), .lit (.int .i64 30), .lit (.int .i64 31), .lit (.int .i64 31), .lit (.int .i64 30), .lit (.int .i64 31), .lit (.int .i64 30), .lit (.int .i64 31)]

/-- 'cohousinglaw34.SetoffMatchesReference': WHATEVER THE INPUT: true; the input reads as it did. -/
def setoffMatchesReferenceSpec : ChangeSpec := { name := "setoffMatchesReference", fn := fun _ => fun
  | [d1, d2, d3, d4, d5, d6, d7] => { results := [.lit (.bool true)], args := [d1, d2, d3, d4, d5, d6, d7] }
  | _ => none }
def setoffMatchesReferenceRow : OpenClaim := { program := "ytnkgnjklkocojaagreatdoor", sum := "4dcc95d1bae74efe1021beebc7851d867d83c250f5f10710bb929f29bf533426", func := "cohousing/cohousinglaw34.SetoffMatchesReference", spec := "setoffMatchesReference", unfollowed := true, recurses := true, named := ["cohousing/calendar.lengths"], apart := false, laid := [("cohousing/calendar.lengths", laid_cohousing_calendar_lengths)] }
def SetoffMatchesReferenceSaid : Prop := setoffMatchesReferenceRow.holds Tryz.pinned (OpenSpec.ofChange setoffMatchesReferenceSpec)

/-- ITS FALSE NEIGHBOUR: 'it returns false'. Refute it at one input. -/
def setoffMatchesReferenceWrong : ChangeSpec := { name := "setoffMatchesReference", fn := fun _ => fun
  | [d1, d2, d3, d4, d5, d6, d7] => { results := [.lit (.bool false)], args := [d1, d2, d3, d4, d5, d6, d7] }
  | _ => none }
def SetoffMatchesReferenceWrongFalsely : Prop := setoffMatchesReferenceRow.holds Tryz.pinned (OpenSpec.ofChange setoffMatchesReferenceWrong)

/-- 'cohousinglaw34.SetoffSums': WHATEVER THE INPUT: true; the input reads as it did. -/
def setoffSumsSpec : ChangeSpec := { name := "setoffSums", fn := fun _ => fun
  | [d1, d2] => { results := [.lit (.bool true)], args := [d1, d2] }
  | _ => none }
def setoffSumsRow : OpenClaim := { program := "ytnkgnjklkocojaagreatdoor", sum := "4dcc95d1bae74efe1021beebc7851d867d83c250f5f10710bb929f29bf533426", func := "cohousing/cohousinglaw34.SetoffSums", spec := "setoffSums", unfollowed := true, recurses := true, named := ["cohousing/calendar.lengths"], apart := false, laid := [("cohousing/calendar.lengths", laid_cohousing_calendar_lengths)] }
def SetoffSumsSaid : Prop := setoffSumsRow.holds Tryz.pinned (OpenSpec.ofChange setoffSumsSpec)

/-- ITS FALSE NEIGHBOUR: 'it returns false'. Refute it at one input. -/
def setoffSumsWrong : ChangeSpec := { name := "setoffSums", fn := fun _ => fun
  | [d1, d2] => { results := [.lit (.bool false)], args := [d1, d2] }
  | _ => none }
def SetoffSumsWrongFalsely : Prop := setoffSumsRow.holds Tryz.pinned (OpenSpec.ofChange setoffSumsWrong)

/-- 'cohousinglaw34.SetoffOrder': WHATEVER THE INPUT: true; the input reads as it did. -/
def setoffOrderSpec : ChangeSpec := { name := "setoffOrder", fn := fun _ => fun
  | [d1, d2, d3] => { results := [.lit (.bool true)], args := [d1, d2, d3] }
  | _ => none }
def setoffOrderRow : OpenClaim := { program := "ytnkgnjklkocojaagreatdoor", sum := "4dcc95d1bae74efe1021beebc7851d867d83c250f5f10710bb929f29bf533426", func := "cohousing/cohousinglaw34.SetoffOrder", spec := "setoffOrder", unfollowed := true, recurses := true, named := ["cohousing/calendar.lengths"], apart := false, laid := [("cohousing/calendar.lengths", laid_cohousing_calendar_lengths)] }
def SetoffOrderSaid : Prop := setoffOrderRow.holds Tryz.pinned (OpenSpec.ofChange setoffOrderSpec)

/-- ITS FALSE NEIGHBOUR: 'it returns false'. Refute it at one input. -/
def setoffOrderWrong : ChangeSpec := { name := "setoffOrder", fn := fun _ => fun
  | [d1, d2, d3] => { results := [.lit (.bool false)], args := [d1, d2, d3] }
  | _ => none }
def SetoffOrderWrongFalsely : Prop := setoffOrderRow.holds Tryz.pinned (OpenSpec.ofChange setoffOrderWrong)

/-- 'cohousinglaw34.SetoffParts': WHATEVER THE INPUT: true; the input reads as it did. -/
def setoffPartsSpec : ChangeSpec := { name := "setoffParts", fn := fun _ => fun
  | [d1, d2, d3] => { results := [.lit (.bool true)], args := [d1, d2, d3] }
  | _ => none }
def setoffPartsRow : OpenClaim := { program := "ytnkgnjklkocojaagreatdoor", sum := "4dcc95d1bae74efe1021beebc7851d867d83c250f5f10710bb929f29bf533426", func := "cohousing/cohousinglaw34.SetoffParts", spec := "setoffParts", unfollowed := true, recurses := true, named := ["cohousing/calendar.lengths"], apart := false, laid := [("cohousing/calendar.lengths", laid_cohousing_calendar_lengths)] }
def SetoffPartsSaid : Prop := setoffPartsRow.holds Tryz.pinned (OpenSpec.ofChange setoffPartsSpec)

/-- ITS FALSE NEIGHBOUR: 'it returns false'. Refute it at one input. -/
def setoffPartsWrong : ChangeSpec := { name := "setoffParts", fn := fun _ => fun
  | [d1, d2, d3] => { results := [.lit (.bool false)], args := [d1, d2, d3] }
  | _ => none }
def SetoffPartsWrongFalsely : Prop := setoffPartsRow.holds Tryz.pinned (OpenSpec.ofChange setoffPartsWrong)

/-- 'cohousinglaw34.SetoffInterest': WHATEVER THE INPUT: true; the input reads as it did. -/
def setoffInterestSpec : ChangeSpec := { name := "setoffInterest", fn := fun _ => fun
  | [d1, d2, d3, d4, d5, d6] => { results := [.lit (.bool true)], args := [d1, d2, d3, d4, d5, d6] }
  | _ => none }
def setoffInterestRow : OpenClaim := { program := "ytnkgnjklkocojaagreatdoor", sum := "4dcc95d1bae74efe1021beebc7851d867d83c250f5f10710bb929f29bf533426", func := "cohousing/cohousinglaw34.SetoffInterest", spec := "setoffInterest", unfollowed := true, recurses := true, named := ["cohousing/calendar.lengths"], apart := false, laid := [("cohousing/calendar.lengths", laid_cohousing_calendar_lengths)] }
def SetoffInterestSaid : Prop := setoffInterestRow.holds Tryz.pinned (OpenSpec.ofChange setoffInterestSpec)

/-- ITS FALSE NEIGHBOUR: 'it returns false'. Refute it at one input. -/
def setoffInterestWrong : ChangeSpec := { name := "setoffInterest", fn := fun _ => fun
  | [d1, d2, d3, d4, d5, d6] => { results := [.lit (.bool false)], args := [d1, d2, d3, d4, d5, d6] }
  | _ => none }
def SetoffInterestWrongFalsely : Prop := setoffInterestRow.holds Tryz.pinned (OpenSpec.ofChange setoffInterestWrong)

/-- 'cohousinglaw34.SetoffPlan': WHATEVER THE INPUT: true; the input reads as it did. -/
def setoffPlanSpec : ChangeSpec := { name := "setoffPlan", fn := fun _ => fun
  | [d1, d2, d3] => { results := [.lit (.bool true)], args := [d1, d2, d3] }
  | _ => none }
def setoffPlanRow : OpenClaim := { program := "ytnkgnjklkocojaagreatdoor", sum := "4dcc95d1bae74efe1021beebc7851d867d83c250f5f10710bb929f29bf533426", func := "cohousing/cohousinglaw34.SetoffPlan", spec := "setoffPlan", unfollowed := true, recurses := true, named := ["cohousing/calendar.lengths"], apart := false, laid := [("cohousing/calendar.lengths", laid_cohousing_calendar_lengths)] }
def SetoffPlanSaid : Prop := setoffPlanRow.holds Tryz.pinned (OpenSpec.ofChange setoffPlanSpec)

/-- ITS FALSE NEIGHBOUR: 'it returns false'. Refute it at one input. -/
def setoffPlanWrong : ChangeSpec := { name := "setoffPlan", fn := fun _ => fun
  | [d1, d2, d3] => { results := [.lit (.bool false)], args := [d1, d2, d3] }
  | _ => none }
def SetoffPlanWrongFalsely : Prop := setoffPlanRow.holds Tryz.pinned (OpenSpec.ofChange setoffPlanWrong)

/- THE SECOND FORM. 'bulk': how many values and letters a reading holds, each counted each time it is reached (what is shared counts as often as it is met; a slice's spare places count too). A statement '..UptoSaid' is the law's where the arguments, and the package variables that the reading takes, are together of bulk at most 1048576: NARROWER than '..Said'. Prove '..Said' where nothing that the law and all that it calls make is longer than what came in: it says more and counts as full. Else prove '..UptoSaid'. A law counts once. -/
mutual
def uptoBulk {H : Type} : DataW H → Nat
  | .lit (.string bytes) => bytes.length + 1
  | .lit _ => 1
  | .nil => 1
  | .ptr d => uptoBulk d + 1
  | .slice elems spare => uptoBulkAll elems + uptoBulkAll spare + 1
  | .agg parts => uptoBulkAll parts + 1
  | .iface _ d => uptoBulk d + 1
  | .map entries => uptoBulkEntries entries + 1
  | .held _ => 1
def uptoBulkAll {H : Type} : List (DataW H) → Nat
  | [] => 0
  | d :: r => uptoBulk d + uptoBulkAll r
def uptoBulkEntries {H : Type} : List (Lit × DataW H) → Nat
  | [] => 0
  | x :: r => uptoBulkEntry x + uptoBulkEntries r
def uptoBulkEntry {H : Type} : Lit × DataW H → Nat
  | (.string bytes, d) => bytes.length + uptoBulk d + 1
  | (_, d) => uptoBulk d + 1
 end
def uptoSmall : (H : Type) → List (DataW H) → Bool := fun _ ds => decide (uptoBulkAll ds ≤ 1048576)
def OpenSpec.upto (s : _root_.Go.ChangeSpec) : _root_.Go.OpenSpec := { _root_.Go.OpenSpec.ofChange s with cond := some uptoSmall }

/-- 'cohousinglaw34.SetoffMatchesReference', WHERE WHAT IT READS IS OF BULK AT MOST 1048576: true; the input reads as it did. -/
def setoffMatchesReferenceUptoRow : OpenClaim := { program := "ytnkgnjklkocojaagreatdoor", sum := "4dcc95d1bae74efe1021beebc7851d867d83c250f5f10710bb929f29bf533426", func := "cohousing/cohousinglaw34.SetoffMatchesReference", spec := "setoffMatchesReference", unfollowed := true, recurses := true, named := ["cohousing/calendar.lengths"], apart := false, laid := [("cohousing/calendar.lengths", laid_cohousing_calendar_lengths)], narrowed := true }
def SetoffMatchesReferenceUptoSaid : Prop := setoffMatchesReferenceUptoRow.holds Tryz.pinned (OpenSpec.upto setoffMatchesReferenceSpec)

/-- 'cohousinglaw34.SetoffSums', WHERE WHAT IT READS IS OF BULK AT MOST 1048576: true; the input reads as it did. -/
def setoffSumsUptoRow : OpenClaim := { program := "ytnkgnjklkocojaagreatdoor", sum := "4dcc95d1bae74efe1021beebc7851d867d83c250f5f10710bb929f29bf533426", func := "cohousing/cohousinglaw34.SetoffSums", spec := "setoffSums", unfollowed := true, recurses := true, named := ["cohousing/calendar.lengths"], apart := false, laid := [("cohousing/calendar.lengths", laid_cohousing_calendar_lengths)], narrowed := true }
def SetoffSumsUptoSaid : Prop := setoffSumsUptoRow.holds Tryz.pinned (OpenSpec.upto setoffSumsSpec)

/-- 'cohousinglaw34.SetoffOrder', WHERE WHAT IT READS IS OF BULK AT MOST 1048576: true; the input reads as it did. -/
def setoffOrderUptoRow : OpenClaim := { program := "ytnkgnjklkocojaagreatdoor", sum := "4dcc95d1bae74efe1021beebc7851d867d83c250f5f10710bb929f29bf533426", func := "cohousing/cohousinglaw34.SetoffOrder", spec := "setoffOrder", unfollowed := true, recurses := true, named := ["cohousing/calendar.lengths"], apart := false, laid := [("cohousing/calendar.lengths", laid_cohousing_calendar_lengths)], narrowed := true }
def SetoffOrderUptoSaid : Prop := setoffOrderUptoRow.holds Tryz.pinned (OpenSpec.upto setoffOrderSpec)

/-- 'cohousinglaw34.SetoffParts', WHERE WHAT IT READS IS OF BULK AT MOST 1048576: true; the input reads as it did. -/
def setoffPartsUptoRow : OpenClaim := { program := "ytnkgnjklkocojaagreatdoor", sum := "4dcc95d1bae74efe1021beebc7851d867d83c250f5f10710bb929f29bf533426", func := "cohousing/cohousinglaw34.SetoffParts", spec := "setoffParts", unfollowed := true, recurses := true, named := ["cohousing/calendar.lengths"], apart := false, laid := [("cohousing/calendar.lengths", laid_cohousing_calendar_lengths)], narrowed := true }
def SetoffPartsUptoSaid : Prop := setoffPartsUptoRow.holds Tryz.pinned (OpenSpec.upto setoffPartsSpec)

/-- 'cohousinglaw34.SetoffInterest', WHERE WHAT IT READS IS OF BULK AT MOST 1048576: true; the input reads as it did. -/
def setoffInterestUptoRow : OpenClaim := { program := "ytnkgnjklkocojaagreatdoor", sum := "4dcc95d1bae74efe1021beebc7851d867d83c250f5f10710bb929f29bf533426", func := "cohousing/cohousinglaw34.SetoffInterest", spec := "setoffInterest", unfollowed := true, recurses := true, named := ["cohousing/calendar.lengths"], apart := false, laid := [("cohousing/calendar.lengths", laid_cohousing_calendar_lengths)], narrowed := true }
def SetoffInterestUptoSaid : Prop := setoffInterestUptoRow.holds Tryz.pinned (OpenSpec.upto setoffInterestSpec)

/-- 'cohousinglaw34.SetoffPlan', WHERE WHAT IT READS IS OF BULK AT MOST 1048576: true; the input reads as it did. -/
def setoffPlanUptoRow : OpenClaim := { program := "ytnkgnjklkocojaagreatdoor", sum := "4dcc95d1bae74efe1021beebc7851d867d83c250f5f10710bb929f29bf533426", func := "cohousing/cohousinglaw34.SetoffPlan", spec := "setoffPlan", unfollowed := true, recurses := true, named := ["cohousing/calendar.lengths"], apart := false, laid := [("cohousing/calendar.lengths", laid_cohousing_calendar_lengths)], narrowed := true }
def SetoffPlanUptoSaid : Prop := setoffPlanUptoRow.holds Tryz.pinned (OpenSpec.upto setoffPlanSpec)

end Rows
end Go.Proofs.YtnkgnjklkocojaaGreatDoor
