/-
  No cell of these rows narrows 'for every input' (looked for: loops, veiled, ifaces, maps, wideKeys, modest, calm, conditions, laid).
  DERIVED. THE GIVEN ROWS OF THIS SEAT. 6 by the template 'for every input the law returns true; each argument reads behind the call as it read before'; 0 by the template 'total and deterministic' (their statements: YtbfgblfhonpgaaaTotals.lean).
  GIVEN WITH THE SEED: the statements are not yours to turn. If you find one false, say at which input.
  Laid BY PROGRAM, IN A SANDBOX (cutbox-rows.mjs): the forced cells as the released guide's own fill.sh prints them over the translation d12153c925602f0e… (all of the seat's roots in one cut). By AI agents, Wed Nov 11 2026. No macro, syntax, notation, axiom, sorry.
-/
import Derived.Test.YtbfgblfhonpgaaaChecked
import GoSem.Claim
import GoSem.ClaimJoined
import GoSem.ClaimMapViews
import Derived.JoinedTies
import Derived.KernelRfl
namespace Go.Proofs.Ytbfgblfhonpgaaa
/- THE CELL 'sum', in the pinned program and in every row, IS THE sha256 OF THE DUMP (.gsa) THAT YtbfgblfhonpgaaaProg.lean LOADS. Nothing in Lean hashes anything: it is a label: what it is worth is what the hold of that sum in a sandbox is worth. -/
noncomputable def Try.pinned : Pinned := { name := "ytbfgblfhonpgaaa", sum := "d12153c925602f0e549a7be54a365dc0bb4b5bee1d6340067e0139c3e7ff08f8", checked := Try.checked }
namespace Rows
def none {H : Type} : Left H := { results := [], args := [] }

/-- 'cohousinglaw04.SpanForm': WHATEVER THE INPUT: true; the input reads as it did. -/
def spanFormSpec : ChangeSpec := { name := "spanForm", fn := fun _ => fun
  | [d1, d2, d3, d4] => { results := [.lit (.bool true)], args := [d1, d2, d3, d4] }
  | _ => none }
def spanFormRow : OpenClaim := { program := "ytbfgblfhonpgaaa", sum := "d12153c925602f0e549a7be54a365dc0bb4b5bee1d6340067e0139c3e7ff08f8", func := "cohousing/cohousinglaw04.SpanForm", spec := "spanForm", unfollowed := true, recurses := true, apart := false }
def SpanFormSaid : Prop := spanFormRow.holds Try.pinned (OpenSpec.ofChange spanFormSpec)

/-- ITS FALSE NEIGHBOUR: 'it returns false'. Refute it at one input. -/
def spanFormWrong : ChangeSpec := { name := "spanForm", fn := fun _ => fun
  | [d1, d2, d3, d4] => { results := [.lit (.bool false)], args := [d1, d2, d3, d4] }
  | _ => none }
def SpanFormWrongFalsely : Prop := spanFormRow.holds Try.pinned (OpenSpec.ofChange spanFormWrong)

/-- 'cohousinglaw04.SpanLaws': WHATEVER THE INPUT: true; the input reads as it did. -/
def spanLawsSpec : ChangeSpec := { name := "spanLaws", fn := fun _ => fun
  | [d1, d2, d3] => { results := [.lit (.bool true)], args := [d1, d2, d3] }
  | _ => none }
def spanLawsRow : OpenClaim := { program := "ytbfgblfhonpgaaa", sum := "d12153c925602f0e549a7be54a365dc0bb4b5bee1d6340067e0139c3e7ff08f8", func := "cohousing/cohousinglaw04.SpanLaws", spec := "spanLaws", unfollowed := true, recurses := true, apart := false }
def SpanLawsSaid : Prop := spanLawsRow.holds Try.pinned (OpenSpec.ofChange spanLawsSpec)

/-- ITS FALSE NEIGHBOUR: 'it returns false'. Refute it at one input. -/
def spanLawsWrong : ChangeSpec := { name := "spanLaws", fn := fun _ => fun
  | [d1, d2, d3] => { results := [.lit (.bool false)], args := [d1, d2, d3] }
  | _ => none }
def SpanLawsWrongFalsely : Prop := spanLawsRow.holds Try.pinned (OpenSpec.ofChange spanLawsWrong)

/-- 'cohousinglaw04.SpanCounts': WHATEVER THE INPUT: true; the input reads as it did. -/
def spanCountsSpec : ChangeSpec := { name := "spanCounts", fn := fun _ => fun
  | [d1, d2] => { results := [.lit (.bool true)], args := [d1, d2] }
  | _ => none }
def spanCountsRow : OpenClaim := { program := "ytbfgblfhonpgaaa", sum := "d12153c925602f0e549a7be54a365dc0bb4b5bee1d6340067e0139c3e7ff08f8", func := "cohousing/cohousinglaw04.SpanCounts", spec := "spanCounts", unfollowed := true, recurses := true, apart := false }
def SpanCountsSaid : Prop := spanCountsRow.holds Try.pinned (OpenSpec.ofChange spanCountsSpec)

/-- ITS FALSE NEIGHBOUR: 'it returns false'. Refute it at one input. -/
def spanCountsWrong : ChangeSpec := { name := "spanCounts", fn := fun _ => fun
  | [d1, d2] => { results := [.lit (.bool false)], args := [d1, d2] }
  | _ => none }
def SpanCountsWrongFalsely : Prop := spanCountsRow.holds Try.pinned (OpenSpec.ofChange spanCountsWrong)

/-- 'cohousinglaw04.SpanShifts': WHATEVER THE INPUT: true; the input reads as it did. -/
def spanShiftsSpec : ChangeSpec := { name := "spanShifts", fn := fun _ => fun
  | [d1, d2, d3] => { results := [.lit (.bool true)], args := [d1, d2, d3] }
  | _ => none }
def spanShiftsRow : OpenClaim := { program := "ytbfgblfhonpgaaa", sum := "d12153c925602f0e549a7be54a365dc0bb4b5bee1d6340067e0139c3e7ff08f8", func := "cohousing/cohousinglaw04.SpanShifts", spec := "spanShifts", unfollowed := true, recurses := true, apart := false }
def SpanShiftsSaid : Prop := spanShiftsRow.holds Try.pinned (OpenSpec.ofChange spanShiftsSpec)

/-- ITS FALSE NEIGHBOUR: 'it returns false'. Refute it at one input. -/
def spanShiftsWrong : ChangeSpec := { name := "spanShifts", fn := fun _ => fun
  | [d1, d2, d3] => { results := [.lit (.bool false)], args := [d1, d2, d3] }
  | _ => none }
def SpanShiftsWrongFalsely : Prop := spanShiftsRow.holds Try.pinned (OpenSpec.ofChange spanShiftsWrong)

/-- 'cohousinglaw04.SpanMatchesReference': WHATEVER THE INPUT: true; the input reads as it did. -/
def spanMatchesReferenceSpec : ChangeSpec := { name := "spanMatchesReference", fn := fun _ => fun
  | [d1, d2, d3] => { results := [.lit (.bool true)], args := [d1, d2, d3] }
  | _ => none }
def spanMatchesReferenceRow : OpenClaim := { program := "ytbfgblfhonpgaaa", sum := "d12153c925602f0e549a7be54a365dc0bb4b5bee1d6340067e0139c3e7ff08f8", func := "cohousing/cohousinglaw04.SpanMatchesReference", spec := "spanMatchesReference", unfollowed := true, recurses := true, apart := false }
def SpanMatchesReferenceSaid : Prop := spanMatchesReferenceRow.holds Try.pinned (OpenSpec.ofChange spanMatchesReferenceSpec)

/-- ITS FALSE NEIGHBOUR: 'it returns false'. Refute it at one input. -/
def spanMatchesReferenceWrong : ChangeSpec := { name := "spanMatchesReference", fn := fun _ => fun
  | [d1, d2, d3] => { results := [.lit (.bool false)], args := [d1, d2, d3] }
  | _ => none }
def SpanMatchesReferenceWrongFalsely : Prop := spanMatchesReferenceRow.holds Try.pinned (OpenSpec.ofChange spanMatchesReferenceWrong)

/-- 'cohousinglaw04.SpanDays': WHATEVER THE INPUT: true; the input reads as it did. -/
def spanDaysSpec : ChangeSpec := { name := "spanDays", fn := fun _ => fun
  | [d1, d2, d3] => { results := [.lit (.bool true)], args := [d1, d2, d3] }
  | _ => none }
def spanDaysRow : OpenClaim := { program := "ytbfgblfhonpgaaa", sum := "d12153c925602f0e549a7be54a365dc0bb4b5bee1d6340067e0139c3e7ff08f8", func := "cohousing/cohousinglaw04.SpanDays", spec := "spanDays", unfollowed := true, recurses := true, apart := false }
def SpanDaysSaid : Prop := spanDaysRow.holds Try.pinned (OpenSpec.ofChange spanDaysSpec)

/-- ITS FALSE NEIGHBOUR: 'it returns false'. Refute it at one input. -/
def spanDaysWrong : ChangeSpec := { name := "spanDays", fn := fun _ => fun
  | [d1, d2, d3] => { results := [.lit (.bool false)], args := [d1, d2, d3] }
  | _ => none }
def SpanDaysWrongFalsely : Prop := spanDaysRow.holds Try.pinned (OpenSpec.ofChange spanDaysWrong)

/- THE SECOND FORM. 'bulk': how many values and letters a reading holds, each counted each time it is reached (what is shared counts as often as it is met; a slice's spare places count too). A statement '..UptoSaid' is the law's where the arguments, and the package variables that the reading takes, are together of bulk at most 1048576: NARROWER than '..Said'. Prove '..Said' where nothing that the law and all that it calls make is longer than what came in: it says more and counts as full. Else prove '..UptoSaid'. A law counts once. -/
mutual
def uptoBulk {H : Type} : DataW H → Nat
  | .lit (.string bytes) => bytes.length + 1
  | .lit _ => 1
  | .nil => 1
  | .ptr d => uptoBulk d + 1
  | .slice elems spare => uptoBulkAll elems + uptoBulkAll spare + 1
  | .agg parts => uptoBulkAll parts + 1
  | .iface _ d => uptoBulk d + 1
  | .map entries => uptoBulkEntries entries + 1
  | .held _ => 1
def uptoBulkAll {H : Type} : List (DataW H) → Nat
  | [] => 0
  | d :: r => uptoBulk d + uptoBulkAll r
def uptoBulkEntries {H : Type} : List (Lit × DataW H) → Nat
  | [] => 0
  | x :: r => uptoBulkEntry x + uptoBulkEntries r
def uptoBulkEntry {H : Type} : Lit × DataW H → Nat
  | (.string bytes, d) => bytes.length + uptoBulk d + 1
  | (_, d) => uptoBulk d + 1
 end
def uptoSmall : (H : Type) → List (DataW H) → Bool := fun _ ds => decide (uptoBulkAll ds ≤ 1048576)
def OpenSpec.upto (s : _root_.Go.ChangeSpec) : _root_.Go.OpenSpec := { _root_.Go.OpenSpec.ofChange s with cond := some uptoSmall }

/-- 'cohousinglaw04.SpanForm', WHERE WHAT IT READS IS OF BULK AT MOST 1048576: true; the input reads as it did. -/
def spanFormUptoRow : OpenClaim := { program := "ytbfgblfhonpgaaa", sum := "d12153c925602f0e549a7be54a365dc0bb4b5bee1d6340067e0139c3e7ff08f8", func := "cohousing/cohousinglaw04.SpanForm", spec := "spanForm", unfollowed := true, recurses := true, apart := false, narrowed := true }
def SpanFormUptoSaid : Prop := spanFormUptoRow.holds Try.pinned (OpenSpec.upto spanFormSpec)

/-- 'cohousinglaw04.SpanLaws', WHERE WHAT IT READS IS OF BULK AT MOST 1048576: true; the input reads as it did. -/
def spanLawsUptoRow : OpenClaim := { program := "ytbfgblfhonpgaaa", sum := "d12153c925602f0e549a7be54a365dc0bb4b5bee1d6340067e0139c3e7ff08f8", func := "cohousing/cohousinglaw04.SpanLaws", spec := "spanLaws", unfollowed := true, recurses := true, apart := false, narrowed := true }
def SpanLawsUptoSaid : Prop := spanLawsUptoRow.holds Try.pinned (OpenSpec.upto spanLawsSpec)

/-- 'cohousinglaw04.SpanCounts', WHERE WHAT IT READS IS OF BULK AT MOST 1048576: true; the input reads as it did. -/
def spanCountsUptoRow : OpenClaim := { program := "ytbfgblfhonpgaaa", sum := "d12153c925602f0e549a7be54a365dc0bb4b5bee1d6340067e0139c3e7ff08f8", func := "cohousing/cohousinglaw04.SpanCounts", spec := "spanCounts", unfollowed := true, recurses := true, apart := false, narrowed := true }
def SpanCountsUptoSaid : Prop := spanCountsUptoRow.holds Try.pinned (OpenSpec.upto spanCountsSpec)

/-- 'cohousinglaw04.SpanShifts', WHERE WHAT IT READS IS OF BULK AT MOST 1048576: true; the input reads as it did. -/
def spanShiftsUptoRow : OpenClaim := { program := "ytbfgblfhonpgaaa", sum := "d12153c925602f0e549a7be54a365dc0bb4b5bee1d6340067e0139c3e7ff08f8", func := "cohousing/cohousinglaw04.SpanShifts", spec := "spanShifts", unfollowed := true, recurses := true, apart := false, narrowed := true }
def SpanShiftsUptoSaid : Prop := spanShiftsUptoRow.holds Try.pinned (OpenSpec.upto spanShiftsSpec)

/-- 'cohousinglaw04.SpanMatchesReference', WHERE WHAT IT READS IS OF BULK AT MOST 1048576: true; the input reads as it did. -/
def spanMatchesReferenceUptoRow : OpenClaim := { program := "ytbfgblfhonpgaaa", sum := "d12153c925602f0e549a7be54a365dc0bb4b5bee1d6340067e0139c3e7ff08f8", func := "cohousing/cohousinglaw04.SpanMatchesReference", spec := "spanMatchesReference", unfollowed := true, recurses := true, apart := false, narrowed := true }
def SpanMatchesReferenceUptoSaid : Prop := spanMatchesReferenceUptoRow.holds Try.pinned (OpenSpec.upto spanMatchesReferenceSpec)

/-- 'cohousinglaw04.SpanDays', WHERE WHAT IT READS IS OF BULK AT MOST 1048576: true; the input reads as it did. -/
def spanDaysUptoRow : OpenClaim := { program := "ytbfgblfhonpgaaa", sum := "d12153c925602f0e549a7be54a365dc0bb4b5bee1d6340067e0139c3e7ff08f8", func := "cohousing/cohousinglaw04.SpanDays", spec := "spanDays", unfollowed := true, recurses := true, apart := false, narrowed := true }
def SpanDaysUptoSaid : Prop := spanDaysUptoRow.holds Try.pinned (OpenSpec.upto spanDaysSpec)

end Rows
end Go.Proofs.Ytbfgblfhonpgaaa
