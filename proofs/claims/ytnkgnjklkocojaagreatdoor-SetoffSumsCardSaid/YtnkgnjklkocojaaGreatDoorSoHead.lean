/- The law's own example of setoff. No Go and no memory in it. -/
import Derived.Test.YtnkgnjklkocojaaGreatDoorSoPay
import Derived.Test.YtnkgnjklkocojaaGreatDoorSpanBase
import Derived.Test.YtnkgnjklkocojaaGreatDoorXx16
namespace Go.Proofs.YtnkgnjklkocojaaGreatDoor.Pure
open Go.RowKit Go.Proofs.YtnkgnjklkocojaaGreatDoor.X Go.Proofs.YtnkgnjklkocojaaGreatDoorW.PrintWords
set_option linter.unusedVariables false
theorem ordP_head : ordP hdD = [1, 0, 2] := by
  refine ordP_unique hdD (by decide) [1, 0, 2] (by decide) ?_
  simp [hdD, Bef]
theorem head_pay1 : setoff_Pay.f hdD 100 = some (hdL, 0, 0) := by
  have hv : vD hdD [] = true := by decide
  have hp : payF hdD 100 = (hdL, 0) := by unfold payF; rw [ordP_head]; kernel_rfl
  unfold setoff_Pay.f
  rw [if_pos ⟨by decide, by decide⟩, if_pos ⟨hv, by decide, by decide, by decide⟩, hp]
theorem head_pay2 : setoff_Pay.f hdD (-1) = some ([], 0, 1) := by
  unfold setoff_Pay.f
  rw [if_pos ⟨by decide, by decide⟩, if_neg (by intro h; exact absurd h.2.2.1 (by decide))]
theorem head_arrears : setoff_Arrears.f 20 hdD 11 = some (530, 0) := by kernel_rfl
theorem head_meet : span_Meet.f 18 [⟨100, 465⟩] [] = some ([], 0) := by
  have h1 : span_Valid.f 18 [⟨100, 465⟩] = some true := by kernel_rfl
  have h2 : span_Valid.f 18 [] = some true := by kernel_rfl
  have h3 : sorted [100, 465] = [100, 465] := by
    unfold sorted
    exact List.mergeSort_of_pairwise (by simp)
  have h4 : endsF [⟨100, 465⟩] [] = [100, 465] := by
    have e : endsF [⟨100, 465⟩] [] = Lib.compact (sorted [100, 465]) := rfl
    have e2 : Lib.compact ([100, 465] : List Int) = [100, 465] := by kernel_rfl
    rw [e, h3, e2]
  unfold span_Meet.f sweepO
  rw [h1, Option.bind_some, if_pos rfl, h2, Option.bind_some, if_pos rfl, h4]
  show _ = _
  kernel_rfl
theorem head_interest : setoff_Interest.f 20 hdD 1000 100 465 [] = some (50, 0) := by
  have e1 : setoff_Interest.f 20 hdD 1000 100 465 [] = setoff_Interest.l0 (18 + 1) hdD 1000 [] [] 0 0 100 465 := by kernel_rfl
  have hN : span_Normal.f [] = some ([], 0) := by kernel_rfl
  rw [e1, setoff_Interest.l0, if_neg (by decide), hN, Option.bind_some, if_pos rfl, head_meet]
  show _ = _
  kernel_rfl
theorem head_plan : setoff_Plan.f 20 hdD 40 3 = some (hdP, 0) := by kernel_rfl
theorem head_plan1 : setoff_Plan.f 20 hdD 10 3 = some ([], 4) := by kernel_rfl
theorem head_ok : cohousinglaw34_head.f 20 = some true := by
  unfold cohousinglaw34_head.f
  rw [if_pos ⟨head_pay1, head_arrears, head_interest, head_plan, head_plan1, head_pay2⟩]
theorem so_in (l : List S39) (y : l.length * 32 ≤ 140737488351232) (hw : ∀ x ∈ l, (Lit.int .i64 x.f0).wf = true ∧ (Lit.int .i64 x.f1).wf = true ∧ (Lit.int .i64 x.f2).wf = true ∧ (Lit.int .i64 x.f3).wf = true) : l.length < 4398046511104 ∧ l.all (fun x => inI x.f0) = true := by
  refine ⟨by omega, List.all_eq_true.mpr (fun x hx => inI_iff.mpr ?_)⟩
  simpa [Lit.wf, IntKind.min, IntKind.max, IntKind.signed, IntKind.bits] using (hw x hx).1
theorem LeO_up {α : Type} {f : Nat → Option α} (h : ∀ k, LeO (f k) (f (k + 1))) (k : Nat) : ∀ (j : Nat) (r : α), f k = some r → f (k + j) = some r
  | 0, _, e => e
  | j + 1, r, e => h _ _ (LeO_up h k j r e)
end Go.Proofs.YtnkgnjklkocojaaGreatDoor.Pure

