/- Amounts: what the law's guards ask, over numbers. No Go and no memory in it. -/
import Derived.Test.YtcbhaoaameiacaaDoorXx8
namespace Go.Proofs.YtcbhaoaameiacaaDoor.Pure
open Go.RowKit Go.Proofs.YtcbhaoaameiacaaDoor.X Go.Proofs.YtcbhaoaameiacaaDoorW.PrintWords

theorem head_ok : cohousinglaw02_head.f 20 = some true := by kernel_rfl
theorem wrap_ok {n : Int} (h1 : -9223372036854775808 ≤ n) (h2 : n ≤ 9223372036854775807) : wrap64 n = n := by unfold wrap64; omega
theorem wf_in {x : Int} (h : (Lit.int .i64 x).wf = true) : inI64 x := by
  simpa [Lit.wf, IntKind.min, IntKind.max, IntKind.signed, IntKind.bits, inI64] using h
/-- An amount. -/
def Amt (x : Int) : Prop := -1000000000 ≤ x ∧ x ≤ 1000000000
instance (x : Int) : Decidable (Amt x) := by unfold Amt; infer_instance
theorem amt_f (x : Int) : money_amount_valid.f x = some (decide (Amt x)) := by
  unfold money_amount_valid.f
  by_cases h : (-1000000000) ≤ x
  · rw [if_pos h]
    exact congrArg some (decide_eq_decide.mpr (by unfold Amt; omega))
  · rw [if_neg h, decide_eq_false (by unfold Amt; omega)]
theorem ref_amt (x : Int) : cohousingref02_Amount.f x = some (decide (Amt x)) := by
  unfold cohousingref02_Amount.f
  by_cases h : x ≥ (-1000000000)
  · rw [if_pos h]
    exact congrArg some (decide_eq_decide.mpr (by unfold Amt; omega))
  · rw [if_neg h, decide_eq_false (by unfold Amt; omega)]
end Go.Proofs.YtcbhaoaameiacaaDoor.Pure

