/- The law MoneyRounds as a statement over numbers and lists: every input answers true. No Go and no memory in it. -/
import Derived.Test.YtcbhaoaameiacaaDoorMoneyLaws
namespace Go.Proofs.YtcbhaoaameiacaaDoor.Pure
open Go.RowKit Go.Proofs.YtcbhaoaameiacaaDoor.X Go.Proofs.YtcbhaoaameiacaaDoorW.PrintWords

theorem MoneyRounds : ∀ (a0 : Int) (a1_0 : Int) (a1_1 : Int), (Lit.int .i64 a0).wf = true → (Lit.int .i64 a1_0).wf = true → (Lit.int .i64 a1_1).wf = true → ∃ k, cohousinglaw02_MoneyRounds.f k a0 a1_0 a1_1 = some true := by
  intro c n d _ hn hd
  obtain ⟨B, hB⟩ : ∃ B, Big B := ⟨20000000000000000000, Nat.le_refl _⟩
  have hB20 : 20 ≤ B + 3 := by unfold Big at hB; omega
  refine ⟨B + 3, ?_⟩
  have hh : cohousinglaw02_head.f (B + 3) = some true := at_rounds cohousinglaw02_head.mono hB20 head_ok
  unfold cohousinglaw02_MoneyRounds.f
  rw [hh, Option.bind_some, if_pos rfl, ref_amt, Option.bind_some]
  by_cases hc : Amt c
  · rw [decide_eq_true hc, if_pos rfl, ref_valid (B + 3) (by unfold Big at *; omega) n d (wf_in hn) (wf_in hd), Option.bind_some]
    by_cases hv : Vld n d
    · rw [decide_eq_true hv, Bool.not_true, cohousinglaw02_MoneyRounds.j0, if_neg (by decide)]
      have hneg : wrap64 (-c) = -c := wrap_ok (by unfold Amt at hc; omega) (by unfold Amt at hc; omega)
      have hcn : Amt (-c) := by unfold Amt at *; omega
      have h11 : Vld 1 1 := by decide
      rw [hneg, scale_eq, Option.bind_some, scale_eq, Option.bind_some, scale_eq, Option.bind_some]
      have e1 : scaleF c 1 1 = (c, 0) := by
        unfold scaleF
        rw [if_pos (show Amt c ∧ Vld 1 1 from ⟨hc, h11⟩), Int.mul_one, rnd_one, if_pos hc]
      rw [e1]
      simp only [if_true]
      have e2 : scaleF c n d = if Amt (rnd (c * n) d) then (rnd (c * n) d, 0) else (0, 3) := by
        unfold scaleF
        rw [if_pos (show Amt c ∧ Vld n d from ⟨hc, hv⟩)]
      have hna : Amt (-rnd (c * n) d) ↔ Amt (rnd (c * n) d) := by unfold Amt; omega
      have e3 : scaleF (-c) n d = if Amt (rnd (c * n) d) then (-rnd (c * n) d, 0) else (0, 3) := by
        unfold scaleF
        rw [if_pos (show Amt (-c) ∧ Vld n d from ⟨hcn, hv⟩), Int.neg_mul, rnd_neg _ _ hv.1]
        by_cases h : Amt (rnd (c * n) d)
        · rw [if_pos h, if_pos (hna.mpr h)]
        · rw [if_neg h, if_neg (fun g => h (hna.mp g))]
      rw [e2, e3]
      have hsp := rnd_spec (c * n) d hv.1
      have hp := prod_le hc (show Amt n from ⟨hv.2.2.1, hv.2.2.2.1⟩)
      have hd2 := hv.2.1
      have hd1 := hv.1
      by_cases h : Amt (rnd (c * n) d)
      · rw [if_pos h, if_pos h]
        simp only [if_true]
        have hq := prod_le h (show Amt d from ⟨by omega, by omega⟩)
        have w0 : wrap64 (-rnd (c * n) d) = -rnd (c * n) d := wrap_ok (by unfold Amt at h; omega) (by unfold Amt at h; omega)
        rw [w0, bne_self_eq_false, cohousinglaw02_MoneyRounds.j1, if_neg (by decide), if_pos rfl, ref_amt, Option.bind_some, decide_eq_true h, if_pos rfl]
        generalize rnd (c * n) d * d = y at *
        generalize c * n = x at *
        have w1 : wrap64 y = y := wrap_ok (by omega) (by omega)
        have w2 : wrap64 x = x := wrap_ok (by omega) (by omega)
        have w3 : wrap64 (y - x) = y - x := wrap_ok (by omega) (by omega)
        have w4 : wrap64 (2 * (y - x)) = 2 * (y - x) := wrap_ok (by omega) (by omega)
        have w5 : wrap64 (-2 * (y - x)) = -2 * (y - x) := wrap_ok (by omega) (by omega)
        rw [w1, w2, w3, w4, w5, if_pos hsp.1, if_pos hsp.2]
      · rw [if_neg h, if_neg h]
        simp only [if_true]
        have w0 : wrap64 (-0) = 0 := wrap_ok (by decide) (by decide)
        rw [w0, bne_self_eq_false, cohousinglaw02_MoneyRounds.j1, if_neg (by decide), if_neg (by decide), if_pos rfl, if_pos rfl]
    · rw [decide_eq_false hv, Bool.not_false, cohousinglaw02_MoneyRounds.j0, if_pos rfl]
  · rw [decide_eq_false hc, if_neg (by decide), cohousinglaw02_MoneyRounds.j0, if_pos rfl]
end Go.Proofs.YtcbhaoaameiacaaDoor.Pure

