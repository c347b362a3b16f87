/- The law MoneyMonotone as a statement over numbers and lists: every input answers true. No Go and no memory in it. -/
import Derived.Test.YtcbhaoaameiacaaDoorMoneyLaws
namespace Go.Proofs.YtcbhaoaameiacaaDoor.Pure
open Go.RowKit Go.Proofs.YtcbhaoaameiacaaDoor.X Go.Proofs.YtcbhaoaameiacaaDoorW.PrintWords

theorem MoneyMonotone : ∀ (a0 : Int) (a1 : Int) (a2_0 : Int) (a2_1 : Int), (Lit.int .i64 a0).wf = true → (Lit.int .i64 a1).wf = true → (Lit.int .i64 a2_0).wf = true → (Lit.int .i64 a2_1).wf = true → ∃ k, cohousinglaw02_MoneyMonotone.f k a0 a1 a2_0 a2_1 = some true := by
  intro a b n d _ _ hn hd
  obtain ⟨B, hB⟩ : ∃ B, Big B := ⟨20000000000000000000, Nat.le_refl _⟩
  have hB20 : 20 ≤ B + 2 := by unfold Big at hB; omega
  refine ⟨B + 2, ?_⟩
  have hh : cohousinglaw02_head.f (B + 2) = some true := at_rounds cohousinglaw02_head.mono hB20 head_ok
  unfold cohousinglaw02_MoneyMonotone.f
  rw [hh, Option.bind_some, if_pos rfl, ref_valid (B + 2) (by unfold Big at *; omega) n d (wf_in hn) (wf_in hd), Option.bind_some]
  by_cases hv : Vld n d
  · rw [decide_eq_true hv, if_pos rfl, cohousinglaw02_MoneyMonotone.j0]
    by_cases h0 : n < 0
    · rw [decide_eq_true h0, if_pos rfl]
    · rw [decide_eq_false h0, if_neg (by decide), scale_eq, Option.bind_some, scale_eq, Option.bind_some]
      by_cases hx : (scaleF (mn a b) n d).2 = 0
      · rw [if_pos hx]
        by_cases hy : (scaleF (mx a b) n d).2 = 0
        · rw [if_pos hy]
          have hle : (scaleF (mn a b) n d).1 ≤ (scaleF (mx a b) n d).1 := by
            unfold scaleF at hx hy ⊢
            by_cases h1 : Amt (mn a b) ∧ Vld n d
            · rw [if_pos h1] at hx ⊢
              by_cases h2 : Amt (mx a b) ∧ Vld n d
              · rw [if_pos h2] at hy ⊢
                by_cases h3 : Amt (rnd (mn a b * n) d)
                · by_cases h4 : Amt (rnd (mx a b * n) d)
                  · rw [if_pos h3, if_pos h4]
                    refine rnd_mono _ _ d hv.1 ?_
                    exact Int.mul_le_mul_of_nonneg_right (by unfold mn mx; split <;> split <;> omega) (by omega)
                  · rw [if_neg h4] at hy
                    simp at hy
                · rw [if_neg h3] at hx
                  simp at hx
              · rw [if_neg h2] at hy
                simp at hy
            · rw [if_neg h1] at hx
              simp at hx
          rw [if_pos hle]
        · rw [if_neg hy]
      · rw [if_neg hx]
  · rw [decide_eq_false hv, if_neg (by decide), cohousinglaw02_MoneyMonotone.j0, if_pos rfl]
end Go.Proofs.YtcbhaoaameiacaaDoor.Pure

