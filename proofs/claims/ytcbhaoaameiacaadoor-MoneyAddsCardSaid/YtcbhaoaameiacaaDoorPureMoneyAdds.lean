/- The law MoneyAdds as a statement over numbers and lists: every input answers true. No Go and no memory in it. -/
import Derived.Test.YtcbhaoaameiacaaDoorMoneyLaws
namespace Go.Proofs.YtcbhaoaameiacaaDoor.Pure
open Go.RowKit Go.Proofs.YtcbhaoaameiacaaDoor.X Go.Proofs.YtcbhaoaameiacaaDoorW.PrintWords

theorem MoneyAdds : ∀ (a0 : Int) (a1 : Int) (a2 : Int), (Lit.int .i64 a0).wf = true → (Lit.int .i64 a1).wf = true → (Lit.int .i64 a2).wf = true → ∃ k, cohousinglaw02_MoneyAdds.f k a0 a1 a2 = some true := by
  intro a b c _ _ _
  refine ⟨20, ?_⟩
  have hj2 : ∀ k, cohousinglaw02_MoneyAdds.j2 (k + 6) a true = some true := by
    intro k
    rw [cohousinglaw02_MoneyAdds.j2, ref_amt, Option.bind_some]
    by_cases ha : Amt a
    · have hn : wrap64 (-a) = -a := wrap_ok (by unfold Amt at ha; omega) (by unfold Amt at ha; omega)
      have hm : Amt (-a) := by unfold Amt at *; omega
      have h0 : Amt (a + -a) := by unfold Amt; omega
      rw [decide_eq_true ha, if_pos rfl, add_eq _ (by simp) _ (by simp), Option.bind_some, hn, add2, if_pos (show Amt a ∧ Amt (-a) from ⟨ha, hm⟩), if_pos h0]
      simp only [if_true]
      rw [if_pos (by omega)]
    · rw [decide_eq_false ha]
      rfl
  unfold cohousinglaw02_MoneyAdds.f
  rw [head_ok, Option.bind_some, if_pos rfl, add_eq _ (by simp) _ (by simp), Option.bind_some, add_eq _ (by simp) _ (by simp), Option.bind_some]
  have he : addF 0 [c, a, b] = addF 0 [a, b, c] := by
    rw [add3, add3, show c + a + b = a + b + c by omega]
    by_cases h : Amt a ∧ Amt b ∧ Amt c
    · rw [if_pos h, if_pos (show Amt c ∧ Amt a ∧ Amt b from ⟨h.2.2, h.1, h.2.1⟩)]
    · rw [if_neg h, if_neg (show ¬ (Amt c ∧ Amt a ∧ Amt b) from fun g => h ⟨g.2.1, g.2.2, g.1⟩)]
  rw [he, if_pos rfl, bne_self_eq_false, cohousinglaw02_MoneyAdds.j0, if_neg (by decide), add_eq _ (by simp) _ (by simp), Option.bind_some]
  have hf : ∀ x, cohousinglaw02_MoneyAdds.j1 19 a c (addF 0 [a, b, c]).1 x false = some true := by
    intro x
    rw [cohousinglaw02_MoneyAdds.j1, if_neg (by decide)]
    exact hj2 12
  by_cases hz : (addF 0 [a, b]).2 = 0
  · rw [if_pos hz]
    by_cases hx : (addF 0 [a, b, c]).2 = 0
    · rw [hx]
      have e : ((0 : Int) == 0) = true := rfl
      have hs : addF 0 [a, b] = (a + b, 0) ∧ Amt (a + b) := by
        rw [add2] at hz ⊢
        by_cases h2 : Amt a ∧ Amt b
        · rw [if_pos h2] at hz ⊢
          by_cases hs : Amt (a + b)
          · rw [if_pos hs]
            exact ⟨rfl, hs⟩
          · rw [if_neg hs] at hz
            simp at hz
        · rw [if_neg h2] at hz
          simp at hz
      have ht : addF 0 [a, b, c] = (a + b + c, 0) ∧ Amt (a + b + c) ∧ Amt c := by
        rw [add3] at hx ⊢
        by_cases h3 : Amt a ∧ Amt b ∧ Amt c
        · rw [if_pos h3] at hx ⊢
          by_cases ht : Amt (a + b + c)
          · rw [if_pos ht]
            exact ⟨rfl, ht, h3.2.2⟩
          · rw [if_neg ht] at hx
            simp at hx
        · rw [if_neg h3] at hx
          simp at hx
      rw [e, hs.1, ht.1, cohousinglaw02_MoneyAdds.j1, if_pos rfl, add_eq _ (by simp) _ (by simp), Option.bind_some, add2, if_pos (show Amt (a + b) ∧ Amt c from ⟨hs.2, ht.2.2⟩), if_pos ht.2.1]
      simp only [if_true]
      exact hj2 12
    · have e : ((addF 0 [a, b, c]).2 == 0) = false := beq_eq_false_iff_ne.mpr hx
      rw [e]
      exact hf _
  · rw [if_neg hz]
    exact hf _
end Go.Proofs.YtcbhaoaameiacaaDoor.Pure

