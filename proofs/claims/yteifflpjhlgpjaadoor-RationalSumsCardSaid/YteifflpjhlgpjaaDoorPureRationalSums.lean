/- The law RationalSums as a statement over numbers and lists: every input answers true. No Go and no memory in it. -/
import Derived.Test.YteifflpjhlgpjaaDoorXx10
import Derived.Test.YteifflpjhlgpjaaDoorRatLaws2
namespace Go.Proofs.YteifflpjhlgpjaaDoor.Pure
open Go.RowKit Go.Proofs.YteifflpjhlgpjaaDoor.X Go.Proofs.YteifflpjhlgpjaaDoorW.PrintWords

theorem RationalSums : ∀ (a0_0 : Int) (a0_1 : Int) (a1_0 : Int) (a1_1 : Int) (a2_0 : Int) (a2_1 : Int), (Lit.int .i64 a0_0).wf = true → (Lit.int .i64 a0_1).wf = true → (Lit.int .i64 a1_0).wf = true → (Lit.int .i64 a1_1).wf = true → (Lit.int .i64 a2_0).wf = true → (Lit.int .i64 a2_1).wf = true → ∃ k, cohousinglaw01_RationalSums.f k a0_0 a0_1 a1_0 a1_1 a2_0 a2_1 = some true := by
  intro a0 a1 b0 b1 c0 c1 _ _ _ _ _ _
  refine ⟨10, ?_⟩
  unfold cohousinglaw01_RationalSums.f
  rw [head_true, Option.bind_some, if_pos rfl, numbers3, Option.bind_some]
  by_cases hv : (vld a0 a1 && vld b0 b1 && vld c0 c1) = true
  · rw [if_pos hv]
    rw [Bool.and_eq_true, Bool.and_eq_true] at hv
    obtain ⟨p, hp, rfl, rfl⟩ := of_vld hv.1.1
    obtain ⟨q, hq, rfl, rfl⟩ := of_vld hv.1.2
    obtain ⟨r, hr, rfl, rfl⟩ := of_vld hv.2
    rw [add_eq p q hp hq, add_eq q p hq hp, Rat.add_comm q p]
    simp only [Option.bind_some]
    rcases outQ_cases (p + q) with ⟨hf, e⟩ | ⟨hf, e⟩
    · rw [e]
      simp only [beq_self_eq_true, Bool.not_true, Bool.or_self, Bool.false_eq_true, if_false, if_true]
      simp only [cohousinglaw01_RationalSums.j0, Bool.false_eq_true, if_false, if_true]
      rw [sub_eq (p + q) q hf hq, Rat.add_sub_cancel, add_eq q r hq hr, add_eq (p + q) r hf hr, outQ_fits hp]
      simp only [Option.bind_some]
      rcases outQ_cases (q + r) with ⟨hg, e2⟩ | ⟨hg, e2⟩
      · rw [e2]
        simp only
        rw [add_eq p (q + r) hp hg, ← Rat.add_assoc]
        simp only [Option.bind_some, beq_self_eq_true, Bool.and_self, if_true]
        split
        · rfl
        · rfl
      · rw [e2]
        simp only
        have hz : rational_Add.f p.num p.den 0 0 = some (0, 0, 1) := by
          unfold rational_Add.f applyR
          rw [if_neg]
          rintro ⟨_, h⟩
          revert h
          decide
        rw [hz]
        simp
    · rw [e]
      simp [cohousinglaw01_RationalSums.j0]
  · rw [if_neg hv]
end Go.Proofs.YteifflpjhlgpjaaDoor.Pure

