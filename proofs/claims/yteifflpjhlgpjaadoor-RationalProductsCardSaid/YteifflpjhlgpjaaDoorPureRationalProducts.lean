/- The law RationalProducts as a statement over numbers: every input answers true. No Go and no memory in it. -/
import Derived.Test.YteifflpjhlgpjaaDoorXxP
import Derived.Test.YteifflpjhlgpjaaDoorRatLaws2
namespace Go.Proofs.YteifflpjhlgpjaaDoor.Pure
open Go.RowKit Go.Proofs.YteifflpjhlgpjaaDoor.X Go.Proofs.YteifflpjhlgpjaaDoorW.PrintWords

theorem mul_bad (a b : Int) : rational_Mul.f a b 0 0 = some (0, 0, 1) := by
  unfold rational_Mul.f applyR
  rw [if_neg]
  rintro ⟨_, h⟩
  revert h
  decide
theorem add_bad (a b : Int) : rational_Add.f a b 0 0 = some (0, 0, 1) := by
  unfold rational_Add.f applyR
  rw [if_neg]
  rintro ⟨_, h⟩
  revert h
  decide
theorem products_j2 (k : Nat) (p q r : Rat) (hp : Fits p) (hq : Fits q) (hr : Fits r) (hf : Fits (p * q)) : cohousinglaw01_RationalProducts.j2 (k + 1) true false p.num p.den q.num q.den r.num r.den (p * q).num (p * q).den = some true := by
  simp only [cohousinglaw01_RationalProducts.j2, Bool.false_eq_true, if_false, if_true]
  rw [add_eq q r hq hr, mul_eq p r hp hr]
  simp only [Option.bind_some]
  rcases outQ_cases (q + r) with ⟨hg, e⟩ | ⟨hg, e⟩
  · rw [e]
    simp only [if_true]
    rw [mul_eq p (q + r) hp hg]
    simp only [Option.bind_some]
    rcases outQ_cases (p * r) with ⟨hi, e2⟩ | ⟨hi, e2⟩
    · rw [e2]
      simp only [if_true]
      rw [add_eq (p * q) (p * r) hf hi, ← Rat.mul_add]
      simp only [Option.bind_some, beq_self_eq_true, Bool.and_self, if_true]
      split <;> (try split) <;> rfl
    · rw [e2]
      simp only
      rw [add_bad]
      simp
  · rw [e]
    simp only
    rw [mul_bad]
    simp only [Option.bind_some]
    rcases outQ_cases (p * r) with ⟨hi, e2⟩ | ⟨hi, e2⟩
    · rw [e2]
      simp only
      rw [add_eq (p * q) (p * r) hf hi]
      simp
    · rw [e2]
      simp only
      rw [add_bad]
      simp
theorem products_j1 (k : Nat) (p q r : Rat) (hp : Fits p) (hq : Fits q) (hr : Fits r) (hf : Fits (p * q)) : cohousinglaw01_RationalProducts.j1 (k + 2) true false p.num p.den q.num q.den r.num r.den (p * q).num (p * q).den = some true := by
  simp only [cohousinglaw01_RationalProducts.j1, Bool.false_eq_true, if_false]
  have hj := products_j2 k p q r hp hq hr hf
  rw [mul_eq q r hq hr, mul_eq (p * q) r hf hr]
  simp only [Option.bind_some]
  rcases outQ_cases (q * r) with ⟨hg, e⟩ | ⟨hg, e⟩
  · rw [e]
    simp only [if_true]
    rw [mul_eq p (q * r) hp hg, ← Rat.mul_assoc]
    simp only [Option.bind_some, beq_self_eq_true, Bool.not_true, Bool.or_self]
    rw [hj]
    split <;> (try split) <;> rfl
  · rw [e]
    simp only
    rw [mul_bad]
    simp only [Option.bind_some]
    rw [if_neg (by decide)]
    exact hj

theorem RationalProducts : ∀ (a0_0 : Int) (a0_1 : Int) (a1_0 : Int) (a1_1 : Int) (a2_0 : Int) (a2_1 : Int), (Lit.int .i64 a0_0).wf = true → (Lit.int .i64 a0_1).wf = true → (Lit.int .i64 a1_0).wf = true → (Lit.int .i64 a1_1).wf = true → (Lit.int .i64 a2_0).wf = true → (Lit.int .i64 a2_1).wf = true → ∃ k, cohousinglaw01_RationalProducts.f k a0_0 a0_1 a1_0 a1_1 a2_0 a2_1 = some true := by
  intro a0 a1 b0 b1 c0 c1 _ _ _ _ _ _
  refine ⟨10, ?_⟩
  unfold cohousinglaw01_RationalProducts.f
  rw [head_true, Option.bind_some, numbers3, Option.bind_some]
  by_cases hv : (vld a0 a1 && vld b0 b1 && vld c0 c1) = true
  · rw [if_pos hv]
    rw [Bool.and_eq_true, Bool.and_eq_true] at hv
    obtain ⟨p, hp, rfl, rfl⟩ := of_vld hv.1.1
    obtain ⟨q, hq, rfl, rfl⟩ := of_vld hv.1.2
    obtain ⟨r, hr, rfl, rfl⟩ := of_vld hv.2
    rw [mul_eq p q hp hq, mul_eq q p hq hp, Rat.mul_comm q p]
    simp only [Option.bind_some]
    rcases outQ_cases (p * q) with ⟨hf, e⟩ | ⟨hf, e⟩
    · rw [e]
      simp only [beq_self_eq_true, Bool.not_true, Bool.or_self, Bool.false_eq_true, if_false, if_true]
      simp only [cohousinglaw01_RationalProducts.j0, Bool.false_eq_true, if_false, if_true]
      have hj := products_j1 7 p q r hp hq hr hf
      by_cases hz : q.num = 0
      · rw [div_zero (p * q) q hf hq hz, Option.bind_some, if_pos hz]
        exact hj
      · have hq0 : q ≠ 0 := by
          intro h0
          exact hz (by rw [h0]; rfl)
        rw [div_eq (p * q) q hf hq hz, Rat.mul_div_cancel hq0, outQ_fits hp, Option.bind_some, if_neg hz]
        simp only [if_true, beq_self_eq_true, Bool.not_true, Bool.or_self]
        exact hj
    · rw [e]
      simp [cohousinglaw01_RationalProducts.j0]
  · rw [if_neg hv]
    rfl
end Go.Proofs.YteifflpjhlgpjaaDoor.Pure

