/- The law RationalOrder as a statement over numbers and lists: every input answers true. No Go and no memory in it. -/
import Derived.Test.YteifflpjhlgpjaaDoorXx11
import Derived.Test.YteifflpjhlgpjaaDoorRatLaws2
namespace Go.Proofs.YteifflpjhlgpjaaDoor.Pure
open Go.RowKit Go.Proofs.YteifflpjhlgpjaaDoor.X Go.Proofs.YteifflpjhlgpjaaDoorW.PrintWords

theorem cmp_flip (p q : Rat) : cmpQ q p = -cmpQ p q := by
  have h1 := cmpQ_neg p q
  have h2 := cmpQ_pos p q
  have h3 := cmpQ_neg q p
  have h4 := cmpQ_pos q p
  have r1 := cmpQ_range p q
  have r2 := cmpQ_range q p
  rcases r1 with r1 | r1 | r1
  · have := h4.mpr (h1.mp (by omega)); omega
  · have e := (cmpQ_zero p q).mp r1
    subst e
    omega
  · have := h3.mpr (h2.mp (by omega)); omega
theorem le_of (p q : Rat) (h : cmpQ p q ≤ 0) : p ≤ q := by rw [← Rat.not_lt, ← cmpQ_pos]; omega
theorem of_le (p q : Rat) (h : p ≤ q) : cmpQ p q ≤ 0 := by
  rw [← Rat.not_lt, ← cmpQ_pos] at h; omega
theorem sign_sub (p q : Rat) : ((p - q).num < 0 ↔ cmpQ p q < 0) ∧ (0 < (p - q).num ↔ 0 < cmpQ p q) := by
  have a1 : 0 ≤ (p - q).num ↔ q ≤ p := by rw [Rat.num_nonneg, ← Rat.le_iff_sub_nonneg]
  have a2 : (p - q).num = 0 ↔ p = q := by
    rw [Rat.num_eq_zero]
    constructor
    · intro h
      have h1 : p - q + q = 0 + q := by rw [h]
      rw [Rat.sub_add_cancel, Rat.zero_add] at h1
      exact h1
    · rintro rfl
      exact Rat.sub_self
  have b1 := cmpQ_neg p q
  have b2 := cmpQ_pos p q
  have b3 := cmpQ_zero p q
  constructor
  · rw [b1, ← Rat.not_le, ← a1]; omega
  · rw [b2]
    constructor
    · intro h
      refine Rat.lt_of_le_of_ne (a1.mp (by omega)) ?_
      intro e
      have := a2.mpr e.symm
      omega
    · intro h
      have h1 := a1.mpr (Rat.le_of_lt h)
      have h2 : (p - q).num ≠ 0 := fun e => by
        have := a2.mp e
        subst this
        exact Rat.lt_irrefl h
      omega
theorem cmp_add (p q r : Rat) : cmpQ (p + r) (q + r) = cmpQ p q := by
  have h1 := cmpQ_neg p q
  have h2 := cmpQ_pos p q
  have h3 := cmpQ_neg (p + r) (q + r)
  have h4 := cmpQ_pos (p + r) (q + r)
  rw [Rat.add_lt_add_right] at h3 h4
  have r1 := cmpQ_range p q
  have r2 := cmpQ_range (p + r) (q + r)
  have e1 : cmpQ (p + r) (q + r) < 0 ↔ cmpQ p q < 0 := h3.trans h1.symm
  have e2 : 0 < cmpQ (p + r) (q + r) ↔ 0 < cmpQ p q := h4.trans h2.symm
  omega

/-- The second half: from the sign of the difference on. -/
theorem order_j1 (k : Nat) (p q r : Rat) (hp : Fits p) (hq : Fits q) (hr : Fits r) :
    cohousinglaw01_RationalOrder.j1 (k + 4) true (cmpQ p q) false p.num p.den q.num q.den r.num r.den = some true := by
  simp only [cohousinglaw01_RationalOrder.j1, Bool.false_eq_true, if_false]
  rw [sub_eq p q hp hq]
  simp only [Option.bind_some]
  have hj2 : cohousinglaw01_RationalOrder.j2 (k + 3) true (cmpQ p q) false p.num p.den q.num q.den r.num r.den = some true := by
    simp only [cohousinglaw01_RationalOrder.j2, Bool.false_eq_true, if_false, if_true]
    rw [add_eq p r hp hr, add_eq q r hq hr]
    simp only [Option.bind_some]
    rcases outQ_cases (p + r) with ⟨hf, e⟩ | ⟨hf, e⟩
    · rcases outQ_cases (q + r) with ⟨hg, e2⟩ | ⟨hg, e2⟩
      · rw [e, e2]
        simp only [if_true]
        rw [cmp_eq (k + 1) (p + r) (q + r) hf hg, cmp_add]
        simp
      · rw [e, e2]
        simp
    · rw [e]
      simp
  rcases outQ_cases (p - q) with ⟨hf, e⟩ | ⟨hf, e⟩
  · rw [e]
    obtain ⟨s1, s2⟩ := sign_sub p q
    have b1 : decide ((p - q).num < 0) = decide (cmpQ p q < 0) := decide_eq_decide.mpr s1
    have b2 : decide ((p - q).num > 0) = decide (cmpQ p q > 0) := decide_eq_decide.mpr s2
    simp only [if_true, b1, b2, bne_self_eq_false, Bool.false_eq_true, if_false]
    exact hj2
  · rw [e]
    simp only [if_neg (show ¬ (3 : Int) = 0 by omega)]
    exact hj2

theorem RationalOrder : ∀ (a0_0 : Int) (a0_1 : Int) (a1_0 : Int) (a1_1 : Int) (a2_0 : Int) (a2_1 : Int), (Lit.int .i64 a0_0).wf = true → (Lit.int .i64 a0_1).wf = true → (Lit.int .i64 a1_0).wf = true → (Lit.int .i64 a1_1).wf = true → (Lit.int .i64 a2_0).wf = true → (Lit.int .i64 a2_1).wf = true → ∃ k, cohousinglaw01_RationalOrder.f k a0_0 a0_1 a1_0 a1_1 a2_0 a2_1 = some true := by
  intro a0 a1 b0 b1 c0 c1 _ _ _ _ _ _
  refine ⟨10, ?_⟩
  unfold cohousinglaw01_RationalOrder.f
  rw [head_true, Option.bind_some, numbers3, Option.bind_some]
  by_cases hv : (vld a0 a1 && vld b0 b1 && vld c0 c1) = true
  · rw [if_pos hv]
    rw [Bool.and_eq_true, Bool.and_eq_true] at hv
    obtain ⟨p, hp, rfl, rfl⟩ := of_vld hv.1.1
    obtain ⟨q, hq, rfl, rfl⟩ := of_vld hv.1.2
    obtain ⟨r, hr, rfl, rfl⟩ := of_vld hv.2
    rw [cmp_eq 9 p q hp hq, cmp_eq 9 q r hq hr, cmp_eq 9 p r hp hr, cmp_eq 9 q p hq hp, cmp_flip p q]
    simp only [Option.bind_some, if_true]
    have r1 := cmpQ_range p q
    have r2 := cmpQ_range q r
    have r3 := cmpQ_range p r
    rw [if_neg (by omega), if_neg (by omega), if_pos (by unfold wrap64; omega)]
    have eb : ((cmpQ p q == 0) != (p.num == q.num && ((p.den : Int) == (q.den : Int)))) = false := by
      rw [bne_eq_false_iff_eq, Bool.eq_iff_iff, Bool.and_eq_true, beq_iff_eq, beq_iff_eq, beq_iff_eq, cmpQ_zero]
      constructor
      · rintro rfl; exact ⟨rfl, rfl⟩
      · rintro ⟨e1, e2⟩
        exact Rat.ext e1 (by omega)
    rw [eb]
    simp only [cohousinglaw01_RationalOrder.j0, Bool.false_eq_true, if_false]
    have j1 := order_j1 5 p q r hp hq hr
    have t1 : cmpQ p q ≤ 0 → cmpQ q r ≤ 0 → ¬ cmpQ p r > 0 := fun h1 h2 => by
      have := of_le p r (Rat.le_trans (le_of p q h1) (le_of q r h2))
      omega
    have t2 : cmpQ p q < 0 → cmpQ q r ≤ 0 → ¬ cmpQ p r = 0 := fun h1 h2 h3 => by
      have e := (cmpQ_zero p r).mp h3
      subst e
      have := cmp_flip p q
      omega
    by_cases h1 : cmpQ p q ≤ 0
    · rw [if_pos h1]
      by_cases h2 : cmpQ q r ≤ 0
      · rw [if_pos h2, if_neg (t1 h1 h2)]
        by_cases h3 : cmpQ p q < 0
        · rw [if_pos h3, beq_eq_false_iff_ne.mpr (t2 h3 h2)]
          exact j1
        · rw [if_neg h3]
          exact j1
      · rw [if_neg h2]
        split
        · exact j1
        · exact j1
    · rw [if_neg h1, if_neg (by omega)]
      exact j1
  · rw [if_neg hv]
    rfl
end Go.Proofs.YteifflpjhlgpjaaDoor.Pure

