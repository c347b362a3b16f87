/- More of what the rational package computes: comparing, the floor, lists of numbers, and the fixed check at each law's head. -/
import Derived.Test.YteifflpjhlgpjaaDoorRatLaws
namespace Go.Proofs.YteifflpjhlgpjaaDoor.X
open Go.RowKit Go.Proofs.YteifflpjhlgpjaaDoorW.PrintWords

theorem head_true : cohousinglaw01_head.f 10 = some true := by decide +kernel
/-- The sign of a comparison. -/
def cmpQ (p q : Rat) : Int := if p.num * q.den < q.num * p.den then -1 else if p.num * q.den > q.num * p.den then 1 else 0
theorem cmp_eq (k : Nat) (p q : Rat) (hp : Fits p) (hq : Fits q) : rational_Compare.f (k + 1) p.num p.den q.num q.den = some (cmpQ p q, 0) := by
  have b1 := hp.bnd
  have b2 := hq.bnd
  have k1 := prod_bnd (a := p.num) (b := (q.den : Int)) (by omega) (by omega) (by omega) (by omega)
  have k2 := prod_bnd (a := q.num) (b := (p.den : Int)) (by omega) (by omega) (by omega) (by omega)
  unfold rational_Compare.f
  rw [valid_eq, valid_eq, vld_of p hp, vld_of q hq]
  simp only [Option.bind_some, if_true, Bool.not_true, rational_Compare.j0, Bool.false_eq_true, if_false]
  rw [wrap_id (x := p.num * q.den) (by omega) (by omega), wrap_id (x := q.num * p.den) (by omega) (by omega)]
  unfold cmpQ
  split
  · rfl
  · split <;> rfl
theorem cmpQ_neg (p q : Rat) : cmpQ p q < 0 ↔ p < q := by
  rw [Rat.lt_iff]
  unfold cmpQ
  split
  · simp [*]
  · split <;> simp [*]
theorem cmpQ_pos (p q : Rat) : 0 < cmpQ p q ↔ q < p := by
  rw [Rat.lt_iff]
  unfold cmpQ
  split
  · rename_i h; constructor
    · intro h2; omega
    · intro h2; omega
  · split <;> simp [*]
theorem cmpQ_zero (p q : Rat) : cmpQ p q = 0 ↔ p = q := by
  constructor
  · intro h
    apply Rat.le_antisymm
    · rw [← Rat.not_lt, ← cmpQ_pos]; omega
    · rw [← Rat.not_lt, ← cmpQ_neg]; omega
  · rintro rfl
    have h1 := cmpQ_pos p p
    have h2 := cmpQ_neg p p
    have := @Rat.lt_irrefl p
    have e1 : ¬ 0 < cmpQ p p := fun h => this (h1.mp h)
    have e2 : ¬ cmpQ p p < 0 := fun h => this (h2.mp h)
    omega
theorem cmpQ_range (p q : Rat) : cmpQ p q = -1 ∨ cmpQ p q = 0 ∨ cmpQ p q = 1 := by
  unfold cmpQ
  split
  · exact .inl rfl
  · split
    · exact .inr (.inr rfl)
    · exact .inr (.inl rfl)
theorem floor_eq (p : Rat) (hp : Fits p) : rational_Floor.f p.num p.den = some (p.num / p.den, 0) := by
  have b1 := hp.bnd
  unfold rational_Floor.f
  rw [valid_eq, vld_of p hp]
  simp only [Option.bind_some, if_true]
  rw [if_neg (by omega)]
  have hd : 0 < (p.den : Int) := by omega
  have e0 : p.num.tdiv p.den = if 0 ≤ p.num then p.num / p.den else -((-p.num) / p.den) := by
    split
    · exact Int.tdiv_eq_ediv_of_nonneg (by assumption)
    · have := Int.neg_tdiv (a := -p.num) (b := (p.den : Int))
      rw [Int.neg_neg] at this
      rw [this, Int.tdiv_eq_ediv_of_nonneg (by omega)]
  generalize hn : p.num = n at *
  generalize (p.den : Int) = d at *
  have hb : -1000000000 ≤ n.tdiv d ∧ n.tdiv d ≤ 1000000000 := by
    rw [e0]
    split
    · have h1 := Int.ediv_nonneg (a := n) (b := d) (by omega) (by omega)
      have h2 := Int.ediv_le_self (a := n) d (by omega)
      omega
    · have h1 := Int.ediv_nonneg (a := -n) (b := d) (by omega) (by omega)
      have h2 := Int.ediv_le_self (a := -n) d (by omega)
      omega
  have hw := wrap_id (x := n.tdiv d) (by omega) (by omega)
  rw [hw]
  by_cases h0 : n < 0
  · rw [if_pos h0]
    rw [if_neg (by omega)] at e0
    have hm := Int.emod_add_mul_ediv (-n) d
    have hm1 := Int.emod_nonneg (-n) (b := d) (by omega)
    have hm2 := Int.emod_lt_of_pos (-n) hd
    have hk := Int.emod_add_mul_ediv n d
    have hk1 := Int.emod_nonneg n (b := d) (by omega)
    have hk2 := Int.emod_lt_of_pos n hd
    have hpr : -1000000000 ≤ n.tdiv d * d ∧ n.tdiv d * d ≤ 1000000000 := by
      rw [e0, Int.neg_mul, Int.mul_comm]
      omega
    rw [wrap_id (x := n.tdiv d * d) (by omega) (by omega)]
    by_cases he : n.tdiv d * d = n
    · rw [if_pos he]
      have hq : n.tdiv d = n / d := by
        rw [← he, Int.mul_ediv_cancel _ (by omega)]
        rw [he]
      rw [hq]
    · rw [if_neg he, wrap_id (by omega) (by omega)]
      have hq : n / d = n.tdiv d - 1 := by
        rw [e0] at he ⊢
        have hne : (-n) % d ≠ 0 := by
          intro hz
          apply he
          rw [Int.neg_mul, Int.mul_comm]
          omega
        have hlin : d * (n / d) = d * (-(-n / d) - 1) + (d - (-n) % d - n % d) := by
          rw [Int.mul_sub, Int.mul_neg]
          omega
        have hbd : -d < d - (-n) % d - n % d ∧ d - (-n) % d - n % d < d := by omega
        generalize hr : d - (-n) % d - n % d = r at *
        have hdv : d * (n / d - (-(-n / d) - 1)) = r := by rw [Int.mul_sub]; omega
        have hz : n / d - (-(-n / d) - 1) = 0 := by
          generalize n / d - (-(-n / d) - 1) = z at *
          rcases Int.lt_trichotomy z 0 with h | h | h
          · have : d * z ≤ d * (-1) := Int.mul_le_mul_of_nonneg_left (by omega) (by omega)
            omega
          · exact h
          · have : d * 1 ≤ d * z := Int.mul_le_mul_of_nonneg_left (by omega) (by omega)
            omega
        omega
      rw [hq]
  · rw [if_neg h0]
    rw [if_pos (by omega)] at e0
    rw [e0]
theorem numbers3 (a b c d e f : Int) : cohousinglaw01_numbers.f 10 [(⟨a, b⟩ : S24), (⟨c, d⟩ : S24), (⟨e, f⟩ : S24)] = some (vld a b && vld c d && vld e f) := by
  unfold cohousinglaw01_numbers.f
  cases h1 : vld a b with
  | false => simp [cohousinglaw01_numbers.l0, rd_T24, valid_eq, h1]
  | true => cases h2 : vld c d with
    | false => simp [cohousinglaw01_numbers.l0, rd_T24, valid_eq, h1, h2, wrap64]
    | true => cases h3 : vld e f with
      | false => simp [cohousinglaw01_numbers.l0, rd_T24, valid_eq, h1, h2, h3, wrap64]
      | true => simp [cohousinglaw01_numbers.l0, rd_T24, valid_eq, h1, h2, h3, wrap64]
theorem numbers2 (a b c d : Int) : cohousinglaw01_numbers.f 10 [(⟨a, b⟩ : S24), (⟨c, d⟩ : S24)] = some (vld a b && vld c d) := by
  unfold cohousinglaw01_numbers.f
  cases h1 : vld a b with
  | false => simp [cohousinglaw01_numbers.l0, rd_T24, valid_eq, h1]
  | true => cases h2 : vld c d with
    | false => simp [cohousinglaw01_numbers.l0, rd_T24, valid_eq, h1, h2, wrap64]
    | true => simp [cohousinglaw01_numbers.l0, rd_T24, valid_eq, h1, h2, wrap64]
end Go.Proofs.YteifflpjhlgpjaaDoor.X

