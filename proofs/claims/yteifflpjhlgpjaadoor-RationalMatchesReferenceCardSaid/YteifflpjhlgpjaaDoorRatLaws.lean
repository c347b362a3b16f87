/- What the rational package computes, said in the rational numbers of the base: no Go and no memory in it. -/
import Derived.Test.YteifflpjhlgpjaaDoorXx6
namespace Go.Proofs.YteifflpjhlgpjaaDoor.X
open Go.RowKit Go.Proofs.YteifflpjhlgpjaaDoorW.PrintWords

/-- The result that stands for a rational number: its reduced form, or 'out of range'. -/
def outQ (q : Rat) : Int × Int × Int := if q.num.natAbs ≤ 1000000000 ∧ q.den ≤ 1000000000 then (q.num, (q.den : Int), 0) else (0, 0, 3)
theorem ratMk_eq (n d : Int) (hd : d ≠ 0) : ratMk n d = outQ (Rat.divInt n d) := by
  have hg : 0 < Nat.gcd n.natAbs d.natAbs := Nat.gcd_pos_of_pos_right _ (by omega)
  have hgn : Nat.gcd n.natAbs d.natAbs ∣ n.natAbs := Nat.gcd_dvd_left _ _
  have hgd : Nat.gcd n.natAbs d.natAbs ∣ d.natAbs := Nat.gcd_dvd_right _ _
  have hgc : d.gcd n = Nat.gcd n.natAbs d.natAbs := Nat.gcd_comm _ _
  have hden : (Rat.divInt n d).den = d.natAbs / Nat.gcd n.natAbs d.natAbs := by rw [Rat.den_divInt, if_neg hd, hgc]
  have hnum : (Rat.divInt n d).num = d.sign * n / (Nat.gcd n.natAbs d.natAbs : Nat) := by rw [Rat.num_divInt, hgc]
  unfold ratMk outQ
  rw [if_neg hd]
  generalize Nat.gcd n.natAbs d.natAbs = g at *
  obtain ⟨a, ha⟩ := hgn
  obtain ⟨b, hb⟩ := hgd
  have e1 : n.natAbs / g = a := by rw [ha]; exact Nat.mul_div_cancel_left _ hg
  have e2 : d.natAbs / g = b := by rw [hb]; exact Nat.mul_div_cancel_left _ hg
  have e3 : (Rat.divInt n d).num = if (decide (n < 0)) != (decide (d < 0)) then -(a : Int) else (a : Int) := by
    rw [hnum]
    have hg0 : (g : Int) ≠ 0 := by omega
    have hsd : d.sign = if d < 0 then -1 else 1 := by
      by_cases h : d < 0
      · rw [if_pos h, Int.sign_eq_neg_one_of_neg h]
      · rw [if_neg h, Int.sign_eq_one_of_pos (by omega)]
    have hn : n = if n < 0 then -((g : Int) * a) else (g : Int) * a := by
      have : ((n.natAbs : Nat) : Int) = (g : Int) * a := by rw [ha]; simp
      split <;> omega
    rw [hsd]
    have key : ∀ s : Int, s * (g : Int) / (g : Int) = s := fun s => Int.mul_ediv_cancel _ hg0
    by_cases h1 : n < 0 <;> by_cases h2 : d < 0
    · rw [if_pos h1] at hn
      simp only [h1, h2, if_true, decide_true, bne_self_eq_false, Bool.false_eq_true, if_false]
      rw [show (-1 : Int) * n = a * g by rw [hn]; simp [Int.mul_comm], key]
    · rw [if_pos h1] at hn
      simp only [h1, h2, if_true, decide_true, decide_false, if_false, Bool.true_bne, Bool.not_false]
      rw [show (1 : Int) * n = (-(a : Int)) * g by rw [hn, Int.one_mul, Int.neg_mul, Int.mul_comm], key]
    · rw [if_neg h1] at hn
      simp only [h1, h2, if_true, decide_true, decide_false, Bool.false_bne]
      rw [show (-1 : Int) * n = (-(a : Int)) * g by rw [hn, Int.neg_mul, Int.one_mul, Int.neg_mul, Int.mul_comm], key]
    · rw [if_neg h1] at hn
      simp only [h1, h2, decide_false, bne_self_eq_false, Bool.false_eq_true, if_false]
      rw [show (1 : Int) * n = a * g by rw [hn, Int.one_mul, Int.mul_comm], key]
  rw [e1, e2, e3, hden, e2]
  have hab : (if (decide (n < 0)) != (decide (d < 0)) then -(a : Int) else (a : Int)).natAbs = a := by split <;> simp
  rw [hab]
  by_cases hc : 1000000000 < a ∨ 1000000000 < b
  · rw [if_pos hc, if_neg (show ¬ (a ≤ 1000000000 ∧ b ≤ 1000000000) by omega)]
  · rw [if_neg hc, if_pos (show a ≤ 1000000000 ∧ b ≤ 1000000000 by omega)]

/-- The numbers: a pair that is some rational number's own numerator and denominator, within the limits. -/
theorem vld_iff (n d : Int) : vld n d = true ↔ (Rat.divInt n d).num = n ∧ ((Rat.divInt n d).den : Int) = d ∧ n.natAbs ≤ 1000000000 ∧ 1 ≤ d ∧ d ≤ 1000000000 := by
  unfold vld
  constructor
  · intro h
    by_cases h1 : d ≥ 1
    · rw [if_pos h1] at h
      by_cases h2 : d ≤ 1000000000
      · rw [if_pos h2] at h
        by_cases h3 : n ≥ (-1000000000)
        · rw [if_pos h3] at h
          by_cases h4 : n ≤ 1000000000
          · rw [if_pos h4] at h
            have hg : Nat.gcd n.natAbs d.natAbs = 1 := by have := beq_iff_eq.mp h; omega
            have hgc : d.gcd n = 1 := by rw [← hg]; exact Nat.gcd_comm _ _
            refine ⟨?_, ?_, by omega, h1, h2⟩
            · rw [Rat.num_divInt, hgc, Int.sign_eq_one_of_pos (by omega)]
              simp
            · rw [Rat.den_divInt, if_neg (by omega), hgc]
              simp
              omega
          · rw [if_neg h4] at h; cases h
        · rw [if_neg h3] at h; cases h
      · rw [if_neg h2] at h; cases h
    · rw [if_neg h1] at h; cases h
  · rintro ⟨h1, h2, h3, h4, h5⟩
    rw [if_pos (by omega), if_pos h5, if_pos (by omega), if_pos (by omega)]
    have hr := (Rat.divInt n d).reduced
    rw [h1] at hr
    have : (Rat.divInt n d).den = d.natAbs := by omega
    rw [this] at hr
    rw [beq_iff_eq]
    have : Nat.gcd n.natAbs d.natAbs = 1 := hr
    omega
/-- A rational number that has a place within the limits. -/
def Fits (q : Rat) : Prop := q.num.natAbs ≤ 1000000000 ∧ q.den ≤ 1000000000
theorem Fits.bnd {q : Rat} (h : Fits q) : -1000000000 ≤ q.num ∧ q.num ≤ 1000000000 ∧ 1 ≤ (q.den : Int) ∧ (q.den : Int) ≤ 1000000000 := by
  obtain ⟨h1, h2⟩ := h
  have := q.den_pos
  omega
theorem vld_of (q : Rat) (h : Fits q) : vld q.num q.den = true := by
  rw [vld_iff, Rat.num_divInt_den]
  have := h.bnd
  exact ⟨rfl, rfl, h.1, by omega, by omega⟩
theorem of_vld {n d : Int} (h : vld n d = true) : ∃ q : Rat, Fits q ∧ n = q.num ∧ d = q.den := by
  obtain ⟨h1, h2, h3, h4, h5⟩ := (vld_iff n d).mp h
  exact ⟨Rat.divInt n d, ⟨by rw [h1]; exact h3, by omega⟩, h1.symm, h2.symm⟩
theorem outQ_fits {q : Rat} (h : Fits q) : outQ q = (q.num, (q.den : Int), 0) := if_pos h
theorem outQ_not {q : Rat} (h : ¬ Fits q) : outQ q = (0, 0, 3) := if_neg h
theorem outQ_ok {q : Rat} {x y : Int} (h : outQ q = (x, y, 0)) : Fits q ∧ x = q.num ∧ y = q.den := by
  by_cases hf : Fits q
  · rw [outQ_fits hf] at h
    simp only [Prod.mk.injEq, and_true] at h
    exact ⟨hf, h.1.symm, h.2.symm⟩
  · rw [outQ_not hf] at h
    simp at h
theorem outQ_cases (q : Rat) : (Fits q ∧ outQ q = (q.num, (q.den : Int), 0)) ∨ (¬ Fits q ∧ outQ q = (0, 0, 3)) := by
  by_cases hf : Fits q
  · exact .inl ⟨hf, outQ_fits hf⟩
  · exact .inr ⟨hf, outQ_not hf⟩
theorem mul_abs {a b : Int} {m n : Int} (h1 : -m ≤ a) (h2 : a ≤ m) (h3 : -n ≤ b) (h4 : b ≤ n) (hm : 0 ≤ m) (hn : 0 ≤ n) : -(m * n) ≤ a * b ∧ a * b ≤ m * n := by
  have e1 : a.natAbs ≤ m.natAbs := by omega
  have e2 : b.natAbs ≤ n.natAbs := by omega
  have e3 : (a * b).natAbs ≤ m.natAbs * n.natAbs := by rw [Int.natAbs_mul]; exact Nat.mul_le_mul e1 e2
  have e4 : ((m.natAbs * n.natAbs : Nat) : Int) = m * n := by
    rw [Int.natCast_mul]
    congr 1 <;> omega
  omega
theorem prod_bnd {a b : Int} (h1 : -1000000000 ≤ a) (h2 : a ≤ 1000000000) (h3 : -1000000000 ≤ b) (h4 : b ≤ 1000000000) : -1000000000000000000 ≤ a * b ∧ a * b ≤ 1000000000000000000 := by
  have := mul_abs h1 h2 h3 h4 (by omega) (by omega)
  omega
theorem wrap_id {x : Int} (h1 : -9223372036854775808 ≤ x) (h2 : x ≤ 9223372036854775807) : wrap64 x = x := by unfold wrap64; omega
theorem divInt_den_ne (q : Rat) : (q.den : Int) ≠ 0 := by have := q.den_pos; omega
theorem add_eq (p q : Rat) (hp : Fits p) (hq : Fits q) : rational_Add.f p.num p.den q.num q.den = some (outQ (p + q)) := by
  have b1 := hp.bnd
  have b2 := hq.bnd
  unfold rational_Add.f applyR
  rw [if_pos ⟨vld_of p hp, vld_of q hq⟩]
  have k1 := prod_bnd (a := p.num) (b := (q.den : Int)) (by omega) (by omega) (by omega) (by omega)
  have k2 := prod_bnd (a := q.num) (b := (p.den : Int)) (by omega) (by omega) (by omega) (by omega)
  have k3 := prod_bnd (a := (p.den : Int)) (b := (q.den : Int)) (by omega) (by omega) (by omega) (by omega)
  rw [wrap_id (x := p.num * q.den) (by omega) (by omega), wrap_id (x := q.num * p.den) (by omega) (by omega), wrap_id (x := p.num * q.den + q.num * p.den) (by omega) (by omega), wrap_id (x := (p.den : Int) * q.den) (by omega) (by omega)]
  rw [ratMk_eq _ _ (Int.mul_ne_zero (divInt_den_ne p) (divInt_den_ne q)), ← Rat.divInt_add_divInt _ _ (divInt_den_ne p) (divInt_den_ne q), Rat.num_divInt_den, Rat.num_divInt_den]
theorem sub_eq (p q : Rat) (hp : Fits p) (hq : Fits q) : rational_Sub.f p.num p.den q.num q.den = some (outQ (p - q)) := by
  have b1 := hp.bnd
  have b2 := hq.bnd
  unfold rational_Sub.f applyR
  rw [if_pos ⟨vld_of p hp, vld_of q hq⟩]
  have k1 := prod_bnd (a := p.num) (b := (q.den : Int)) (by omega) (by omega) (by omega) (by omega)
  have k2 := prod_bnd (a := q.num) (b := (p.den : Int)) (by omega) (by omega) (by omega) (by omega)
  have k3 := prod_bnd (a := (p.den : Int)) (b := (q.den : Int)) (by omega) (by omega) (by omega) (by omega)
  rw [wrap_id (x := p.num * q.den) (by omega) (by omega), wrap_id (x := q.num * p.den) (by omega) (by omega), wrap_id (x := p.num * q.den - q.num * p.den) (by omega) (by omega), wrap_id (x := (p.den : Int) * q.den) (by omega) (by omega)]
  rw [ratMk_eq _ _ (Int.mul_ne_zero (divInt_den_ne p) (divInt_den_ne q)), ← Rat.divInt_sub_divInt _ _ (divInt_den_ne p) (divInt_den_ne q), Rat.num_divInt_den, Rat.num_divInt_den]
theorem mul_eq (p q : Rat) (hp : Fits p) (hq : Fits q) : rational_Mul.f p.num p.den q.num q.den = some (outQ (p * q)) := by
  have b1 := hp.bnd
  have b2 := hq.bnd
  unfold rational_Mul.f applyR
  rw [if_pos ⟨vld_of p hp, vld_of q hq⟩]
  have k1 := prod_bnd (a := p.num) (b := q.num) (by omega) (by omega) (by omega) (by omega)
  have k3 := prod_bnd (a := (p.den : Int)) (b := (q.den : Int)) (by omega) (by omega) (by omega) (by omega)
  rw [wrap_id (x := p.num * q.num) (by omega) (by omega), wrap_id (x := (p.den : Int) * q.den) (by omega) (by omega)]
  rw [ratMk_eq _ _ (Int.mul_ne_zero (divInt_den_ne p) (divInt_den_ne q)), ← Rat.divInt_mul_divInt _ _, Rat.num_divInt_den, Rat.num_divInt_den]
theorem div_eq (p q : Rat) (hp : Fits p) (hq : Fits q) (hz : q.num ≠ 0) : rational_Div.f p.num p.den q.num q.den = some (outQ (p / q)) := by
  have b1 := hp.bnd
  have b2 := hq.bnd
  unfold rational_Div.f applyR
  rw [if_pos ⟨vld_of p hp, vld_of q hq⟩]
  have k1 := prod_bnd (a := p.num) (b := (q.den : Int)) (by omega) (by omega) (by omega) (by omega)
  have k3 := prod_bnd (a := (p.den : Int)) (b := q.num) (by omega) (by omega) (by omega) (by omega)
  rw [wrap_id (x := p.num * q.den) (by omega) (by omega), wrap_id (x := (p.den : Int) * q.num) (by omega) (by omega)]
  rw [ratMk_eq _ _ (Int.mul_ne_zero (divInt_den_ne p) hz), ← Rat.divInt_mul_divInt _ _, Rat.num_divInt_den, ← Rat.inv_divInt q.num q.den, Rat.num_divInt_den, ← Rat.div_def]
theorem div_zero (p q : Rat) (hp : Fits p) (hq : Fits q) (hz : q.num = 0) : rational_Div.f p.num p.den q.num q.den = some (0, 0, 7) := by
  unfold rational_Div.f applyR
  rw [if_pos ⟨vld_of p hp, vld_of q hq⟩, hz, Int.mul_zero, wrap_id (x := 0) (by omega) (by omega)]
  unfold ratMk
  rw [if_pos rfl]
end Go.Proofs.YteifflpjhlgpjaaDoor.X

