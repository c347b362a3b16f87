/- The law RationalReduced as a statement over numbers and lists: every input answers true. No Go and no memory in it. -/
import Derived.Test.YteifflpjhlgpjaaDoorXx5
import Derived.Test.YteifflpjhlgpjaaDoorRatLaws2
namespace Go.Proofs.YteifflpjhlgpjaaDoor.Pure
open Go.RowKit Go.Proofs.YteifflpjhlgpjaaDoor.X Go.Proofs.YteifflpjhlgpjaaDoorW.PrintWords

theorem wf_i64 {a : Int} (h : (Lit.int .i64 a).wf = true) : inI64 a := by
  simpa [Lit.wf, IntKind.min, IntKind.max, IntKind.signed, IntKind.bits, inI64] using h
theorem make_eq (n d : Int) (hn : inI64 n) (hd : inI64 d) : rational_Make.f n d = some (ratMk n d) := by
  unfold rational_Make.f
  rw [if_pos ⟨hn, hd⟩]
theorem small1 (k : Nat) (m a : Int) (hm : 0 ≤ m) (hm2 : m ≤ 9223372036854775807) : cohousinglaw01_small.f (k + 2) m [a] = some (decide (-m ≤ a ∧ a ≤ m)) := by
  have hw : wrap64 (-m) = -m := by unfold wrap64; omega
  unfold cohousinglaw01_small.f
  simp only [cohousinglaw01_small.l0, List.length_singleton]
  generalize hD : decide (-m ≤ a ∧ a ≤ m) = D
  simp [rd, hw, wrap64]
  subst hD
  repeat' split
  all_goals first | (symm; apply decide_eq_false; omega) | (symm; apply decide_eq_true; omega) | (congr 1; symm; apply decide_eq_false; omega) | (congr 1; symm; apply decide_eq_true; omega)
theorem small2 (k : Nat) (m a b : Int) (hm : 0 ≤ m) (hm2 : m ≤ 9223372036854775807) : cohousinglaw01_small.f (k + 3) m [a, b] = some (decide (-m ≤ a ∧ a ≤ m ∧ -m ≤ b ∧ b ≤ m)) := by
  have hw : wrap64 (-m) = -m := by unfold wrap64; omega
  unfold cohousinglaw01_small.f
  simp only [cohousinglaw01_small.l0]
  generalize hD : decide (-m ≤ a ∧ a ≤ m ∧ -m ≤ b ∧ b ≤ m) = D
  simp [rd, hw, wrap64]
  subst hD
  repeat' split
  all_goals first | (congr 1; symm; apply decide_eq_false; omega) | (congr 1; symm; apply decide_eq_true; omega)
theorem bnd31 {n d : Int} (hn : -2147483648 ≤ n) (hn1 : n ≤ 2147483648) (hd : -1000000000 ≤ d) (hd1 : d ≤ 1000000000) : wrap64 (n * d) = n * d := by
  have := mul_abs hn hn1 hd hd1 (by omega) (by omega)
  exact wrap_id (by omega) (by omega)
/-- The value of what is returned. -/
theorem mk_value (n d : Int) (hd : d ≠ 0) (hf : Fits (Rat.divInt n d)) : n * ((Rat.divInt n d).den : Int) = (Rat.divInt n d).num * d := by
  have hgc : (d.gcd n : Nat) ≠ 0 := by
    intro h
    have := (Int.gcd_eq_zero_iff.mp h).1
    exact hd this
  rw [Rat.num_divInt, Rat.den_divInt, if_neg hd]
  obtain ⟨a, ha⟩ := Int.gcd_dvd_left d n
  obtain ⟨b, hb⟩ := Int.gcd_dvd_right d n
  generalize d.gcd n = g at *
  have hg : (g : Int) ≠ 0 := by omega
  have e1 : ((d.natAbs / g : Nat) : Int) = a.natAbs := by
    rw [ha, Int.natAbs_mul]
    simp only [Int.natAbs_natCast]
    rw [Nat.mul_div_cancel_left _ (by omega)]
  have e2 : d.sign * n / (g : Int) = d.sign * b := by
    have : d.sign * n = d.sign * b * g := by rw [hb, Int.mul_assoc, Int.mul_comm b]
    rw [this, Int.mul_ediv_cancel _ hg]
  rw [e1, e2]
  have hs : d.sign = if 0 < d then 1 else -1 := by
    by_cases h : 0 < d
    · rw [if_pos h, Int.sign_eq_one_of_pos h]
    · rw [if_neg h, Int.sign_eq_neg_one_of_neg (by omega)]
  have hsa : d.sign * a = (a.natAbs : Int) := by
    have hgp : 0 < (g : Int) := by omega
    have hda : 0 < d ↔ 0 < a := by
      rw [ha]
      constructor
      · intro h
        rcases Int.lt_trichotomy a 0 with h1 | h1 | h1
        · have := Int.mul_neg_of_pos_of_neg hgp h1; omega
        · rw [h1] at h; simp at h
        · exact h1
      · intro h; exact Int.mul_pos hgp h
    rw [hs]
    by_cases h : 0 < d
    · rw [if_pos h]; have := hda.mp h; omega
    · rw [if_neg h]; have : ¬ 0 < a := fun q => h (hda.mpr q); omega
  rw [← hsa]
  conv => lhs; lhs; rw [hb]
  conv => rhs; rhs; rw [ha]
  ac_rfl

theorem RationalReduced : ∀ (a0 : Int) (a1 : Int) (a2 : Int), (Lit.int .i64 a0).wf = true → (Lit.int .i64 a1).wf = true → (Lit.int .i64 a2).wf = true → ∃ k, cohousinglaw01_RationalReduced.f k a0 a1 a2 = some true := by
  intro n d c hn hd hc
  replace hn := wf_i64 hn
  replace hd := wf_i64 hd
  refine ⟨10, ?_⟩
  unfold cohousinglaw01_RationalReduced.f
  rw [head_true, Option.bind_some, if_pos rfl, make_eq n d hn hd]
  simp only [Option.bind_some]
  -- the second half: the multiplied numbers
  have fin : ∀ (e x y : Int), ratMk n d = (x, y, e) → cohousinglaw01_RationalReduced.j0 10 n d c e false x y = some true := by
    intro e x y he
    simp only [cohousinglaw01_RationalReduced.j0, Bool.false_eq_true, if_false]
    by_cases hz : c = 0
    · rw [if_pos hz]
    · rw [if_neg hz, small1 7 1000 c (by omega) (by omega)]
      simp only [Option.bind_some]
      by_cases h1 : (-1000 ≤ c ∧ c ≤ 1000)
      · rw [decide_eq_true h1]
        simp only [if_true]
        rw [small2 6 1099511627776 n d (by omega) (by omega)]
        simp only [Option.bind_some]
        by_cases h2 : (-1099511627776 ≤ n ∧ n ≤ 1099511627776 ∧ -1099511627776 ≤ d ∧ d ≤ 1099511627776)
        · rw [decide_eq_true h2]
          simp only [if_true]
          have k1 := mul_abs h1.1 h1.2 h2.1 h2.2.1 (by omega) (by omega)
          have k2 := mul_abs h1.1 h1.2 h2.2.2.1 h2.2.2.2 (by omega) (by omega)
          rw [wrap_id (x := c * n) (by omega) (by omega), wrap_id (x := c * d) (by omega) (by omega), make_eq _ _ ⟨by omega, by omega⟩ ⟨by omega, by omega⟩]
          have hm : ratMk (c * n) (c * d) = ratMk n d := by
            by_cases hd0 : d = 0
            · subst hd0
              unfold ratMk
              rw [Int.mul_zero, if_pos rfl, if_pos rfl]
            · rw [ratMk_eq _ _ (Int.mul_ne_zero hz hd0), ratMk_eq _ _ hd0, Int.mul_comm c n, Int.mul_comm c d, Rat.divInt_mul_right hz]
          rw [hm, he]
          simp
        · rw [decide_eq_false h2]
          simp
      · rw [decide_eq_false h1]
        simp
  by_cases hd0 : d = 0
  · subst hd0
    have e : ratMk n 0 = (0, 0, 7) := by unfold ratMk; rw [if_pos rfl]
    have f := fin 7 0 0 e
    rw [e]
    simpa using f
  · have e := ratMk_eq n d hd0
    rcases outQ_cases (Rat.divInt n d) with ⟨hf, e2⟩ | ⟨hf, e2⟩
    · rw [e2] at e
      have f := fin _ _ _ e
      have b := hf.bnd
      rw [e]
      simp only
      have hb : ((d == 0) : Bool) = false := by simpa using hd0
      rw [hb, valid_eq, vld_of _ hf]
      simp only [show ((0 : Int) == 7) = false from rfl, bne_self_eq_false, Bool.false_eq_true, if_false, if_true, Option.bind_some]
      rw [small2 7 2147483648 n d (by omega) (by omega)]
      simp only [Option.bind_some]
      by_cases h2 : (-2147483648 ≤ n ∧ n ≤ 2147483648 ∧ -2147483648 ≤ d ∧ d ≤ 2147483648)
      · rw [decide_eq_true h2, if_pos rfl, bnd31 h2.1 h2.2.1 (by omega) (by omega), Int.mul_comm (Rat.divInt n d).num d, bnd31 h2.2.2.1 h2.2.2.2 (by omega) (by omega), Int.mul_comm d]
        rw [mk_value n d hd0 hf, bne_self_eq_false]
        exact f
      · rw [decide_eq_false h2]
        exact f
    · rw [e2] at e
      have f := fin _ _ _ e
      rw [e]
      have hb : ((d == 0) : Bool) = false := by simpa using hd0
      rw [hb]
      exact f
end Go.Proofs.YteifflpjhlgpjaaDoor.Pure

