/- The law RationalFloor as a statement over numbers and lists: every input answers true. No Go and no memory in it. -/
import Derived.Test.YteifflpjhlgpjaaDoorXx12
import Derived.Test.YteifflpjhlgpjaaDoorRatLaws2
namespace Go.Proofs.YteifflpjhlgpjaaDoor.Pure
open Go.RowKit Go.Proofs.YteifflpjhlgpjaaDoor.X Go.Proofs.YteifflpjhlgpjaaDoorW.PrintWords

theorem sub_floor (p : Rat) (hp : Fits p) : rational_Sub.f p.num p.den (p.num / p.den) 1 = some (p.num % p.den, (p.den : Int), 0) := by
  have b1 := hp.bnd
  have hd : 0 < (p.den : Int) := by omega
  have hf : Fits ((p.num / (p.den : Int) : Int) : Rat) := by
    refine ⟨?_, ?_⟩
    · rw [Rat.num_intCast]
      have hk := Int.emod_add_mul_ediv p.num p.den
      have hk1 := Int.emod_nonneg p.num (b := (p.den : Int)) (by omega)
      have hk2 := Int.emod_lt_of_pos p.num hd
      generalize (p.den : Int) = d at *
      generalize p.num / d = z at *
      rcases Int.lt_trichotomy z 0 with h | h | h
      · have : d * z ≤ 1 * z := Int.mul_le_mul_of_nonpos_right (by omega) (by omega)
        by_cases h2 : z ≤ -2
        · have h3 : d * (z + 1) ≤ 1 * (z + 1) := Int.mul_le_mul_of_nonpos_right (by omega) (by omega)
          rw [Int.mul_add] at h3
          omega
        · omega
      · omega
      · have : 1 * z ≤ d * z := Int.mul_le_mul_of_nonneg_right (by omega) (by omega)
        omega
    · rw [Rat.den_intCast]; omega
  have h := sub_eq p _ hp hf
  rw [Rat.num_intCast, Rat.den_intCast] at h
  rw [show ((1 : Nat) : Int) = 1 from rfl] at h
  rw [h]
  congr 1
  have e : p - ((p.num / (p.den : Int) : Int) : Rat) = Rat.divInt (p.num % p.den) p.den := by
    have h1 : p = Rat.divInt p.num p.den := (Rat.num_divInt_den p).symm
    have h2 : ((p.num / (p.den : Int) : Int) : Rat) = Rat.divInt (p.num / p.den) 1 := by
      have := Rat.num_divInt_den ((p.num / (p.den : Int) : Int) : Rat)
      rw [Rat.num_intCast, Rat.den_intCast] at this
      exact this.symm
    rw [h2]
    conv => lhs; lhs; rw [h1]
    rw [Rat.divInt_sub_divInt _ _ (divInt_den_ne p) (by omega)]
    have hk := Int.emod_add_mul_ediv p.num p.den
    congr 1
    · rw [Int.mul_one, Int.mul_comm (p.num / (p.den : Int))]; omega
    · rw [Int.mul_one]
  rw [e]
  have hr1 := Int.emod_nonneg p.num (b := (p.den : Int)) (by omega)
  have hr2 := Int.emod_lt_of_pos p.num hd
  have hg : Int.gcd (p.den : Int) (p.num % p.den) = 1 := by
    have hk := Int.emod_add_mul_ediv p.num p.den
    have d1 : ((Int.gcd (p.den : Int) (p.num % p.den) : Nat) : Int) ∣ (p.den : Int) := Int.gcd_dvd_left _ _
    have d2 : ((Int.gcd (p.den : Int) (p.num % p.den) : Nat) : Int) ∣ p.num % p.den := Int.gcd_dvd_right _ _
    have d3 : ((Int.gcd (p.den : Int) (p.num % p.den) : Nat) : Int) ∣ p.num := by
      have h := Int.dvd_add d2 (Int.dvd_trans d1 (Int.dvd_mul_right _ (p.num / (p.den : Int))))
      rw [hk] at h
      exact h
    have d4 := Int.dvd_coe_gcd d3 d1
    have hr : Int.gcd p.num p.den = 1 := p.reduced
    rw [hr] at d4
    have := Int.natCast_dvd_natCast.mp d4
    exact Nat.dvd_one.mp this
  have hn : (Rat.divInt (p.num % p.den) p.den).num = p.num % p.den := by
    rw [Rat.num_divInt, hg, Int.sign_eq_one_of_pos hd]; simp
  have hdn : (Rat.divInt (p.num % p.den) p.den).den = p.den := by
    rw [Rat.den_divInt, if_neg (by omega), hg]; simp
  have hfit : Fits (Rat.divInt (p.num % p.den) p.den) := ⟨by rw [hn]; omega, by rw [hdn]; omega⟩
  rw [outQ_fits hfit, hn, hdn]
theorem floor_le_of (p q : Rat) (h : p ≤ q) : p.num / p.den ≤ q.num / q.den := by
  rw [← Rat.floor_def, ← Rat.floor_def, Rat.le_floor_iff]
  exact Rat.le_trans (Rat.floor_le p) h

theorem RationalFloor : ∀ (a0_0 : Int) (a0_1 : Int) (a1_0 : Int) (a1_1 : Int), (Lit.int .i64 a0_0).wf = true → (Lit.int .i64 a0_1).wf = true → (Lit.int .i64 a1_0).wf = true → (Lit.int .i64 a1_1).wf = true → ∃ k, cohousinglaw01_RationalFloor.f k a0_0 a0_1 a1_0 a1_1 = some true := by
  intro a0 a1 b0 b1 _ _ _ _
  refine ⟨10, ?_⟩
  unfold cohousinglaw01_RationalFloor.f
  rw [head_true, Option.bind_some, if_pos rfl, numbers2, Option.bind_some]
  by_cases hv : (vld a0 a1 && vld b0 b1) = true
  · rw [if_pos hv]
    rw [Bool.and_eq_true] at hv
    obtain ⟨p, hp, rfl, rfl⟩ := of_vld hv.1
    obtain ⟨q, hq, rfl, rfl⟩ := of_vld hv.2
    have b := hp.bnd
    rw [floor_eq p hp, floor_eq q hq]
    simp only [Option.bind_some]
    rw [sub_floor p hp]
    simp only [Option.bind_some]
    rw [cmp_eq 9 p q hp hq]
    simp only [Option.bind_some]
    have hr1 := Int.emod_nonneg p.num (b := (p.den : Int)) (by omega)
    have hr2 := Int.emod_lt_of_pos p.num (b := (p.den : Int)) (by omega)
    simp only [if_true]
    rw [if_pos (show p.num % (p.den : Int) ≥ 0 from hr1), if_pos hr2]
    by_cases h1 : cmpQ p q > 0
    · rw [if_pos h1, if_neg (by omega)]
      have := floor_le_of q p (Rat.le_of_lt ((cmpQ_pos p q).mp h1))
      rw [if_pos this]
    · rw [if_neg h1]
      have hle : p ≤ q := by rw [← Rat.not_lt, ← cmpQ_pos]; exact h1
      rw [if_pos (floor_le_of p q hle)]
      by_cases h2 : cmpQ p q < 0
      · rw [if_pos h2]
      · rw [if_neg h2]
        have : p = q := (cmpQ_zero p q).mp (by omega)
        subst this
        rw [if_pos (Int.le_refl _)]
  · rw [if_neg hv]
end Go.Proofs.YteifflpjhlgpjaaDoor.Pure

