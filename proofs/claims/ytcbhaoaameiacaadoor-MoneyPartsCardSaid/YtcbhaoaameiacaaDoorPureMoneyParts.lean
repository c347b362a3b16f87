/- The law MoneyParts as a statement over numbers and lists: every input answers true. No Go and no memory in it. -/
import Derived.Test.YtcbhaoaameiacaaDoorMoneySplit
import Derived.Test.YtcbhaoaameiacaaDoorXx9
namespace Go.Proofs.YtcbhaoaameiacaaDoor.Pure
open Go.RowKit Go.Proofs.YtcbhaoaameiacaaDoor.X Go.Proofs.YtcbhaoaameiacaaDoorW.PrintWords

/-- The amounts before i. -/
def upto (res : List Int) (i : Nat) : Int := (res.take i).sum
theorem upto_succ (res : List Int) (i : Nat) (hi : i < res.length) : upto res (i + 1) = upto res i + rd res (i : Int) := by
  unfold upto
  rw [take_succ_eq res i hi, List.sum_append, rd_nat res i hi]
  simp
theorem upto_bd (res : List Int) (hb : ∀ i : Nat, i < res.length → Amt (rd res (i : Int))) : ∀ i : Nat, i ≤ res.length → -(1000000000 * (i : Int)) ≤ upto res i ∧ upto res i ≤ 1000000000 * (i : Int)
  | 0, _ => by simp [upto]
  | i + 1, h => by
    have ih := upto_bd res hb i (by omega)
    have ha := hb i (by omega)
    rw [upto_succ res i (by omega)]
    unfold Amt at ha
    omega
theorem mxb (a : Int) : (if a < 0 then -a else a) ≥ 0 := by split <;> omega
theorem parts_pair (c T : Int) (l res : List Int) (h : PartsOK c T l res) (hl : l.length ≤ 64) (s : Int) (i : Nat) (hi : i < l.length) : ∀ (e k j : Nat), j + e = i →
    cohousinglaw02_MoneyParts.l1 (k + e + 1) c l true res T s (i : Int) (j : Int) = cohousinglaw02_MoneyParts.l0 k c l true res T (wrap64 (s + rd res (i : Int))) (wrap64 ((i : Int) + 1))
  | 0, k, j, e => by
    obtain rfl : j = i := by omega
    rw [cohousinglaw02_MoneyParts.l1, if_neg (by omega), if_pos (by omega), if_pos (by rw [h.len]; omega)]
  | e + 1, k, j, he => by
    have ih := parts_pair c T l res h hl s i hi e k (j + 1) (by omega)
    have hw : wrap64 ((j : Int) + 1) = ((j + 1 : Nat) : Int) := by unfold wrap64; omega
    have hlen := h.len
    have ai := h.amt i hi
    have aj := h.amt j (by omega)
    rw [show k + (e + 1) + 1 = (k + e + 1) + 1 by omega, cohousinglaw02_MoneyParts.l1, if_pos (by omega), if_pos (by omega), if_pos (by omega), if_pos (by omega), if_pos (by omega), size_f _ ai, size_f _ aj, hw, ih]
    have m1 := h.mono i j hi (by omega)
    have m2 := h.mono j i (by omega) hi
    clear ih h
    simp only [Option.bind_some]
    generalize (if rd res (i : Int) < 0 then -rd res (i : Int) else rd res (i : Int)) = x at *
    generalize (if rd res (j : Int) < 0 then -rd res (j : Int) else rd res (j : Int)) = y at *
    by_cases h1 : rd l (i : Int) > rd l (j : Int)
    · have := m1 h1
      rw [if_pos h1, if_pos (by omega), if_pos (by omega), if_neg (by omega), if_neg (by omega)]
    · rw [if_neg h1]
      by_cases h2 : rd l (j : Int) > rd l (i : Int)
      · have := m2 h2
        rw [if_pos h2, if_pos (by omega), if_pos (by omega), if_neg (by omega)]
      · rw [if_neg h2]
theorem parts_loop (c T : Int) (l res : List Int) (h : PartsOK c T l res) (hc : Amt c) (hT : T ≤ 64000000) (hT1 : 1 ≤ T) (hl : l.length ≤ 64) : ∀ (d k i : Nat), i + d = l.length → 70 * d < k →
    cohousinglaw02_MoneyParts.l0 k c l true res T (upto res i) (i : Int) = some true
  | d, 0, i, _, hk => absurd hk (Nat.not_lt_zero _)
  | 0, k + 1, i, he, hk => by
    have hlen := h.len
    rw [cohousinglaw02_MoneyParts.l0, if_neg (by omega), if_pos rfl]
    have e : upto res i = c := by
      unfold upto
      rw [List.take_of_length_le (by omega), h.sum]
    rw [e, if_pos rfl]
  | d + 1, k + 1, i, he, hk => by
    have hlen := h.len
    have hi : i < l.length := by omega
    have ai := h.amt i hi
    have h0 := h.pos
    have h1 := h.neg
    obtain ⟨k', rfl⟩ : ∃ k', k = k' + i + 1 + 1 + 1 := ⟨k - i - 3, by omega⟩
    have ih := parts_loop c T l res h hc hT hT1 hl d k' (i + 1) (by omega) (by omega)
    have hub := upto_bd res (by rw [hlen]; exact h.amt) i (by omega)
    have hu := upto_succ res i (by omega)
    have wi : wrap64 ((i : Int) + 1) = ((i + 1 : Nat) : Int) := by unfold wrap64; omega
    have ws : wrap64 (upto res i + rd res (i : Int)) = upto res (i + 1) := by
      rw [hu]
      unfold Amt at ai
      exact wrap_ok (by omega) (by omega)
    have hp := parts_pair c T l res h hl (upto res i) i hi i k' 0 (by omega)
    rw [ws, wi, ih] at hp
    have hj4 : cohousinglaw02_MoneyParts.j4 (k' + i + 1 + 1) c l true res T (upto res i) (i : Int) false = some true := by
      rw [cohousinglaw02_MoneyParts.j4, if_neg (by decide)]
      exact hp
    have lo := h.lo i hi
    have hhi := h.hi i hi
    have w0 := h.wt i hi
    have hx : -64000000000000000 ≤ rd res (i : Int) * T ∧ rd res (i : Int) * T ≤ 64000000000000000 := by
      unfold Amt at ai
      have e1 : rd res (i : Int) * T ≤ 1000000000 * T := Int.mul_le_mul_of_nonneg_right (by omega) (by omega)
      have e2 : (-1000000000) * T ≤ rd res (i : Int) * T := Int.mul_le_mul_of_nonneg_right (by omega) (by omega)
      omega
    have hy : -1000000000000000 ≤ c * rd l (i : Int) ∧ c * rd l (i : Int) ≤ 1000000000000000 := by
      unfold Amt at hc
      have e1 : c * rd l (i : Int) ≤ 1000000000 * rd l (i : Int) := Int.mul_le_mul_of_nonneg_right (by omega) (by omega)
      have e2 : (-1000000000) * rd l (i : Int) ≤ c * rd l (i : Int) := Int.mul_le_mul_of_nonneg_right (by omega) (by omega)
      omega
    have hj3 : cohousinglaw02_MoneyParts.j3 (k' + i + 1 + 1 + 1) c l true res T (upto res i) (i : Int) false = some true := by
      rw [cohousinglaw02_MoneyParts.j3, if_neg (by decide), if_pos (by omega), if_pos (by omega), if_pos (by omega)]
      generalize rd res (i : Int) * T = x at *
      generalize c * rd l (i : Int) = y at *
      have w1 : wrap64 x = x := wrap_ok (by omega) (by omega)
      have w2 : wrap64 y = y := wrap_ok (by omega) (by omega)
      have w3 : wrap64 (x - y) = x - y := wrap_ok (by omega) (by omega)
      have w4 : wrap64 (-(x - y)) = -(x - y) := wrap_ok (by omega) (by omega)
      rw [w1, w2, w3, w4, if_neg (by omega), decide_eq_false (by omega)]
      exact hj4
    rw [cohousinglaw02_MoneyParts.l0, if_pos (by omega), if_pos (by omega), ref_amt, Option.bind_some, decide_eq_true ai, if_pos rfl]
    have hz : (if i < (l.length : Int) then (if rd l (i : Int) = 0 then (cohousinglaw02_MoneyParts.j3 (k' + i + 1 + 1 + 1) c l true res T (upto res i) (i : Int) (rd res (i : Int) != 0)) else (cohousinglaw02_MoneyParts.j3 (k' + i + 1 + 1 + 1) c l true res T (upto res i) (i : Int) false)) else none) = some true := by
      rw [if_pos (by omega)]
      by_cases hz : rd l (i : Int) = 0
      · rw [if_pos hz, h.zero i hi hz]
        exact hj3
      · rw [if_neg hz]
        exact hj3
    rw [hz]
    by_cases g1 : c ≥ 0
    · have := h0 g1 i hi
      rw [if_pos g1, if_neg (by omega)]
      by_cases g2 : c ≤ 0
      · have := h1 g2 i hi
        rw [if_pos g2, if_neg (by omega)]
      · rw [if_neg g2]
    · have := h1 (by omega) i hi
      rw [if_neg g1, if_pos (by omega), if_neg (by omega)]
theorem sum_le64 (l : List Int) (hl : l.length ≤ 64) (hb : ∀ x ∈ l, 0 ≤ x ∧ x ≤ 1000000) : l.sum ≤ 64000000 := by
  have := (sum_nonneg_le l 0 hb)
  have h := sum_le_mul (fun x => x) 1000000 l (fun x hx => (hb x hx).2)
  rw [List.map_id'] at h
  omega
theorem MoneyParts : ∀ (a0 : Int) (l1 : List Int), (Lit.int .i64 a0).wf = true → l1.length ≤ maxLen → l1.length * 8 ≤ 140737488351232 → (∀ x ∈ l1, (Lit.int .i64 x).wf = true) → ∃ k, cohousinglaw02_MoneyParts.f k a0 l1 = some true := by
  intro c l _ _ _ _
  obtain ⟨B, hB⟩ : ∃ B : Nat, 5000 ≤ B := ⟨5000, Nat.le_refl _⟩
  refine ⟨B + 3, ?_⟩
  have hh : cohousinglaw02_head.f (B + 3) = some true := at_rounds cohousinglaw02_head.mono (show 20 ≤ B + 3 by omega) head_ok
  unfold cohousinglaw02_MoneyParts.f
  rw [hh, Option.bind_some, whole_eq l (B + 3) (by omega), ref_amt]
  simp only [Option.bind_some]
  by_cases hg : Amt c ∧ wholeF l ≠ 0
  · obtain ⟨hn, h1, h2, h3, h4, h5⟩ := split_good c l hg
    have hp := parts_ok c l hg.1 hn (by omega) h4
    have hS := sum_le64 l h1 h4
    have hT1 : 1 ≤ l.sum := by omega
    rw [h5, Option.bind_some, decide_eq_true hg.1, if_pos rfl]
    have e0 : (wholeF l == 0) = false := by simpa using hg.2
    have hlen := hp.len
    rw [e0, h3] at *
    rw [cohousinglaw02_MoneyParts.j0, if_neg (by decide), if_pos rfl]
    have e1 : (((splitRes c l.sum l hn).length : Int) != (l.length : Int)) = false := by
      rw [hlen]
      simp
    rw [e1, cohousinglaw02_MoneyParts.j1, if_neg (by decide)]
    exact parts_loop c l.sum l _ hp hg.1 hS hT1 h1 l.length _ 0 (by omega) (by omega)
  · rw [split_bad c l hg, Option.bind_some]
    have hj : cohousinglaw02_MoneyParts.j0 (B + 3) c l true [] 1 (wholeF l) true = some true := by
      rw [cohousinglaw02_MoneyParts.j0, if_pos rfl, if_pos rfl, if_pos rfl]
      rfl
    by_cases hc : Amt c
    · rw [decide_eq_true hc, if_pos rfl]
      have e0 : (wholeF l == 0) = true := by
        rw [beq_iff_eq]
        by_cases h : wholeF l = 0
        · exact h
        · exact absurd ⟨hc, h⟩ hg
      rw [e0]
      exact hj
    · rw [decide_eq_false hc, if_neg (by decide)]
      exact hj
end Go.Proofs.YtcbhaoaameiacaaDoor.Pure

