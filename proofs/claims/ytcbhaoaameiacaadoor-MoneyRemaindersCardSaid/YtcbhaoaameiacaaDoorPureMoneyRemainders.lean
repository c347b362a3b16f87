/- The law MoneyRemainders as a statement over numbers and lists: every input answers true. No Go and no memory in it. -/
import Derived.Test.YtcbhaoaameiacaaDoorMoneySplit
import Derived.Test.YtcbhaoaameiacaaDoorXx10
namespace Go.Proofs.YtcbhaoaameiacaaDoor.Pure
open Go.RowKit Go.Proofs.YtcbhaoaameiacaaDoor.X Go.Proofs.YtcbhaoaameiacaaDoorW.PrintWords

/-- What the law asks of the parts: the size of each, and who got one more. -/
structure RemOK (size T : Int) (l res : List Int) (B : Nat → Bool) : Prop where
  part : ∀ i : Nat, i < l.length → (if rd res (i : Int) < 0 then -rd res (i : Int) else rd res (i : Int)) = size * rd l (i : Int) / T + if B i = true then 1 else 0
  cut : ∀ i k : Nat, i < l.length → k < l.length → B i = true → B k = false → size * rd l (k : Int) % T < size * rd l (i : Int) % T ∨ (size * rd l (i : Int) % T = size * rd l (k : Int) % T ∧ i < k)
  prod : ∀ i : Nat, i < l.length → 0 ≤ size * rd l (i : Int) ∧ size * rd l (i : Int) ≤ 1000000000000000
theorem rem_ok (c : Int) (l : List Int) (hc : Amt c) (hn : 0 < l.length) (hT : 1 ≤ l.sum) (hb : ∀ x ∈ l, 0 ≤ x ∧ x ≤ 1000000) : ∃ B, RemOK (if c < 0 then -c else c) l.sum l (splitRes c l.sum l hn) B := by
  obtain ⟨B, h⟩ := split_ok c l.sum l hn hT rfl hb
  have hw : ∀ i : Nat, i < l.length → 0 ≤ rd l (i : Int) ∧ rd l (i : Int) ≤ 1000000 := by
    intro i hi
    have hm : rd l (i : Int) ∈ l := by rw [rd_nat l i hi]; exact List.getElem_mem hi
    exact hb _ hm
  have hs0 : 0 ≤ (if c < 0 then -c else c) := by split <;> omega
  have hs1 : (if c < 0 then -c else c) ≤ 1000000000 := by unfold Amt at hc; split <;> omega
  have hsg : (if c < 0 then (-1 : Int) else 1) = -1 ∨ (if c < 0 then (-1 : Int) else 1) = 1 := by split <;> simp
  generalize (if c < 0 then -c else c) = size at *
  generalize (if c < 0 then (-1 : Int) else 1) = sgn at *
  have hpr : ∀ i : Nat, i < l.length → 0 ≤ size * rd l (i : Int) ∧ size * rd l (i : Int) ≤ 1000000000000000 := by
    intro i hi
    obtain ⟨w1, w2⟩ := hw i hi
    refine ⟨Int.mul_nonneg hs0 w1, ?_⟩
    have e1 : size * rd l (i : Int) ≤ 1000000000 * rd l (i : Int) := Int.mul_le_mul_of_nonneg_right hs1 w1
    omega
  refine ⟨B, ?_, h.cut, hpr⟩
  intro i hi
  rw [h.part i hi]
  have hq : 0 ≤ size * rd l (i : Int) / l.sum := Int.ediv_nonneg (hpr i hi).1 (by omega)
  generalize size * rd l (i : Int) / l.sum = q at *
  have ha : 0 ≤ q + if B i = true then 1 else 0 := by split <;> omega
  generalize (q + if B i = true then 1 else 0) = a at *
  rcases hsg with e | e <;> rw [e] <;> split <;> omega
theorem rem_in (c T : Int) (l res : List Int) (B : Nat → Bool) (hc : Amt c) (hT : 1 ≤ T) (h : RemOK (if c < 0 then -c else c) T l res B) (ha : ∀ i : Nat, i < l.length → Amt (rd res (i : Int))) (hlen : res.length = l.length) (hl : l.length ≤ 64) (i : Nat) (hi : i < l.length) : ∀ (e k j : Nat), j + e = l.length →
    cohousinglaw02_MoneyRemainders.l1 (k + e + 1) c l true res T (i : Int) (j : Int) = cohousinglaw02_MoneyRemainders.l0 k c l true res T (wrap64 ((i : Int) + 1))
  | 0, k, j, e => by
    rw [cohousinglaw02_MoneyRemainders.l1, if_neg (by omega)]
  | e + 1, k, j, he => by
    have ih := rem_in c T l res B hc hT h ha hlen hl i hi e k (j + 1) (by omega)
    have hw : wrap64 ((j : Int) + 1) = ((j + 1 : Nat) : Int) := by unfold wrap64; omega
    have ai := ha i hi
    have aj := ha j (by omega)
    have pi_ := h.part i hi
    have pj_ := h.part j (by omega)
    have ri_ := h.prod i hi
    have rj_ := h.prod j (by omega)
    have hcut := h.cut i j hi (by omega)
    rw [show k + (e + 1) + 1 = (k + e + 1) + 1 by omega, cohousinglaw02_MoneyRemainders.l1, if_pos (by omega), if_pos (by omega), if_pos (by omega), size_f _ ai, size_f _ aj, size_f _ hc, hw, ih]
    simp only [Option.bind_some]
    clear ih h
    generalize (if c < 0 then -c else c) = size at *
    rw [pi_, pj_]
    generalize size * rd l (i : Int) = x at *
    generalize size * rd l (j : Int) = y at *
    have w1 : wrap64 x = x := wrap_ok (by omega) (by omega)
    have w2 : wrap64 y = y := wrap_ok (by omega) (by omega)
    have e1 : Int.tdiv x T = x / T := Int.tdiv_eq_ediv_of_nonneg ri_.1
    have e2 : Int.tdiv y T = y / T := Int.tdiv_eq_ediv_of_nonneg rj_.1
    have e3 : Int.tmod x T = x % T := Int.tmod_eq_emod_of_nonneg ri_.1
    have e4 : Int.tmod y T = y % T := Int.tmod_eq_emod_of_nonneg rj_.1
    have b1 : 0 ≤ x / T := Int.ediv_nonneg ri_.1 (by omega)
    have b2 : x / T ≤ x := Int.ediv_le_self T ri_.1
    have b3 : 0 ≤ y / T := Int.ediv_nonneg rj_.1 (by omega)
    have b4 : y / T ≤ y := Int.ediv_le_self T rj_.1
    have w3 : wrap64 (x / T) = x / T := wrap_ok (by omega) (by omega)
    have w4 : wrap64 (y / T) = y / T := wrap_ok (by omega) (by omega)
    rw [w1, w2, e1, e2, e3, e4, w3, w4, if_pos (by omega), if_neg (by omega), if_pos (by omega), if_pos (by omega)]
    by_cases g1 : (x / T + if B i = true then 1 else 0) > x / T
    · rw [if_pos g1]
      have hBi : B i = true := by
        cases h : B i with
        | true => rfl
        | false => rw [h] at g1; simp at g1
      by_cases g2 : (y / T + if B j = true then 1 else 0) = y / T
      · rw [if_pos g2]
        have hBj : B j = false := by
          cases h : B j with
          | false => rfl
          | true => rw [h] at g2; simp only [if_true] at g2; omega
        have g3 := hcut hBi hBj
        rw [if_neg (by omega)]
        by_cases g4 : x % T = y % T
        · rw [if_pos g4, if_neg (by omega)]
        · rw [if_neg g4]
      · rw [if_neg g2]
    · rw [if_neg g1]
theorem rem_loop (c T : Int) (l res : List Int) (B : Nat → Bool) (hc : Amt c) (hT : 1 ≤ T) (h : RemOK (if c < 0 then -c else c) T l res B) (ha : ∀ i : Nat, i < l.length → Amt (rd res (i : Int))) (hlen : res.length = l.length) (hl : l.length ≤ 64) : ∀ (d k i : Nat), i + d = l.length → 70 * d < k →
    cohousinglaw02_MoneyRemainders.l0 k c l true res T (i : Int) = some true
  | d, 0, i, _, hk => absurd hk (Nat.not_lt_zero _)
  | 0, k + 1, i, he, hk => by
    rw [cohousinglaw02_MoneyRemainders.l0, if_neg (by omega), if_pos rfl]
  | d + 1, k + 1, i, he, hk => by
    obtain ⟨k', rfl⟩ : ∃ k', k = k' + l.length + 1 := ⟨k - l.length - 1, by omega⟩
    have ih := rem_loop c T l res B hc hT h ha hlen hl d k' (i + 1) (by omega) (by omega)
    have wi : wrap64 ((i : Int) + 1) = ((i + 1 : Nat) : Int) := by unfold wrap64; omega
    have hp := rem_in c T l res B hc hT h ha hlen hl i (by omega) l.length k' 0 (by omega)
    rw [wi, ih] at hp
    rw [cohousinglaw02_MoneyRemainders.l0, if_pos (by omega)]
    exact hp
theorem MoneyRemainders : ∀ (a0 : Int) (l1 : List Int), (Lit.int .i64 a0).wf = true → l1.length ≤ maxLen → l1.length * 8 ≤ 140737488351232 → (∀ x ∈ l1, (Lit.int .i64 x).wf = true) → ∃ k, cohousinglaw02_MoneyRemainders.f k a0 l1 = some true := by
  intro c l _ _ _ _
  obtain ⟨B, hB⟩ : ∃ B : Nat, 5000 ≤ B := ⟨5000, Nat.le_refl _⟩
  refine ⟨B + 3, ?_⟩
  have hh : cohousinglaw02_head.f (B + 3) = some true := at_rounds cohousinglaw02_head.mono (show 20 ≤ B + 3 by omega) head_ok
  unfold cohousinglaw02_MoneyRemainders.f
  rw [hh, Option.bind_some, whole_eq l (B + 3) (by omega), ref_amt]
  simp only [Option.bind_some]
  by_cases hg : Amt c ∧ wholeF l ≠ 0
  · obtain ⟨hn, h1, h2, h3, h4, h5⟩ := split_good c l hg
    have hp := parts_ok c l hg.1 hn (by omega) h4
    obtain ⟨Bf, hr⟩ := rem_ok c l hg.1 hn (by omega) h4
    have hlen := hp.len
    rw [h5, Option.bind_some, decide_eq_true hg.1]
    simp only [if_true]
    rw [if_pos (by rw [h3, hlen]), if_neg hg.2, Bool.not_true, cohousinglaw02_MoneyRemainders.j0, if_neg (by decide), h3]
    exact rem_loop c l.sum l _ Bf hg.1 (by omega) hr hp.amt hlen h1 l.length _ 0 (by omega) (by omega)
  · rw [split_bad c l hg, Option.bind_some]
    simp only [if_true]
    rw [if_neg (by decide)]
    by_cases hc : Amt c
    · rw [decide_eq_true hc, if_pos rfl, if_pos (by
        by_cases h : wholeF l = 0
        · exact h
        · exact absurd ⟨hc, h⟩ hg)]
    · rw [decide_eq_false hc, if_neg (by decide)]
end Go.Proofs.YtcbhaoaameiacaaDoor.Pure

