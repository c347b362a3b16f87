/- What the money package computes, over numbers: sums, rounding, which numbers are valid. No Go and no memory in it. -/
import Derived.Test.YtcbhaoaameiacaaDoorXx6
namespace Go.Proofs.YtcbhaoaameiacaaDoor.Pure
open Go.RowKit Go.Proofs.YtcbhaoaameiacaaDoor.X Go.Proofs.YtcbhaoaameiacaaDoorW.PrintWords

theorem head_ok : cohousinglaw02_head.f 20 = some true := by kernel_rfl
theorem wrap_ok {n : Int} (h1 : -9223372036854775808 ≤ n) (h2 : n ≤ 9223372036854775807) : wrap64 n = n := by unfold wrap64; omega
theorem wf_in {x : Int} (h : (Lit.int .i64 x).wf = true) : inI64 x := by
  simpa [Lit.wf, IntKind.min, IntKind.max, IntKind.signed, IntKind.bits, inI64] using h
/-- An amount. -/
def Amt (x : Int) : Prop := -1000000000 ≤ x ∧ x ≤ 1000000000
instance (x : Int) : Decidable (Amt x) := by unfold Amt; infer_instance
theorem amt_f (x : Int) : money_amount_valid.f x = some (decide (Amt x)) := by
  unfold money_amount_valid.f
  by_cases h : (-1000000000) ≤ x
  · rw [if_pos h]
    exact congrArg some (decide_eq_decide.mpr (by unfold Amt; omega))
  · rw [if_neg h, decide_eq_false (by unfold Amt; omega)]
theorem ref_amt (x : Int) : cohousingref02_Amount.f x = some (decide (Amt x)) := by
  unfold cohousingref02_Amount.f
  by_cases h : x ≥ (-1000000000)
  · rw [if_pos h]
    exact congrArg some (decide_eq_decide.mpr (by unfold Amt; omega))
  · rw [if_neg h, decide_eq_false (by unfold Amt; omega)]
/-- The sum of the amounts that are left, with its kind of error. -/
def addF : Int → List Int → Int × Int
  | s, [] => if Amt s then (s, 0) else (0, 3)
  | s, x :: r => if Amt x then addF (wrap64 (s + x)) r else (0, 1)
theorem add_loop (l : List Int) (hl : l.length ≤ 1000) : ∀ (m k i : Nat) (s : Int), l.length - i ≤ m → m < k → i ≤ l.length → money_Add.l0 k s l (l.length : Int) (i : Int) = some (addF s (l.drop i))
  | m, 0, i, s, h1, h2, h3 => absurd h2 (Nat.not_lt_zero _)
  | m, k + 1, i, s, h1, h2, h3 => by
    rw [money_Add.l0]
    by_cases hi : i < l.length
    · have e : rd l (i : Int) = l[i] := by unfold rd; simp [hi]
      rw [if_pos (by omega), if_pos (by omega), if_pos (by omega), amt_f, Option.bind_some, List.drop_eq_getElem_cons hi, addF, e]
      by_cases ha : Amt l[i]
      · rw [decide_eq_true ha, if_pos rfl, if_pos ha]
        have hw : wrap64 ((i : Int) + 1) = ((i + 1 : Nat) : Int) := by unfold wrap64; omega
        rw [hw]
        obtain ⟨m', rfl⟩ : ∃ m', m = m' + 1 := ⟨m - 1, by omega⟩
        exact add_loop l hl m' k (i + 1) _ (by omega) (by omega) (by omega)
      · rw [decide_eq_false ha, if_neg (by decide), if_neg ha]
    · rw [if_neg (by omega), amt_f, Option.bind_some, List.drop_of_length_le (by omega), addF]
      by_cases ha : Amt s
      · rw [decide_eq_true ha, if_pos rfl, if_pos ha]
      · rw [decide_eq_false ha, if_neg (by decide), if_neg ha]
theorem add_eq (l : List Int) (hl : l.length ≤ 1000) (k : Nat) (hk : l.length < k) : money_Add.f k l = some (addF 0 l) := by
  have h := add_loop l hl l.length k 0 0 (by omega) hk (by omega)
  rw [List.drop_zero] at h
  exact h
theorem add2 (a b : Int) : addF 0 [a, b] = if Amt a ∧ Amt b then (if Amt (a + b) then (a + b, 0) else (0, 3)) else (0, 1) := by
  simp only [addF]
  by_cases ha : Amt a
  · by_cases hb : Amt b
    · have w1 : wrap64 (0 + a) = a := by rw [Int.zero_add]; exact wrap_ok (by unfold Amt at ha; omega) (by unfold Amt at ha; omega)
      have w2 : wrap64 (a + b) = a + b := wrap_ok (by unfold Amt at ha hb; omega) (by unfold Amt at ha hb; omega)
      rw [if_pos ha, if_pos hb, w1, w2, if_pos (show Amt a ∧ Amt b from ⟨ha, hb⟩)]
    · rw [if_pos ha, if_neg hb, if_neg (show ¬ (Amt a ∧ Amt b) from fun h => hb h.2)]
  · rw [if_neg ha, if_neg (show ¬ (Amt a ∧ Amt b) from fun h => ha h.1)]
theorem add3 (a b c : Int) : addF 0 [a, b, c] = if Amt a ∧ Amt b ∧ Amt c then (if Amt (a + b + c) then (a + b + c, 0) else (0, 3)) else (0, 1) := by
  simp only [addF]
  by_cases ha : Amt a
  · by_cases hb : Amt b
    · by_cases hc : Amt c
      · have w1 : wrap64 (0 + a) = a := by rw [Int.zero_add]; exact wrap_ok (by unfold Amt at ha; omega) (by unfold Amt at ha; omega)
        have w2 : wrap64 (a + b) = a + b := wrap_ok (by unfold Amt at ha hb; omega) (by unfold Amt at ha hb; omega)
        have w3 : wrap64 (a + b + c) = a + b + c := wrap_ok (by unfold Amt at ha hb hc; omega) (by unfold Amt at ha hb hc; omega)
        rw [if_pos ha, if_pos hb, if_pos hc, w1, w2, w3, if_pos (show Amt a ∧ Amt b ∧ Amt c from ⟨ha, hb, hc⟩)]
      · rw [if_pos ha, if_pos hb, if_neg hc, if_neg (show ¬ (Amt a ∧ Amt b ∧ Amt c) from fun h => hc h.2.2)]
    · rw [if_pos ha, if_neg hb, if_neg (show ¬ (Amt a ∧ Amt b ∧ Amt c) from fun h => hb h.2.1)]
  · rw [if_neg ha, if_neg (show ¬ (Amt a ∧ Amt b ∧ Amt c) from fun h => ha h.1)]
/-- A number in its reduced form, within the limits. -/
def Vld (n d : Int) : Prop := 1 ≤ d ∧ d ≤ 1000000000 ∧ -1000000000 ≤ n ∧ n ≤ 1000000000 ∧ Nat.gcd n.natAbs d.natAbs = 1
instance (n d : Int) : Decidable (Vld n d) := by unfold Vld; infer_instance
theorem size_eq (n : Int) (h1 : -1000000000 ≤ n) (h2 : n ≤ 1000000000) : rational_size.f n = some ((n.natAbs : Nat) : Int) := by
  unfold rational_size.f
  simp only [IntKind.wrap_u64]
  split
  · congr 1
    omega
  · congr 1
    omega
theorem valid_eq (n d : Int) : rational_Valid.f n d = some (decide (Vld n d)) := by
  unfold rational_Valid.f
  by_cases h1 : d ≥ 1
  · by_cases h2 : d ≤ 1000000000
    · by_cases h3 : n ≥ (-1000000000)
      · by_cases h4 : n ≤ 1000000000
        · rw [if_pos h1, if_pos h2, if_pos h3, if_pos h4, size_eq n h3 h4, size_eq d (by omega) h2, Option.bind_some, Option.bind_some]
          unfold rational_common.f
          rw [if_pos (by omega), Option.bind_some]
          refine congrArg some ?_
          have e : Int.gcd ((n.natAbs : Nat) : Int) ((d.natAbs : Nat) : Int) = Nat.gcd n.natAbs d.natAbs := rfl
          rw [e, Bool.eq_iff_iff, beq_iff_eq, decide_eq_true_iff]
          constructor
          · intro h
            exact ⟨h1, h2, h3, h4, by omega⟩
          · rintro ⟨_, _, _, _, h⟩
            omega
        · rw [if_pos h1, if_pos h2, if_pos h3, if_neg h4, decide_eq_false (by unfold Vld; omega)]
      · rw [if_pos h1, if_pos h2, if_neg h3, decide_eq_false (by unfold Vld; omega)]
    · rw [if_pos h1, if_neg h2, decide_eq_false (by unfold Vld; omega)]
  · rw [if_neg h1, decide_eq_false (by unfold Vld; omega)]
/-- Rounds that serve every loop of the reference. -/
def Big (k : Nat) : Prop := 20000000000000000000 ≤ k
theorem Big.succ {k : Nat} (h : Big k) : ∃ k', k = k' + 1 ∧ 19999999999999999999 ≤ k' := by
  unfold Big at h
  exact ⟨k - 1, by omega, by omega⟩
theorem ref_common : ∀ (k a b : Nat), b < k → cohousingref01_common.l0 k (a : Int) (b : Int) = some ((Nat.gcd a b : Nat) : Int)
  | 0, _, _, h => absurd h (Nat.not_lt_zero _)
  | k + 1, a, b, h => by
    unfold cohousingref01_common.l0
    by_cases hb : b = 0
    · subst hb
      simp
    · rw [if_neg (by omega), ← Int.ofNat_tmod, ref_common k b (a % b) (by have := Nat.mod_lt a (Nat.pos_of_ne_zero hb); omega)]
      rw [Nat.gcd_comm a b, Nat.gcd_rec b a, Nat.gcd_comm]
theorem ref_size (n : Int) (h : inI64 n) : cohousingref01_size.f n = some ((n.natAbs : Nat) : Int) := by
  unfold cohousingref01_size.f
  unfold inI64 at h
  simp only [IntKind.wrap_u64]
  unfold wrap64
  split
  · congr 1
    omega
  · congr 1
    omega
theorem wrap_small (p : Nat) (h : ¬ 1000000000 < p) : wrap64 (p : Int) = p ∧ wrap64 (-(p : Int)) = -(p : Int) :=
  ⟨wrap_ok (by omega) (by omega), wrap_ok (by omega) (by omega)⟩
theorem ref_valid (k : Nat) (hk : Big k) (n d : Int) (hn : inI64 n) (hd : inI64 d) : cohousingref01_Valid.f k n d = some (decide (Vld n d)) := by
  unfold cohousingref01_Valid.f
  by_cases h1 : d < 1
  · rw [if_pos h1, decide_eq_false (by unfold Vld; omega)]
  · rw [if_neg h1]
    unfold cohousingref01_Make.f
    rw [if_neg (by omega), ref_size n hn, ref_size d hd]
    simp only [Option.bind_some]
    have bn : n.natAbs ≤ 9223372036854775808 := by unfold inI64 at hn; omega
    have bd : d.natAbs ≤ 9223372036854775808 := by unfold inI64 at hd; omega
    unfold cohousingref01_common.f
    have hk0 := hk
    rw [ref_common k _ _ (by unfold Big at hk; omega), Option.bind_some]
    have hg : 0 < Nat.gcd n.natAbs d.natAbs := Nat.gcd_pos_of_pos_right _ (by omega)
    have e1 : n.natAbs / Nat.gcd n.natAbs d.natAbs ≤ 9223372036854775808 := Nat.le_trans (Nat.div_le_self _ _) bn
    have e2 : d.natAbs / Nat.gcd n.natAbs d.natAbs ≤ 9223372036854775808 := Nat.le_trans (Nat.div_le_self _ _) bd
    have hV : Vld n d ↔ (Nat.gcd n.natAbs d.natAbs = 1 ∧ d ≤ 1000000000 ∧ -1000000000 ≤ n ∧ n ≤ 1000000000) := by
      unfold Vld
      constructor
      · rintro ⟨_, h2, h3, h4, h5⟩
        exact ⟨h5, h2, h3, h4⟩
      · rintro ⟨h5, h2, h3, h4⟩
        exact ⟨by omega, h2, h3, h4, h5⟩
    have hgd : Nat.gcd n.natAbs d.natAbs ∣ d.natAbs := Nat.gcd_dvd_right _ _
    have hgn : Nat.gcd n.natAbs d.natAbs ∣ n.natAbs := Nat.gcd_dvd_left _ _
    obtain ⟨z, hz⟩ : ∃ z, decide (Vld n d) = z := ⟨_, rfl⟩
    have hZ : z = true ↔ (Nat.gcd n.natAbs d.natAbs = 1 ∧ d ≤ 1000000000 ∧ -1000000000 ≤ n ∧ n ≤ 1000000000) := by rw [← hz, decide_eq_true_iff]; exact hV
    rw [hz]
    clear hz hV
    generalize Nat.gcd n.natAbs d.natAbs = g at *
    rw [if_neg (show ¬ ((g : Int) = 0) by omega), ← Int.ofNat_tdiv, ← Int.ofNat_tdiv]
    obtain ⟨q, hq⟩ := hgd
    obtain ⟨p, hp⟩ := hgn
    have ea : n.natAbs / g = p := by rw [hp]; exact Nat.mul_div_cancel_left _ hg
    have eb : d.natAbs / g = q := by rw [hq]; exact Nat.mul_div_cancel_left _ hg
    rw [ea] at e1 ⊢
    rw [eb] at e2 ⊢
    have w1 : IntKind.u64.wrap (p : Int) = p := by simp only [IntKind.wrap_u64]; omega
    have w2 : IntKind.u64.wrap (q : Int) = q := by simp only [IntKind.wrap_u64]; omega
    rw [w1, w2]
    have hq0 : 0 < q := by
      rcases Nat.eq_zero_or_pos q with h | h
      · subst h; omega
      · exact h
    have g1 : g = 1 ∨ (q : Int) ≠ d := by
      by_cases h : g = 1
      · exact .inl h
      · right
        intro e
        have h2 : 2 * q ≤ g * q := Nat.mul_le_mul_right q (by omega)
        omega
    obtain ⟨k', rfl, -⟩ := hk0.succ
    clear hk hk0
    by_cases ha : 1000000000 < p
    · rw [if_pos (by omega)]
      simp only [cohousingref01_Make.j0, if_true, Option.bind_some]
      have hf : z = false := Bool.eq_false_iff.mpr (fun h => by
        obtain ⟨rfl, h2, h3, h4⟩ := hZ.mp h
        omega)
      rw [if_neg (by decide), hf]
    · rw [if_neg (by omega)]
      by_cases hb : 1000000000 < q
      · rw [decide_eq_true (show (q : Int) > 1000000000 by omega)]
        simp only [cohousingref01_Make.j0, if_true, Option.bind_some]
        have hf : z = false := Bool.eq_false_iff.mpr (fun h => by
          obtain ⟨rfl, h2, h3, h4⟩ := hZ.mp h
          omega)
        rw [if_neg (by decide), hf]
      · rw [decide_eq_false (show ¬ ((q : Int) > 1000000000) by omega)]
        clear e1 e2 ea eb hn hd bn bd w1 w2
        obtain ⟨v1, v3⟩ := wrap_small p ha
        obtain ⟨v2, -⟩ := wrap_small q hb
        simp only [cohousingref01_Make.j0, Bool.false_eq_true, if_false, v1, v2, v3, decide_eq_false (show ¬ d < 0 by omega), Bool.bne_false]
        by_cases hn0 : n < 0
        · rw [decide_eq_true hn0, if_pos rfl, Option.bind_some]
          simp only [if_true]
          refine congrArg some ?_
          rw [Bool.eq_iff_iff, Bool.and_eq_true, beq_iff_eq, beq_iff_eq, hZ]
          constructor
          · rintro ⟨h2, h3⟩
            rcases g1 with h | h
            · clear hZ
              subst h
              rw [Nat.one_mul] at hp hq
              exact ⟨rfl, by omega, by omega, by omega⟩
            · exact absurd h3 h
          · clear hZ g1
            rintro ⟨rfl, h2, h3, h4⟩
            rw [Nat.one_mul] at hp hq
            omega
        · rw [decide_eq_false hn0, if_neg (by decide), Option.bind_some]
          simp only [if_true]
          refine congrArg some ?_
          rw [Bool.eq_iff_iff, Bool.and_eq_true, beq_iff_eq, beq_iff_eq, hZ]
          constructor
          · rintro ⟨h2, h3⟩
            rcases g1 with h | h
            · clear hZ
              subst h
              rw [Nat.one_mul] at hp hq
              exact ⟨rfl, by omega, by omega, by omega⟩
            · exact absurd h3 h
          · clear hZ g1
            rintro ⟨rfl, h2, h3, h4⟩
            rw [Nat.one_mul] at hp hq
            omega
/-- x divided by d, rounded, halves away from 0. -/
def rnd (x d : Int) : Int := if x < 0 then -((2 * -x + d) / (2 * d)) else (2 * x + d) / (2 * d)
theorem rnd_spec (x d : Int) (hd : 1 ≤ d) : 2 * (rnd x d * d - x) ≤ d ∧ -2 * (rnd x d * d - x) ≤ d := by
  unfold rnd
  split
  · have e := Int.mul_ediv_add_emod (2 * -x + d) (2 * d)
    have e0 := Int.emod_nonneg (2 * -x + d) (show 2 * d ≠ 0 by omega)
    have e1 := Int.emod_lt_of_pos (2 * -x + d) (show 0 < 2 * d by omega)
    generalize (2 * -x + d) / (2 * d) = q at *
    rw [Int.mul_assoc, Int.mul_comm d q] at e
    rw [Int.neg_mul]
    omega
  · have e := Int.mul_ediv_add_emod (2 * x + d) (2 * d)
    have e0 := Int.emod_nonneg (2 * x + d) (show 2 * d ≠ 0 by omega)
    have e1 := Int.emod_lt_of_pos (2 * x + d) (show 0 < 2 * d by omega)
    generalize (2 * x + d) / (2 * d) = q at *
    rw [Int.mul_assoc, Int.mul_comm d q] at e
    omega
theorem rnd_zero (d : Int) (hd : 1 ≤ d) : rnd 0 d = 0 := by
  unfold rnd
  rw [if_neg (by omega), Int.mul_zero, Int.zero_add]
  exact Int.ediv_eq_zero_of_lt (by omega) (by omega)
theorem rnd_neg (x d : Int) (hd : 1 ≤ d) : rnd (-x) d = -rnd x d := by
  rcases Int.lt_trichotomy x 0 with h | h | h
  · unfold rnd
    rw [if_neg (by omega), if_pos h, Int.neg_neg]
  · subst h
    rw [Int.neg_zero, rnd_zero d hd]
    rfl
  · unfold rnd
    rw [if_pos (by omega), if_neg (by omega), Int.neg_neg]
theorem rnd_one (x : Int) : rnd x 1 = x := by
  unfold rnd
  split <;> omega
theorem rnd_mono (x y d : Int) (hd : 1 ≤ d) (h : x ≤ y) : rnd x d ≤ rnd y d := by
  unfold rnd
  by_cases hx : x < 0
  · rw [if_pos hx]
    have h1 : 0 ≤ (2 * -x + d) / (2 * d) := Int.ediv_nonneg (by omega) (by omega)
    by_cases hy : y < 0
    · rw [if_pos hy]
      have := Int.ediv_le_ediv (show 0 < 2 * d by omega) (show 2 * -y + d ≤ 2 * -x + d by omega)
      omega
    · rw [if_neg hy]
      have h2 : 0 ≤ (2 * y + d) / (2 * d) := Int.ediv_nonneg (by omega) (by omega)
      omega
  · rw [if_neg hx, if_neg (by omega)]
    exact Int.ediv_le_ediv (by omega) (by omega)
theorem q_bd (y d : Int) (hy : 0 ≤ y) (hd : 1 ≤ d) : 0 ≤ (2 * y + d) / (2 * d) ∧ (2 * y + d) / (2 * d) ≤ y + 1 := by
  refine ⟨Int.ediv_nonneg (by omega) (by omega), Int.ediv_le_of_le_mul (by omega) ?_⟩
  have h1 : y * 1 ≤ y * d := Int.mul_le_mul_of_nonneg_left hd hy
  rw [Int.add_mul, Int.one_mul, Int.mul_left_comm]
  omega
theorem rnd_bd (x d B : Int) (hd : 1 ≤ d) (h : -B ≤ x ∧ x ≤ B) : -(B + 1) ≤ rnd x d ∧ rnd x d ≤ B + 1 := by
  unfold rnd
  split
  · have := q_bd (-x) d (by omega) hd
    omega
  · have := q_bd x d (by omega) hd
    omega
theorem prod_le {a b : Int} (ha : Amt a) (hb : Amt b) : -1000000000000000000 ≤ a * b ∧ a * b ≤ 1000000000000000000 := by
  unfold Amt at *
  have h1 : (a * b).natAbs ≤ 1000000000 * 1000000000 := by
    rw [Int.natAbs_mul]
    exact Nat.mul_le_mul (by omega) (by omega)
  omega
/-- What Scale returns. -/
def scaleF (c n d : Int) : Int × Int := if Amt c ∧ Vld n d then (if Amt (rnd (c * n) d) then (rnd (c * n) d, 0) else (0, 3)) else (0, 1)
theorem scale_eq (k : Nat) (c n d : Int) : money_Scale.f (k + 1) c n d = some (scaleF c n d) := by
  unfold money_Scale.f scaleF
  rw [amt_f, Option.bind_some]
  by_cases hc : Amt c
  · rw [decide_eq_true hc, if_pos rfl, valid_eq, Option.bind_some]
    by_cases hv : Vld n d
    · rw [decide_eq_true hv, if_pos (show Amt c ∧ Vld n d from ⟨hc, hv⟩)]
      have hv' := hv
      unfold Vld at hv'
      have hp := prod_le hc (show Amt n from ⟨hv'.2.2.1, hv'.2.2.2.1⟩)
      have hd : 1 ≤ d ∧ d ≤ 1000000000 := ⟨hv'.1, hv'.2.1⟩
      have hsp := rnd_spec (c * n) d hd.1
      simp only [money_Scale.j0, Bool.not_true, Bool.false_eq_true, if_false]
      generalize c * n = x at *
      have w1 : wrap64 x = x := wrap_ok (by omega) (by omega)
      have w2 : wrap64 (2 * d) = 2 * d := wrap_ok (by omega) (by omega)
      have w3 : wrap64 (2 * x) = 2 * x := wrap_ok (by omega) (by omega)
      have w4 : wrap64 (-d) = -d := wrap_ok (by omega) (by omega)
      have w5 : wrap64 (2 * x + d) = 2 * x + d := wrap_ok (by omega) (by omega)
      have w6 : wrap64 (2 * x + -d) = 2 * x + -d := wrap_ok (by omega) (by omega)
      simp only [w1, w2, w3, w4, w5, w6]
      have hb := rnd_bd x d 1000000000000000000 hd.1 hp
      by_cases hx : x < 0
      · rw [if_pos hx, if_neg (by omega)]
        have e : Int.tdiv (2 * x + -d) (2 * d) = rnd x d := by
          unfold rnd
          rw [if_pos hx, show 2 * x + -d = -(2 * -x + d) by omega, Int.neg_tdiv, Int.tdiv_eq_ediv_of_nonneg (by omega)]
        rw [e, wrap_ok (by omega) (by omega), amt_f, Option.bind_some]
        by_cases ha : Amt (rnd x d)
        · rw [decide_eq_true ha, if_pos rfl, if_pos ha]
        · rw [decide_eq_false ha, if_neg (by decide), if_neg ha]
      · rw [if_neg hx, if_neg (by omega)]
        have e : Int.tdiv (2 * x + d) (2 * d) = rnd x d := by
          unfold rnd
          rw [if_neg hx, Int.tdiv_eq_ediv_of_nonneg (by omega)]
        rw [e, wrap_ok (by omega) (by omega), amt_f, Option.bind_some]
        by_cases ha : Amt (rnd x d)
        · rw [decide_eq_true ha, if_pos rfl, if_pos ha]
        · rw [decide_eq_false ha, if_neg (by decide), if_neg ha]
    · rw [decide_eq_false hv, if_neg (show ¬ (Amt c ∧ Vld n d) from fun h => hv h.2)]
      simp only [money_Scale.j0, Bool.not_false, if_true]
  · rw [decide_eq_false hc, if_neg (by decide), if_neg (show ¬ (Amt c ∧ Vld n d) from fun h => hc h.1)]
    simp only [money_Scale.j0, if_true]
end Go.Proofs.YtcbhaoaameiacaaDoor.Pure

