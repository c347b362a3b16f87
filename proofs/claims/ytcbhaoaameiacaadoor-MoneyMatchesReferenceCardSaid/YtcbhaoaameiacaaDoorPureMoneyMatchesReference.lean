/- The law MoneyMatchesReference as a statement over numbers and lists: every input answers true. No Go and no memory in it. -/
import Derived.Test.YtcbhaoaameiacaaDoorXx8
import Derived.Test.YtcbhaoaameiacaaDoorXx9
import Derived.Test.YtcbhaoaameiacaaDoorXx13
import Derived.Test.YtcbhaoaameiacaaDoorBytes
import Derived.Test.YtcbhaoaameiacaaDoorXx12
import Derived.Test.YtcbhaoaameiacaaDoorXx7
import Derived.Test.YtcbhaoaameiacaaDoorXx14
import Derived.Test.YtcbhaoaameiacaaDoorXx10
import Derived.Test.YtcbhaoaameiacaaDoorXx11
import Derived.Test.YtcbhaoaameiacaaDoorXx15
/- Amounts: what the law's guards ask, over numbers. No Go and no memory in it. -/
namespace Go.Proofs.YtcbhaoaameiacaaDoor.Pure
open Go.RowKit Go.Proofs.YtcbhaoaameiacaaDoor.X Go.Proofs.YtcbhaoaameiacaaDoorW.PrintWords

theorem head_ok : cohousinglaw02_head.f 20 = some true := by kernel_rfl
theorem wrap_ok {n : Int} (h1 : -9223372036854775808 ≤ n) (h2 : n ≤ 9223372036854775807) : wrap64 n = n := by unfold wrap64; omega
theorem wf_in {x : Int} (h : (Lit.int .i64 x).wf = true) : inI64 x := by
  simpa [Lit.wf, IntKind.min, IntKind.max, IntKind.signed, IntKind.bits, inI64] using h
/-- An amount. -/
def Amt (x : Int) : Prop := -1000000000 ≤ x ∧ x ≤ 1000000000
instance (x : Int) : Decidable (Amt x) := by unfold Amt; infer_instance
theorem amt_f (x : Int) : money_amount_valid.f x = some (decide (Amt x)) := by
  unfold money_amount_valid.f
  by_cases h : (-1000000000) ≤ x
  · rw [if_pos h]
    exact congrArg some (decide_eq_decide.mpr (by unfold Amt; omega))
  · rw [if_neg h, decide_eq_false (by unfold Amt; omega)]
theorem ref_amt (x : Int) : cohousingref02_Amount.f x = some (decide (Amt x)) := by
  unfold cohousingref02_Amount.f
  by_cases h : x ≥ (-1000000000)
  · rw [if_pos h]
    exact congrArg some (decide_eq_decide.mpr (by unfold Amt; omega))
  · rw [if_neg h, decide_eq_false (by unfold Amt; omega)]
end Go.Proofs.YtcbhaoaameiacaaDoor.Pure

/- What the money package computes, over numbers: sums, rounding, which numbers are valid. No Go and no memory in it. -/
namespace Go.Proofs.YtcbhaoaameiacaaDoor.Pure
open Go.RowKit Go.Proofs.YtcbhaoaameiacaaDoor.X Go.Proofs.YtcbhaoaameiacaaDoorW.PrintWords

/-- The sum of the amounts that are left, with its kind of error. -/
def addF : Int → List Int → Int × Int
  | s, [] => if Amt s then (s, 0) else (0, 3)
  | s, x :: r => if Amt x then addF (wrap64 (s + x)) r else (0, 1)
theorem add_loop (l : List Int) (hl : l.length ≤ 1000) : ∀ (m k i : Nat) (s : Int), l.length - i ≤ m → m < k → i ≤ l.length → money_Add.l0 k s l (l.length : Int) (i : Int) = some (addF s (l.drop i))
  | m, 0, i, s, h1, h2, h3 => absurd h2 (Nat.not_lt_zero _)
  | m, k + 1, i, s, h1, h2, h3 => by
    rw [money_Add.l0]
    by_cases hi : i < l.length
    · have e : rd l (i : Int) = l[i] := by unfold rd; simp [hi]
      rw [if_pos (by omega), if_pos (by omega), if_pos (by omega), amt_f, Option.bind_some, List.drop_eq_getElem_cons hi, addF, e]
      by_cases ha : Amt l[i]
      · rw [decide_eq_true ha, if_pos rfl, if_pos ha]
        have hw : wrap64 ((i : Int) + 1) = ((i + 1 : Nat) : Int) := by unfold wrap64; omega
        rw [hw]
        obtain ⟨m', rfl⟩ : ∃ m', m = m' + 1 := ⟨m - 1, by omega⟩
        exact add_loop l hl m' k (i + 1) _ (by omega) (by omega) (by omega)
      · rw [decide_eq_false ha, if_neg (by decide), if_neg ha]
    · rw [if_neg (by omega), amt_f, Option.bind_some, List.drop_of_length_le (by omega), addF]
      by_cases ha : Amt s
      · rw [decide_eq_true ha, if_pos rfl, if_pos ha]
      · rw [decide_eq_false ha, if_neg (by decide), if_neg ha]
theorem add_eq (l : List Int) (hl : l.length ≤ 1000) (k : Nat) (hk : l.length < k) : money_Add.f k l = some (addF 0 l) := by
  have h := add_loop l hl l.length k 0 0 (by omega) hk (by omega)
  rw [List.drop_zero] at h
  exact h
/-- A number in its reduced form, within the limits. -/
def Vld (n d : Int) : Prop := 1 ≤ d ∧ d ≤ 1000000000 ∧ -1000000000 ≤ n ∧ n ≤ 1000000000 ∧ Nat.gcd n.natAbs d.natAbs = 1
instance (n d : Int) : Decidable (Vld n d) := by unfold Vld; infer_instance
theorem size_eq (n : Int) (h1 : -1000000000 ≤ n) (h2 : n ≤ 1000000000) : rational_size.f n = some ((n.natAbs : Nat) : Int) := by
  unfold rational_size.f
  simp only [IntKind.wrap_u64]
  split
  · congr 1
    omega
  · congr 1
    omega
theorem valid_eq (n d : Int) : rational_Valid.f n d = some (decide (Vld n d)) := by
  unfold rational_Valid.f
  by_cases h1 : d ≥ 1
  · by_cases h2 : d ≤ 1000000000
    · by_cases h3 : n ≥ (-1000000000)
      · by_cases h4 : n ≤ 1000000000
        · rw [if_pos h1, if_pos h2, if_pos h3, if_pos h4, size_eq n h3 h4, size_eq d (by omega) h2, Option.bind_some, Option.bind_some]
          unfold rational_common.f
          rw [if_pos (by omega), Option.bind_some]
          refine congrArg some ?_
          have e : Int.gcd ((n.natAbs : Nat) : Int) ((d.natAbs : Nat) : Int) = Nat.gcd n.natAbs d.natAbs := rfl
          rw [e, Bool.eq_iff_iff, beq_iff_eq, decide_eq_true_iff]
          constructor
          · intro h
            exact ⟨h1, h2, h3, h4, by omega⟩
          · rintro ⟨_, _, _, _, h⟩
            omega
        · rw [if_pos h1, if_pos h2, if_pos h3, if_neg h4, decide_eq_false (by unfold Vld; omega)]
      · rw [if_pos h1, if_pos h2, if_neg h3, decide_eq_false (by unfold Vld; omega)]
    · rw [if_pos h1, if_neg h2, decide_eq_false (by unfold Vld; omega)]
  · rw [if_neg h1, decide_eq_false (by unfold Vld; omega)]
/-- Rounds that serve every loop of the reference. -/
def Big (k : Nat) : Prop := 20000000000000000000 ≤ k
theorem Big.succ {k : Nat} (h : Big k) : ∃ k', k = k' + 1 ∧ 19999999999999999999 ≤ k' := by
  unfold Big at h
  exact ⟨k - 1, by omega, by omega⟩
theorem ref_common : ∀ (k a b : Nat), b < k → cohousingref01_common.l0 k (a : Int) (b : Int) = some ((Nat.gcd a b : Nat) : Int)
  | 0, _, _, h => absurd h (Nat.not_lt_zero _)
  | k + 1, a, b, h => by
    unfold cohousingref01_common.l0
    by_cases hb : b = 0
    · subst hb
      simp
    · rw [if_neg (by omega), ← Int.ofNat_tmod, ref_common k b (a % b) (by have := Nat.mod_lt a (Nat.pos_of_ne_zero hb); omega)]
      rw [Nat.gcd_comm a b, Nat.gcd_rec b a, Nat.gcd_comm]
theorem ref_size (n : Int) (h : inI64 n) : cohousingref01_size.f n = some ((n.natAbs : Nat) : Int) := by
  unfold cohousingref01_size.f
  unfold inI64 at h
  simp only [IntKind.wrap_u64]
  unfold wrap64
  split
  · congr 1
    omega
  · congr 1
    omega
theorem wrap_small (p : Nat) (h : ¬ 1000000000 < p) : wrap64 (p : Int) = p ∧ wrap64 (-(p : Int)) = -(p : Int) :=
  ⟨wrap_ok (by omega) (by omega), wrap_ok (by omega) (by omega)⟩
theorem ref_valid (k : Nat) (hk : Big k) (n d : Int) (hn : inI64 n) (hd : inI64 d) : cohousingref01_Valid.f k n d = some (decide (Vld n d)) := by
  unfold cohousingref01_Valid.f
  by_cases h1 : d < 1
  · rw [if_pos h1, decide_eq_false (by unfold Vld; omega)]
  · rw [if_neg h1]
    unfold cohousingref01_Make.f
    rw [if_neg (by omega), ref_size n hn, ref_size d hd]
    simp only [Option.bind_some]
    have bn : n.natAbs ≤ 9223372036854775808 := by unfold inI64 at hn; omega
    have bd : d.natAbs ≤ 9223372036854775808 := by unfold inI64 at hd; omega
    unfold cohousingref01_common.f
    have hk0 := hk
    rw [ref_common k _ _ (by unfold Big at hk; omega), Option.bind_some]
    have hg : 0 < Nat.gcd n.natAbs d.natAbs := Nat.gcd_pos_of_pos_right _ (by omega)
    have e1 : n.natAbs / Nat.gcd n.natAbs d.natAbs ≤ 9223372036854775808 := Nat.le_trans (Nat.div_le_self _ _) bn
    have e2 : d.natAbs / Nat.gcd n.natAbs d.natAbs ≤ 9223372036854775808 := Nat.le_trans (Nat.div_le_self _ _) bd
    have hV : Vld n d ↔ (Nat.gcd n.natAbs d.natAbs = 1 ∧ d ≤ 1000000000 ∧ -1000000000 ≤ n ∧ n ≤ 1000000000) := by
      unfold Vld
      constructor
      · rintro ⟨_, h2, h3, h4, h5⟩
        exact ⟨h5, h2, h3, h4⟩
      · rintro ⟨h5, h2, h3, h4⟩
        exact ⟨by omega, h2, h3, h4, h5⟩
    have hgd : Nat.gcd n.natAbs d.natAbs ∣ d.natAbs := Nat.gcd_dvd_right _ _
    have hgn : Nat.gcd n.natAbs d.natAbs ∣ n.natAbs := Nat.gcd_dvd_left _ _
    obtain ⟨z, hz⟩ : ∃ z, decide (Vld n d) = z := ⟨_, rfl⟩
    have hZ : z = true ↔ (Nat.gcd n.natAbs d.natAbs = 1 ∧ d ≤ 1000000000 ∧ -1000000000 ≤ n ∧ n ≤ 1000000000) := by rw [← hz, decide_eq_true_iff]; exact hV
    rw [hz]
    clear hz hV
    generalize Nat.gcd n.natAbs d.natAbs = g at *
    rw [if_neg (show ¬ ((g : Int) = 0) by omega), ← Int.ofNat_tdiv, ← Int.ofNat_tdiv]
    obtain ⟨q, hq⟩ := hgd
    obtain ⟨p, hp⟩ := hgn
    have ea : n.natAbs / g = p := by rw [hp]; exact Nat.mul_div_cancel_left _ hg
    have eb : d.natAbs / g = q := by rw [hq]; exact Nat.mul_div_cancel_left _ hg
    rw [ea] at e1 ⊢
    rw [eb] at e2 ⊢
    have w1 : IntKind.u64.wrap (p : Int) = p := by simp only [IntKind.wrap_u64]; omega
    have w2 : IntKind.u64.wrap (q : Int) = q := by simp only [IntKind.wrap_u64]; omega
    rw [w1, w2]
    have hq0 : 0 < q := by
      rcases Nat.eq_zero_or_pos q with h | h
      · subst h; omega
      · exact h
    have g1 : g = 1 ∨ (q : Int) ≠ d := by
      by_cases h : g = 1
      · exact .inl h
      · right
        intro e
        have h2 : 2 * q ≤ g * q := Nat.mul_le_mul_right q (by omega)
        omega
    obtain ⟨k', rfl, -⟩ := hk0.succ
    clear hk hk0
    by_cases ha : 1000000000 < p
    · rw [if_pos (by omega)]
      simp only [cohousingref01_Make.j0, if_true, Option.bind_some]
      have hf : z = false := Bool.eq_false_iff.mpr (fun h => by
        obtain ⟨rfl, h2, h3, h4⟩ := hZ.mp h
        omega)
      rw [if_neg (by decide), hf]
    · rw [if_neg (by omega)]
      by_cases hb : 1000000000 < q
      · rw [decide_eq_true (show (q : Int) > 1000000000 by omega)]
        simp only [cohousingref01_Make.j0, if_true, Option.bind_some]
        have hf : z = false := Bool.eq_false_iff.mpr (fun h => by
          obtain ⟨rfl, h2, h3, h4⟩ := hZ.mp h
          omega)
        rw [if_neg (by decide), hf]
      · rw [decide_eq_false (show ¬ ((q : Int) > 1000000000) by omega)]
        clear e1 e2 ea eb hn hd bn bd w1 w2
        obtain ⟨v1, v3⟩ := wrap_small p ha
        obtain ⟨v2, -⟩ := wrap_small q hb
        simp only [cohousingref01_Make.j0, Bool.false_eq_true, if_false, v1, v2, v3, decide_eq_false (show ¬ d < 0 by omega), Bool.bne_false]
        by_cases hn0 : n < 0
        · rw [decide_eq_true hn0, if_pos rfl, Option.bind_some]
          simp only [if_true]
          refine congrArg some ?_
          rw [Bool.eq_iff_iff, Bool.and_eq_true, beq_iff_eq, beq_iff_eq, hZ]
          constructor
          · rintro ⟨h2, h3⟩
            rcases g1 with h | h
            · clear hZ
              subst h
              rw [Nat.one_mul] at hp hq
              exact ⟨rfl, by omega, by omega, by omega⟩
            · exact absurd h3 h
          · clear hZ g1
            rintro ⟨rfl, h2, h3, h4⟩
            rw [Nat.one_mul] at hp hq
            omega
        · rw [decide_eq_false hn0, if_neg (by decide), Option.bind_some]
          simp only [if_true]
          refine congrArg some ?_
          rw [Bool.eq_iff_iff, Bool.and_eq_true, beq_iff_eq, beq_iff_eq, hZ]
          constructor
          · rintro ⟨h2, h3⟩
            rcases g1 with h | h
            · clear hZ
              subst h
              rw [Nat.one_mul] at hp hq
              exact ⟨rfl, by omega, by omega, by omega⟩
            · exact absurd h3 h
          · clear hZ g1
            rintro ⟨rfl, h2, h3, h4⟩
            rw [Nat.one_mul] at hp hq
            omega
/-- x divided by d, rounded, halves away from 0. -/
def rnd (x d : Int) : Int := if x < 0 then -((2 * -x + d) / (2 * d)) else (2 * x + d) / (2 * d)
theorem rnd_spec (x d : Int) (hd : 1 ≤ d) : 2 * (rnd x d * d - x) ≤ d ∧ -2 * (rnd x d * d - x) ≤ d := by
  unfold rnd
  split
  · have e := Int.mul_ediv_add_emod (2 * -x + d) (2 * d)
    have e0 := Int.emod_nonneg (2 * -x + d) (show 2 * d ≠ 0 by omega)
    have e1 := Int.emod_lt_of_pos (2 * -x + d) (show 0 < 2 * d by omega)
    generalize (2 * -x + d) / (2 * d) = q at *
    rw [Int.mul_assoc, Int.mul_comm d q] at e
    rw [Int.neg_mul]
    omega
  · have e := Int.mul_ediv_add_emod (2 * x + d) (2 * d)
    have e0 := Int.emod_nonneg (2 * x + d) (show 2 * d ≠ 0 by omega)
    have e1 := Int.emod_lt_of_pos (2 * x + d) (show 0 < 2 * d by omega)
    generalize (2 * x + d) / (2 * d) = q at *
    rw [Int.mul_assoc, Int.mul_comm d q] at e
    omega
theorem q_bd (y d : Int) (hy : 0 ≤ y) (hd : 1 ≤ d) : 0 ≤ (2 * y + d) / (2 * d) ∧ (2 * y + d) / (2 * d) ≤ y + 1 := by
  refine ⟨Int.ediv_nonneg (by omega) (by omega), Int.ediv_le_of_le_mul (by omega) ?_⟩
  have h1 : y * 1 ≤ y * d := Int.mul_le_mul_of_nonneg_left hd hy
  rw [Int.add_mul, Int.one_mul, Int.mul_left_comm]
  omega
theorem rnd_bd (x d B : Int) (hd : 1 ≤ d) (h : -B ≤ x ∧ x ≤ B) : -(B + 1) ≤ rnd x d ∧ rnd x d ≤ B + 1 := by
  unfold rnd
  split
  · have := q_bd (-x) d (by omega) hd
    omega
  · have := q_bd x d (by omega) hd
    omega
theorem prod_le {a b : Int} (ha : Amt a) (hb : Amt b) : -1000000000000000000 ≤ a * b ∧ a * b ≤ 1000000000000000000 := by
  unfold Amt at *
  have h1 : (a * b).natAbs ≤ 1000000000 * 1000000000 := by
    rw [Int.natAbs_mul]
    exact Nat.mul_le_mul (by omega) (by omega)
  omega
/-- What Scale returns. -/
def scaleF (c n d : Int) : Int × Int := if Amt c ∧ Vld n d then (if Amt (rnd (c * n) d) then (rnd (c * n) d, 0) else (0, 3)) else (0, 1)
theorem scale_eq (k : Nat) (c n d : Int) : money_Scale.f (k + 1) c n d = some (scaleF c n d) := by
  unfold money_Scale.f scaleF
  rw [amt_f, Option.bind_some]
  by_cases hc : Amt c
  · rw [decide_eq_true hc, if_pos rfl, valid_eq, Option.bind_some]
    by_cases hv : Vld n d
    · rw [decide_eq_true hv, if_pos (show Amt c ∧ Vld n d from ⟨hc, hv⟩)]
      have hv' := hv
      unfold Vld at hv'
      have hp := prod_le hc (show Amt n from ⟨hv'.2.2.1, hv'.2.2.2.1⟩)
      have hd : 1 ≤ d ∧ d ≤ 1000000000 := ⟨hv'.1, hv'.2.1⟩
      have hsp := rnd_spec (c * n) d hd.1
      simp only [money_Scale.j0, Bool.not_true, Bool.false_eq_true, if_false]
      generalize c * n = x at *
      have w1 : wrap64 x = x := wrap_ok (by omega) (by omega)
      have w2 : wrap64 (2 * d) = 2 * d := wrap_ok (by omega) (by omega)
      have w3 : wrap64 (2 * x) = 2 * x := wrap_ok (by omega) (by omega)
      have w4 : wrap64 (-d) = -d := wrap_ok (by omega) (by omega)
      have w5 : wrap64 (2 * x + d) = 2 * x + d := wrap_ok (by omega) (by omega)
      have w6 : wrap64 (2 * x + -d) = 2 * x + -d := wrap_ok (by omega) (by omega)
      simp only [w1, w2, w3, w4, w5, w6]
      have hb := rnd_bd x d 1000000000000000000 hd.1 hp
      by_cases hx : x < 0
      · rw [if_pos hx, if_neg (by omega)]
        have e : Int.tdiv (2 * x + -d) (2 * d) = rnd x d := by
          unfold rnd
          rw [if_pos hx, show 2 * x + -d = -(2 * -x + d) by omega, Int.neg_tdiv, Int.tdiv_eq_ediv_of_nonneg (by omega)]
        rw [e, wrap_ok (by omega) (by omega), amt_f, Option.bind_some]
        by_cases ha : Amt (rnd x d)
        · rw [decide_eq_true ha, if_pos rfl, if_pos ha]
        · rw [decide_eq_false ha, if_neg (by decide), if_neg ha]
      · rw [if_neg hx, if_neg (by omega)]
        have e : Int.tdiv (2 * x + d) (2 * d) = rnd x d := by
          unfold rnd
          rw [if_neg hx, Int.tdiv_eq_ediv_of_nonneg (by omega)]
        rw [e, wrap_ok (by omega) (by omega), amt_f, Option.bind_some]
        by_cases ha : Amt (rnd x d)
        · rw [decide_eq_true ha, if_pos rfl, if_pos ha]
        · rw [decide_eq_false ha, if_neg (by decide), if_neg ha]
    · rw [decide_eq_false hv, if_neg (show ¬ (Amt c ∧ Vld n d) from fun h => hv h.2)]
      simp only [money_Scale.j0, Bool.not_false, if_true]
  · rw [decide_eq_false hc, if_neg (by decide), if_neg (show ¬ (Amt c ∧ Vld n d) from fun h => hc h.1)]
    simp only [money_Scale.j0, if_true]
end Go.Proofs.YtcbhaoaameiacaaDoor.Pure

/- Amounts as strings: what Text writes and what Parse reads, as lists of bytes. No Go and no memory in it. -/
namespace Go.Proofs.YtcbhaoaameiacaaDoor.Pure
open Go.RowKit Go.Proofs.YtcbhaoaameiacaaDoor.X Go.Proofs.YtcbhaoaameiacaaDoorW.PrintWords

/-- A digit's byte. -/
def IsDig (c : UInt8) : Prop := 48 ≤ c.toNat ∧ c.toNat ≤ 57
def dg (d : Nat) : UInt8 := UInt8.ofNat (48 + d)
theorem starts_iff (s : ByteArray) (c : UInt8) : startsB s c = true ↔ ∃ r, s.toList = c :: r := by
  unfold startsB
  rw [Bool.and_eq_true, decide_eq_true_iff, beq_iff_eq, ba_extract, ba_size]
  cases s.toList with
  | nil => simp
  | cons x r =>
    simp only [List.length_cons, List.take_succ_cons, List.take_zero, List.drop_zero]
    constructor
    · rintro ⟨_, h⟩
      simp only [List.cons.injEq, and_true] at h
      exact ⟨r, by rw [h]⟩
    · rintro ⟨r', h⟩
      simp only [List.cons.injEq] at h
      rw [h.1]
      exact ⟨by omega, rfl⟩
theorem index_spec : ∀ (l : List UInt8) (c : UInt8), 0 ≤ Lib.indexByte l c → l = l.take (Lib.indexByte l c).toNat ++ c :: l.drop ((Lib.indexByte l c).toNat + 1)
  | [], c, h => by simp [Lib.indexByte] at h
  | b :: l, c, h => by
    simp only [Lib.indexByte] at h ⊢
    split
    · rename_i hb
      simp_all
    · rename_i hb
      rw [if_neg hb] at h
      split
      · rename_i h2
        rw [if_pos h2] at h
        omega
      · rename_i h2
        rw [if_neg h2] at h
        have h0 : 0 ≤ Lib.indexByte l c := by
          have h3 := Lib.indexByte_ge l c
          have h4 : ¬ Lib.indexByte l c = -1 := fun e => h2 (beq_iff_eq.mpr e)
          omega
        have ih := index_spec l c h0
        have e : (Lib.indexByte l c + 1).toNat = (Lib.indexByte l c).toNat + 1 := by omega
        rw [e, List.take_succ_cons, List.drop_succ_cons, List.cons_append, ← ih]
theorem cut_yes {t a b : ByteArray} {c : UInt8} (h : cutAt t c = (a, b, true)) : t.toList = a.toList ++ c :: b.toList := by
  unfold cutAt at h
  split at h
  · rename_i h0
    simp only [Prod.mk.injEq, and_true] at h
    obtain ⟨rfl, rfl⟩ := h
    have := index_spec t.data.toList c h0
    rw [ba_extract, ba_extract, ba_size, List.take_length, ba_toList, List.drop_zero]
    exact this
  · simp at h
theorem cut_at {t : ByteArray} {c : UInt8} {x y : List UInt8} (h : t.toList = x ++ c :: y) (hx : ∀ b ∈ x, b ≠ c) : ∃ a b, cutAt t c = (a, b, true) ∧ a.toList = x ∧ b.toList = y := by
  have hidx : Lib.indexByte t.data.toList c = x.length := by
    rw [← ba_toList, h]
    exact index_at _ _ _ hx
  refine ⟨t.extract 0 x.length, t.extract (x.length + 1) t.size, ?_, ?_, ?_⟩
  · unfold cutAt
    rw [hidx, if_pos (by omega)]
    rfl
  · rw [ba_extract, h]
    simp
  · rw [ba_extract, ba_size, List.take_length, h, show x ++ c :: y = (x ++ [c]) ++ y by simp, List.drop_append_of_le_length (by simp)]
    simp
theorem idx_digits (s : ByteArray) : ∀ (f pos : Nat), s.size ≤ pos + f → (Lib.idxFuncFrom noDig true s f pos = -1 ↔ ∀ i, pos ≤ i → (h : i < s.size) → IsDig s[i])
  | 0, pos, h => by
    constructor
    · intro _ i h1 h2
      omega
    · intro _
      rfl
  | f + 1, pos, h => by
    rw [Lib.idxFuncFrom]
    by_cases hp : pos < s.size
    · rw [if_pos hp]
      by_cases ha : (s[pos]'hp).toNat < 128
      · rw [decode_ascii s pos hp ha]
        simp only
        by_cases hd : noDig (s[pos]'hp).toNat = true
        · rw [if_pos hd]
          constructor
          · intro h1
            omega
          · intro h1
            have h2 := h1 pos (Nat.le_refl _) hp
            unfold noDig at hd
            unfold IsDig at h2
            simp at hd
            omega
        · rw [if_neg hd, idx_digits s f (pos + 1) (by omega)]
          constructor
          · intro h1 i h2 h3
            rcases Nat.eq_or_lt_of_le h2 with h4 | h4
            · subst h4
              unfold noDig at hd
              unfold IsDig
              simp at hd
              omega
            · exact h1 i h4 h3
          · intro h1 i h2 h3
            exact h1 i (by omega) h3
      · have h2 := decode_high s pos hp (by omega)
        have hd : noDig (Utf8.decode s pos).1 = true := by
          unfold noDig
          simp
          omega
        rw [if_pos hd]
        constructor
        · intro h1
          omega
        · intro h1
          have h2 := h1 pos (Nat.le_refl _) hp
          unfold IsDig at h2
          omega
    · rw [if_neg hp]
      constructor
      · intro _ i h1 h2
        omega
      · intro _
        rfl
theorem bad_iff (s : ByteArray) : badDig s = false ↔ ∀ c ∈ s.toList, IsDig c := by
  have h := idx_digits s s.size 0 (by omega)
  have hr := Lib.idxFunc_range noDig true s
  unfold badDig
  rw [decide_eq_false_iff_not]
  have e : Lib.idxFunc noDig true s = Lib.idxFuncFrom noDig true s s.size 0 := rfl
  rw [e] at hr ⊢
  have h1 : ¬ 0 ≤ Lib.idxFuncFrom noDig true s s.size 0 ↔ Lib.idxFuncFrom noDig true s s.size 0 = -1 := by omega
  rw [h1, h, ba_toList]
  constructor
  · intro h2 c hc
    obtain ⟨i, hi, rfl⟩ := List.getElem_of_mem hc
    exact h2 i (Nat.zero_le _) (by simpa using hi)
  · intro h2 i _ hi
    exact h2 _ (by
      have : i < s.data.toList.length := by simpa using hi
      exact List.getElem_mem this)
end Go.Proofs.YtcbhaoaameiacaaDoor.Pure

/- Amounts as strings: what Text writes is read by Parse, and what Parse reads is what Text writes. No Go and no memory in it. -/
namespace Go.Proofs.YtcbhaoaameiacaaDoor.Pure
open Go.RowKit Go.Proofs.YtcbhaoaameiacaaDoor.X Go.Proofs.YtcbhaoaameiacaaDoorW.PrintWords

theorem two_digits (r : Nat) (h : r < 100) : Lib.decDigits (100 + r) = [49, dg (r / 10), dg (r % 10)] := by
  have := (by decide +kernel : ∀ p : Fin 100, Lib.decDigits (100 + p.val) = [49, UInt8.ofNat (48 + p.val / 10), UInt8.ofNat (48 + p.val % 10)]) ⟨r, h⟩
  exact this
def textL (c : Int) : List UInt8 := (if c < 0 then [45] else []) ++ (Lib.decDigits (c.natAbs / 100) ++ 46 :: [dg (c.natAbs % 100 / 10), dg (c.natAbs % 100 % 10)])
theorem itoa_eq (n : Int) (h : inI64 n) : strconv_Itoa.f n = some ⟨(Lib.itoa n).toArray⟩ := by
  unfold strconv_Itoa.f
  rw [if_pos h]
theorem itoa_size (n : Int) (h : inI64 n) : (ByteArray.mk (Lib.itoa n).toArray).size ≤ 21 := by
  rw [ba_size, ba_mk]
  exact Lib.itoa_length_le n h.1 h.2
/-- The parts of what Text writes. -/
theorem text_parts (m : Nat) (hm : m ≤ 1000000000) : ∃ a b : ByteArray, strconv_Itoa.f (wrap64 (100 + (Int.tmod (m : Int) 100))) = some b ∧ strconv_Itoa.f (wrap64 (Int.tdiv (m : Int) 100)) = some a ∧ a.size ≤ 21 ∧ b.size ≤ 21 ∧ 1 ≤ (b.size : Int) ∧ a.toList = Lib.decDigits (m / 100) ∧ (b.extract 1 b.size).toList = [dg (m % 100 / 10), dg (m % 100 % 10)] := by
  have e1 : Int.tmod (m : Int) 100 = ((m % 100 : Nat) : Int) := (Int.ofNat_tmod m 100).symm
  have e2 : Int.tdiv (m : Int) 100 = ((m / 100 : Nat) : Int) := (Int.ofNat_tdiv m 100).symm
  have w1 : wrap64 (100 + ((m % 100 : Nat) : Int)) = ((100 + m % 100 : Nat) : Int) := by unfold wrap64; omega
  have w2 : wrap64 (((m / 100 : Nat) : Int)) = ((m / 100 : Nat) : Int) := by unfold wrap64; omega
  have i1 : inI64 ((100 + m % 100 : Nat) : Int) := by unfold inI64; omega
  have i2 : inI64 ((m / 100 : Nat) : Int) := by unfold inI64; omega
  rw [e1, e2, w1, w2, itoa_eq _ i1, itoa_eq _ i2]
  have hb : (ByteArray.mk (Lib.itoa ((100 + m % 100 : Nat) : Int)).toArray).toList = [49, dg (m % 100 / 10), dg (m % 100 % 10)] := by
    rw [ba_mk, Lib.itoa_nonneg, two_digits _ (by omega)]
  refine ⟨_, _, rfl, rfl, itoa_size _ i2, itoa_size _ i1, ?_, ?_, ?_⟩
  · rw [ba_size, hb]
    show (1 : Int) ≤ ((3 : Nat) : Int)
    omega
  · rw [ba_mk, Lib.itoa_nonneg]
  · rw [ba_extract, ba_size, List.take_length, hb]
    rfl
theorem text_f (c : Int) (h : Amt c) : ∃ t, money_Text.f c = some (t, 0) ∧ t.toList = textL c := by
  unfold money_Text.f
  rw [amt_f, Option.bind_some, decide_eq_true h, if_pos rfl]
  have h' := h
  unfold Amt at h'
  have e46 : (ByteArray.mk #[46]).toList = [46] := by rw [ba_toList]
  have e45 : (ByteArray.mk #[45]).toList = [45] := by rw [ba_toList]
  have e0 : (ByteArray.mk #[]).toList = [] := by rw [ba_toList]
  obtain ⟨a, b, h1, h2, h3, h4, h5, h6, h7⟩ := text_parts c.natAbs (by omega)
  by_cases hc : c < 0
  · have w : wrap64 (-c) = (c.natAbs : Int) := by unfold wrap64; omega
    rw [if_pos hc, w, h1, Option.bind_some, h2, Option.bind_some, if_pos (by omega), if_pos (by omega), if_pos h5, if_pos (by omega)]
    refine ⟨_, rfl, ?_⟩
    unfold textL
    rw [if_pos hc, ba_append, ba_append, ba_append, e45, e46, h6, h7]
    simp
  · have w : c = (c.natAbs : Int) := by omega
    rw [if_neg hc]
    rw [← w] at h1 h2
    rw [h1, Option.bind_some, h2, Option.bind_some, if_pos (by omega), if_pos (by omega), if_pos h5, if_pos (by omega)]
    refine ⟨_, rfl, ?_⟩
    unfold textL
    rw [if_neg hc, ba_append, ba_append, ba_append, e0, e46, h6, h7]
    simp
theorem text_no (c : Int) (h : ¬ Amt c) : money_Text.f c = some (⟨#[]⟩, 1) := by
  unfold money_Text.f
  rw [amt_f, Option.bind_some, decide_eq_false h, if_neg (by decide)]
theorem atoi_digits {l : List UInt8} {u : Nat} (hl : l ≠ []) (hd : ∀ c ∈ l, IsDig c) (h : Lib.parseUint10 0 l = .ok u) (hu : u < 9223372036854775808) : Lib.atoiAll l = .ok (u : Int) := by
  cases l with
  | nil => exact absurd rfl hl
  | cons c r =>
    have hc := hd c (by simp)
    unfold IsDig at hc
    rw [Lib.atoiAll_plain c r (by omega) (by omega)]
    have hm : Lib.parseMag (c :: r) = .ok u := by
      unfold Lib.parseMag
      rw [if_neg (by simp)]
      exact h
    rw [hm]
    unfold Lib.signless
    simp only
    rw [if_neg (by omega)]
end Go.Proofs.YtcbhaoaameiacaaDoor.Pure

/- What money.Parse reads off the parts of a text. No Go and no memory in it. -/
namespace Go.Proofs.YtcbhaoaameiacaaDoor.Pure
open Go.RowKit Go.Proofs.YtcbhaoaameiacaaDoor.X Go.Proofs.YtcbhaoaameiacaaDoorW.PrintWords
theorem dec_len (u : Nat) (h : u ≤ 10000000) : (Lib.decDigits u).length ≤ 8 := by
  rw [Lib.decDigits_length]
  by_cases h8 : u < 10 ^ 8
  · by_cases hc : Lib.nDigits u ≤ 8
    · exact hc
    · exfalso
      have key : ∀ (k v : Nat), v < 10 ^ (k + 1) → Lib.nDigits v ≤ k + 1 := by
        intro k
        induction k with
        | zero =>
          intro v hv
          rw [Lib.nDigits_small (by omega)]
          omega
        | succ k ih =>
          intro v hv
          by_cases hv10 : v < 10
          · rw [Lib.nDigits_small hv10]
            omega
          · rw [Lib.nDigits_big hv10]
            have := ih (v / 10) (by rw [Nat.pow_succ] at hv; omega)
            omega
      exact hc (key 7 u h8)
  · exfalso
    have : (10 : Nat) ^ 8 = 100000000 := by decide
    omega
/-- What is read off the parts. -/
theorem parse_at (s a b : ByteArray) (hs : s.size ≤ 140737488351232) (hc : cutAt (trimB s 45) 46 = (a, b, true)) (ha : a.toList ≠ []) (hb : b.size = 2) (hd : badDig (a ++ b) = false) (h0 : a.toList.head? = some 48 → a.toList = [48]) (h9 : a.size ≤ 9) (v : Int) (hv : Lib.atoiAll (a ++ b).data.toList = .ok v) :
    money_Parse.f s = if startsB s 45 = true then (if v = 0 then some (0, 8) else if 1000000000 < v then some (0, 3) else if 0 ≤ v then some (-v, 0) else none) else (if 1000000000 < v then some (0, 3) else some (v, 0)) := by
  unfold money_Parse.f
  rw [if_pos hs, hc]
  simp only
  rw [if_neg (by decide), if_neg (by simp [ha]), if_neg (by omega), hd, if_neg (by decide), if_neg ?_, if_neg (by omega), hv]
  rintro ⟨h1, h2⟩
  rw [← ba_toList] at h1
  rw [h0 h1] at h2
  simp at h2
end Go.Proofs.YtcbhaoaameiacaaDoor.Pure

/- The reference of money: sums, and how amounts are written, as money does. No Go and no memory in it. -/
namespace Go.Proofs.YtcbhaoaameiacaaDoor.Pure
open Go.RowKit Go.Proofs.YtcbhaoaameiacaaDoor.X Go.Proofs.YtcbhaoaameiacaaDoorW.PrintWords
set_option linter.unusedVariables false
theorem upM (i : Nat) (h : i ≤ 1000000) : wrap64 ((i : Int) + 1) = ((i + 1 : Nat) : Int) := by unfold wrap64; omega
theorem ref_add_loop (l : List Int) (hl : l.length ≤ 1000) : ∀ (m k i : Nat) (s : Int), l.length - i ≤ m → m < k → i ≤ l.length → cohousingref02_Add.l0 k l s (i : Int) = some (addF s (l.drop i))
  | m, 0, i, s, h1, h2, h3 => absurd h2 (Nat.not_lt_zero _)
  | m, k + 1, i, s, h1, h2, h3 => by
    rw [cohousingref02_Add.l0]
    by_cases hi : i < l.length
    · have e : rd l (i : Int) = l[i] := by unfold rd; simp [hi]
      rw [if_pos (by omega), if_pos (by omega), ref_amt, Option.bind_some, List.drop_eq_getElem_cons hi, addF, e]
      by_cases ha : Amt l[i]
      · rw [decide_eq_true ha, if_pos rfl, if_pos ha, upM i (by omega)]
        obtain ⟨m', rfl⟩ : ∃ m', m = m' + 1 := ⟨m - 1, by omega⟩
        exact ref_add_loop l hl m' k (i + 1) _ (by omega) (by omega) (by omega)
      · rw [decide_eq_false ha, if_neg (by decide), if_neg ha]
    · rw [if_neg (by omega), ref_amt, Option.bind_some, List.drop_of_length_le (by omega), addF]
      by_cases ha : Amt s
      · rw [decide_eq_true ha, if_pos rfl, if_pos ha]
      · rw [decide_eq_false ha, if_neg (by decide), if_neg ha]
theorem ref_add (l : List Int) (hl : l.length ≤ 1000) (k : Nat) (hk : l.length < k) : cohousingref02_Add.f k l = some (addF 0 l) := by
  have h := ref_add_loop l hl l.length k 0 0 (by omega) hk (by omega)
  rw [List.drop_zero] at h
  exact h
theorem same_loop (l : List Int) (hl : l.length ≤ 1000) : ∀ (j i k : Nat), i + j = l.length → j < k → cohousingref02_Same.l0 k l l (i : Int) = some true := by
  intro j
  induction j with
  | zero =>
    intro i k hi hk
    obtain ⟨k, rfl⟩ : ∃ n, k = n + 1 := ⟨k - 1, by omega⟩
    rw [cohousingref02_Same.l0, if_neg (by omega)]
  | succ j ih =>
    intro i k hi hk
    obtain ⟨k, rfl⟩ : ∃ n, k = n + 1 := ⟨k - 1, by omega⟩
    rw [cohousingref02_Same.l0, if_pos (by omega), if_pos (by omega), if_pos (by omega), if_pos rfl, upM i (by omega)]
    exact ih (i + 1) k (by omega) (by omega)
theorem same_self (l : List Int) (hl : l.length ≤ 1000) (k : Nat) (hk : l.length < k) : cohousingref02_Same.f k l l = some true := by
  unfold cohousingref02_Same.f
  rw [if_pos rfl]
  exact same_loop l hl l.length 0 k (by omega) hk
/-! ### digits -/
theorem dec_steps (n : Nat) : Lib.decDigits n = (if n ≥ 10 then Lib.decDigits (n / 10) else []) ++ [dg (n % 10)] := by
  rw [Lib.decDigits]
  by_cases h : n < 10
  · rw [dif_pos h, if_neg (by omega), Nat.mod_eq_of_lt h]
    rfl
  · rw [dif_neg h, if_pos (by omega)]
    rfl
theorem str_list (l : List Int) : (strOfNums l).toList = l.map (fun n => UInt8.ofNat n.toNat) := by rw [ba_toList]; rfl
theorem byte_of (d : Nat) (h : d < 10) : wrap64 (48 + (d : Int)) % 256 = ((48 + d : Nat) : Int) := by
  rw [wrap_ok (by omega) (by omega)]
  omega
theorem ref_dig : ∀ (m k n : Nat) (s : ByteArray), m ≤ k → n < 10 ^ (m + 1) → s.size + m ≤ 1000 → n ≤ 1000000000 → ∃ t, cohousingref02_digits.l0 (k + 1) (n : Int) s = some t ∧ t.toList = (if n ≥ 10 then Lib.decDigits (n / 10) else []) ++ s.toList
  | 0, k, n, s, _, h, _, _ => by
    refine ⟨s, ?_, ?_⟩
    · rw [cohousingref02_digits.l0, if_neg (by omega)]
    · rw [if_neg (by omega)]
      rfl
  | m + 1, k, n, s, hk, h, hs, hn => by
    by_cases h10 : n ≥ 10
    · obtain ⟨k, rfl⟩ : ∃ j, k = j + 1 := ⟨k - 1, by omega⟩
      have e1 : wrap64 (Int.tdiv (n : Int) 10) = ((n / 10 : Nat) : Int) := by
        rw [show (10 : Int) = ((10 : Nat) : Int) from rfl, ← Int.ofNat_tdiv]
        exact wrap_ok (by omega) (by omega)
      have e2 : Int.tmod (((n / 10 : Nat)) : Int) 10 = ((n / 10 % 10 : Nat) : Int) := by
        rw [show (10 : Int) = ((10 : Nat) : Int) from rfl, ← Int.ofNat_tmod]
      have hz : (strOfNums [((48 + n / 10 % 10 : Nat) : Int)]).size = 1 := by rw [strOfNums_size]; rfl
      obtain ⟨t, h1, h2⟩ := ref_dig m k (n / 10) (strOfNums [((48 + n / 10 % 10 : Nat) : Int)] ++ s) (by omega) (by rw [Nat.pow_succ] at h; omega) (by rw [ByteArray.size_append, hz]; omega) (by omega)
      refine ⟨t, ?_, ?_⟩
      · rw [cohousingref02_digits.l0, if_pos (by omega), Option.bind_some, e1, e2, byte_of _ (by omega), if_pos (by rw [hz]; omega), h1]
      · rw [if_pos h10, h2, ba_append, str_list, dec_steps (n / 10), List.append_assoc]
        rfl
    · refine ⟨s, ?_, ?_⟩
      · rw [cohousingref02_digits.l0, if_neg (by omega)]
      · rw [if_neg h10]
        rfl
theorem ref_digits (k n : Nat) (hk : 20 ≤ k) (hn : n ≤ 1000000000) : ∃ t, cohousingref02_digits.f k (n : Int) = some t ∧ t.toList = Lib.decDigits n := by
  obtain ⟨k, rfl⟩ : ∃ j, k = j + 1 := ⟨k - 1, by omega⟩
  have e2 : Int.tmod (n : Int) 10 = ((n % 10 : Nat) : Int) := by rw [show (10 : Int) = ((10 : Nat) : Int) from rfl, ← Int.ofNat_tmod]
  have hz : (strOfNums [((48 + n % 10 : Nat) : Int)]).size = 1 := by rw [strOfNums_size]; rfl
  have hp : (10 : Nat) ^ (9 + 1) = 10000000000 := by decide
  obtain ⟨t, h1, h2⟩ := ref_dig 9 k n (strOfNums [((48 + n % 10 : Nat) : Int)]) (by omega) (by omega) (by rw [hz]; decide) hn
  refine ⟨t, ?_, ?_⟩
  · unfold cohousingref02_digits.f
    rw [e2, byte_of _ (by omega), h1]
  · rw [h2, str_list, dec_steps n]
    rfl
theorem two_bytes (m : Nat) : (strOfNums [((48 + m / 10 % 10 : Nat) : Int), ((48 + m % 10 : Nat) : Int)]).toList = [dg (m % 100 / 10), dg (m % 100 % 10)] := by
  rw [str_list]
  have e1 : m / 10 % 10 = m % 100 / 10 := by omega
  have e2 : m % 10 = m % 100 % 10 := by omega
  rw [← e1, ← e2]
  rfl
/-- An amount, written by the reference. -/
theorem ref_text (c : Int) (h : Amt c) (k : Nat) (hk : 20 ≤ k) : ∃ t, cohousingref02_Text.f k c = some (t, 0) ∧ t.toList = textL c := by
  have h' := h
  unfold Amt at h'
  obtain ⟨m, hm⟩ : ∃ m : Nat, c.natAbs = m := ⟨_, rfl⟩
  have hm1 : m ≤ 1000000000 := by omega
  obtain ⟨t, h1, h2⟩ := ref_digits k (m / 100) hk (by omega)
  have hlen := dec_len (m / 100) (by omega)
  have hts : t.size ≤ 8 := by rw [ba_size, h2]; exact hlen
  have e1 : wrap64 (Int.tdiv (m : Int) 100) = ((m / 100 : Nat) : Int) := by
    rw [show (100 : Int) = ((100 : Nat) : Int) from rfl, ← Int.ofNat_tdiv]
    exact wrap_ok (by omega) (by omega)
  have e2 : wrap64 (Int.tdiv (m : Int) 10) = ((m / 10 : Nat) : Int) := by
    rw [show (10 : Int) = ((10 : Nat) : Int) from rfl, ← Int.ofNat_tdiv]
    exact wrap_ok (by omega) (by omega)
  have e3 : Int.tmod (((m / 10 : Nat)) : Int) 10 = ((m / 10 % 10 : Nat) : Int) := by rw [show (10 : Int) = ((10 : Nat) : Int) from rfl, ← Int.ofNat_tmod]
  have e4 : Int.tmod (m : Int) 10 = ((m % 10 : Nat) : Int) := by rw [show (10 : Int) = ((10 : Nat) : Int) from rfl, ← Int.ofNat_tmod]
  have hz : (strOfNums [((48 + m / 10 % 10 : Nat) : Int), ((48 + m % 10 : Nat) : Int)]).size = 2 := by rw [strOfNums_size]; rfl
  have l45 : (⟨#[45]⟩ : ByteArray).toList = [45] := ba_mk [45]
  have l46 : (⟨#[46]⟩ : ByteArray).toList = [46] := ba_mk [46]
  have l0 : (⟨#[]⟩ : ByteArray).toList = [] := ba_mk []
  unfold cohousingref02_Text.f
  rw [ref_amt, Option.bind_some, decide_eq_true h, if_pos rfl]
  by_cases hc : c < 0
  · have ec : wrap64 (-c) = (m : Int) := by rw [wrap_ok (by omega) (by omega)]; omega
    rw [if_pos hc, ec, e1, h1, Option.bind_some, if_pos (by omega), if_pos (by omega), e2, e3, e4, byte_of _ (by omega), byte_of _ (by omega), Option.bind_some, if_pos (by rw [hz]; omega)]
    refine ⟨_, rfl, ?_⟩
    unfold textL
    rw [if_pos hc, hm, ba_append, ba_append, ba_append, l45, l46, h2, two_bytes]
    simp
  · have ec : c = (m : Int) := by omega
    rw [if_neg hc, ec, e1, h1, Option.bind_some, if_pos (by omega), if_pos (by omega), e2, e3, e4, byte_of _ (by omega), byte_of _ (by omega), Option.bind_some, if_pos (by rw [hz]; omega)]
    refine ⟨_, rfl, ?_⟩
    unfold textL
    rw [if_neg (by omega), Int.natAbs_natCast, ba_append, ba_append, ba_append, l0, l46, h2, two_bytes]
    simp
theorem ref_text_no (c : Int) (h : ¬ Amt c) (k : Nat) : cohousingref02_Text.f k c = some (⟨#[]⟩, 1) := by
  unfold cohousingref02_Text.f
  rw [ref_amt, Option.bind_some, decide_eq_false h, if_neg (by decide)]
end Go.Proofs.YtcbhaoaameiacaaDoor.Pure

/- The reference reads amounts as money does. No Go and no memory in it. -/
namespace Go.Proofs.YtcbhaoaameiacaaDoor.Pure
open Go.RowKit Go.Proofs.YtcbhaoaameiacaaDoor.X Go.Proofs.YtcbhaoaameiacaaDoorW.PrintWords
set_option linter.unusedVariables false
instance (c : UInt8) : Decidable (IsDig c) := by unfold IsDig; exact inferInstance
/-- What a number with a sign is. -/
def finF (neg : Bool) (v : Nat) : Int × Int := if neg = true ∧ v = 0 then (0, 8) else if 1000000000 < v then (0, 3) else ((if neg = true then -(v : Int) else (v : Int)), 0)
def stepN (n : Nat) (c : UInt8) : Nat := if n ≤ 1000000000 then n * 10 + (c.toNat - 48) else n
/-- The reference's loop: the bytes that are left, from an index on. -/
def runF (neg : Bool) (p : Nat) : Nat → Nat → List UInt8 → Int × Int
  | _, n, [] => finF neg n
  | i, n, c :: r => if i = p then runF neg p (i + 1) n r else if IsDig c then runF neg p (i + 1) (stepN n c) r else (0, 8)
def sgnOf (neg : Bool) : Int := if neg = true then -1 else 1
theorem bt_drop (t : ByteArray) (i : Nat) (h : i < t.size) : t.toList.drop i = t[i] :: t.toList.drop (i + 1) ∧ bt t (i : Int) = (t[i].toNat : Int) := by
  have hl : i < t.toList.length := by rw [← ba_size]; exact h
  have hg : t.toList[i] = t[i] := by
    have : ∀ (l : List UInt8) (e : t.data.toList = l) (hi : i < l.length), l[i] = t[i] := by
      rintro l rfl hi
      rfl
    exact this t.toList (ba_toList t).symm hl
  refine ⟨by rw [List.drop_eq_getElem_cons hl, hg], ?_⟩
  unfold bt
  rw [dif_pos (show ((i : Int)).toNat < t.size by omega)]
  rfl
theorem byte_lt (c : UInt8) : c.toNat < 256 := c.toNat_lt
theorem fin_j5 (k : Nat) (neg : Bool) (n : Nat) (hn : n ≤ 20000000000) : cohousingref02_Parse.j5 (k + 1) (sgnOf neg) (n : Int) (neg && decide (n = 0)) = some (finF neg n) := by
  rw [cohousingref02_Parse.j5]
  cases neg with
  | true =>
    have es : sgnOf true = -1 := rfl
    rw [es]
    by_cases h0 : n = 0
    · have ef : finF true n = (0, 8) := by unfold finF; rw [if_pos ⟨rfl, h0⟩]
      rw [ef, Bool.true_and, decide_eq_true h0, if_pos rfl]
    · have e0 : ¬ (true = true ∧ n = 0) := fun q => h0 q.2
      rw [Bool.true_and, decide_eq_false h0, if_neg (by decide)]
      by_cases h1 : 1000000000 < n
      · have ef : finF true n = (0, 3) := by unfold finF; rw [if_neg e0, if_pos h1]
        rw [ef, if_pos (by omega)]
      · have ef : finF true n = (-(n : Int), 0) := by unfold finF; rw [if_neg e0, if_neg h1, if_pos rfl]
        rw [ef, if_neg (by omega), wrap_ok (by omega) (by omega)]
        congr 2
        omega
  | false =>
    have es : sgnOf false = 1 := rfl
    have e0 : ¬ (false = true ∧ n = 0) := fun q => by cases q.1
    rw [es, Bool.false_and, if_neg (by decide)]
    by_cases h1 : 1000000000 < n
    · have ef : finF false n = (0, 3) := by unfold finF; rw [if_neg e0, if_pos h1]
      rw [ef, if_pos (by omega)]
    · have ef : finF false n = ((n : Int), 0) := by unfold finF; rw [if_neg e0, if_neg h1, if_neg (by decide)]
      rw [ef, if_neg (by omega), wrap_ok (by omega) (by omega)]
      congr 2
      omega
theorem ref_run (t : ByteArray) (ht : t.size ≤ 1000) (neg : Bool) (p : Nat) : ∀ (j i k n : Nat), i + j = t.size → 2 * j + 2 < k → n ≤ 20000000000 → cohousingref02_Parse.l0 k (sgnOf neg) t (p : Int) (n : Int) (i : Int) = some (runF neg p i n (t.toList.drop i)) := by
  intro j
  induction j with
  | zero =>
    intro i k n hi hk hn
    obtain ⟨k, rfl⟩ : ∃ m, k = m + 2 := ⟨k - 2, by omega⟩
    have hd : t.toList.drop i = [] := List.drop_of_length_le (by rw [← ba_size]; omega)
    rw [cohousingref02_Parse.l0, if_neg (by omega), hd, runF]
    have hf := fin_j5 k neg n hn
    cases neg with
    | true =>
      have e : ((n : Int) == 0) = decide (n = 0) := by
        rw [Bool.eq_iff_iff]
        simp
      rw [if_pos (by unfold sgnOf; rw [if_pos rfl]; decide), e]
      rw [Bool.true_and] at hf
      exact hf
    | false =>
      rw [if_neg (by unfold sgnOf; rw [if_neg (by decide)]; decide)]
      rw [Bool.false_and] at hf
      exact hf
  | succ j ih =>
    intro i k n hi hk hn
    obtain ⟨k, rfl⟩ : ∃ m, k = m + 2 := ⟨k - 2, by omega⟩
    obtain ⟨hd, hb⟩ := bt_drop t i (by omega)
    have hlt := byte_lt t[i]
    rw [cohousingref02_Parse.l0, if_pos (by omega), hd, runF]
    by_cases hp : i = p
    · rw [if_pos (by omega), if_pos hp, upM i (by omega)]
      exact ih (i + 1) (k + 1) n (by omega) (by omega) hn
    · rw [if_neg (by omega), if_neg hp, if_pos (by omega), hb]
      by_cases hdg : IsDig t[i]
      · have hdg' := hdg
        unfold IsDig at hdg'
        have hs : stepN n t[i] ≤ 20000000000 := by unfold stepN; split <;> omega
        rw [if_neg (by omega), decide_eq_false (by omega), if_pos hdg, cohousingref02_Parse.j4, if_neg (by decide)]
        have hnx := ih (i + 1) k (stepN n t[i]) (by omega) (by omega) hs
        by_cases hn1 : n ≤ 1000000000
        · rw [if_pos (by omega), if_pos (by omega), if_pos (by omega), hb, wrap_ok (n := (n : Int) * 10) (by omega) (by omega), upM i (by omega)]
          have e : wrap64 ((n : Int) * 10 + ((t[i].toNat : Int) - 48) % 256) = ((stepN n t[i] : Nat) : Int) := by
            unfold stepN
            rw [if_pos hn1, wrap_ok (by omega) (by omega)]
            omega
          rw [e]
          exact hnx
        · rw [if_neg (by omega), upM i (by omega)]
          have e : stepN n t[i] = n := by unfold stepN; rw [if_neg hn1]
          rw [e] at hnx ⊢
          exact hnx
      · have hdg' := hdg
        unfold IsDig at hdg'
        rw [if_neg hdg]
        by_cases h48 : (t[i].toNat : Int) < 48
        · rw [if_pos h48, cohousingref02_Parse.j4, if_pos rfl]
        · rw [if_neg h48, decide_eq_true (by omega), cohousingref02_Parse.j4, if_pos rfl]
/-! ### lists of bytes -/
def numV (n : Nat) (u : List UInt8) : Nat := u.foldl (fun n c => n * 10 + (c.toNat - 48)) n
def accN (n : Nat) (u : List UInt8) : Nat := u.foldl stepN n
theorem acc_num : ∀ (u : List UInt8) (n m : Nat), (n = m ∨ 1000000000 < n ∧ 1000000000 < m) → (accN n u = numV m u ∨ 1000000000 < accN n u ∧ 1000000000 < numV m u)
  | [], n, m, h => h
  | c :: u, n, m, h => by
    show accN (stepN n c) u = numV (m * 10 + (c.toNat - 48)) u ∨ _
    refine acc_num u _ _ ?_
    unfold stepN
    rcases h with rfl | ⟨h1, h2⟩
    · by_cases hn : n ≤ 1000000000
      · rw [if_pos hn]; exact Or.inl rfl
      · rw [if_neg hn]; exact Or.inr ⟨by omega, by omega⟩
    · rw [if_neg (by omega)]
      exact Or.inr ⟨h1, by omega⟩
theorem fin_acc (neg : Bool) (u : List UInt8) : finF neg (accN 0 u) = finF neg (numV 0 u) := by
  rcases acc_num u 0 0 (Or.inl rfl) with h | ⟨h1, h2⟩
  · rw [h]
  · have a1 : ¬ (neg = true ∧ accN 0 u = 0) := fun q => by omega
    have a2 : ¬ (neg = true ∧ numV 0 u = 0) := fun q => by omega
    unfold finF
    rw [if_neg a1, if_pos h1, if_neg a2, if_pos h2]
theorem run_digits (neg : Bool) (p : Nat) : ∀ (x : List UInt8) (i n : Nat) (r : List UInt8), (∀ c ∈ x, IsDig c) → (i + x.length ≤ p ∨ p < i) → runF neg p i n (x ++ r) = runF neg p (i + x.length) (accN n x) r
  | [], i, n, r, _, _ => rfl
  | c :: x, i, n, r, h, hp => by
    have hlen : (c :: x).length = x.length + 1 := rfl
    rw [List.cons_append, runF, if_neg (by omega), if_pos (h c List.mem_cons_self), run_digits neg p x (i + 1) (stepN n c) r (fun d hd => h d (List.mem_cons_of_mem _ hd)) (by omega), hlen, show i + 1 + x.length = i + (x.length + 1) by omega]
    rfl
theorem run_bad (neg : Bool) (p : Nat) : ∀ (r : List UInt8) (i n : Nat), (∃ j, j < r.length ∧ i + j ≠ p ∧ ∀ c, r[j]? = some c → ¬ IsDig c) → runF neg p i n r = (0, 8)
  | [], i, n, ⟨j, hj, _⟩ => absurd hj (Nat.not_lt_zero _)
  | c :: r, i, n, ⟨j, hj, hp, hb⟩ => by
    rw [runF]
    cases j with
    | zero =>
      have := hb c rfl
      rw [if_neg (by omega), if_neg this]
    | succ j =>
      have ih : ∀ m, runF neg p (i + 1) m r = (0, 8) := fun m => run_bad neg p r (i + 1) m ⟨j, by simpa using hj, by omega, fun d hd => hb d (by simpa using hd)⟩
      split
      · exact ih n
      · split
        · exact ih _
        · rfl
/-- The form of an amount's text without its sign. -/
structure Form (t x y : List UInt8) : Prop where
  eq : t = x ++ 46 :: y
  ne : x ≠ []
  two : y.length = 2
  dx : ∀ c ∈ x, IsDig c
  dy : ∀ c ∈ y, IsDig c
  lead : x.head? = some 48 → x = [48]
theorem ref_j1 (t : ByteArray) (ht : t.size ≤ 1000) (neg : Bool) (k : Nat) (hk : 3000 < k) : (∀ x y, Form t.toList x y → cohousingref02_Parse.j1 k (sgnOf neg) t = some (finF neg (numV 0 (x ++ y)))) ∧ ((¬ ∃ x y, Form t.toList x y) → cohousingref02_Parse.j1 k (sgnOf neg) t = some (0, 8)) := by
  obtain ⟨k, rfl⟩ : ∃ m, k = m + 2 := ⟨k - 2, by omega⟩
  have hsz := ba_size t
  have hw : wrap64 ((t.size : Int) - 3) = (t.size : Int) - 3 := wrap_ok (by omega) (by omega)
  have hlast : ∀ p : Nat, t.size = p + 3 → t.toList = t.toList.take p ++ (t.toList.drop p) := fun p _ => (List.take_append_drop p _).symm
  rw [cohousingref02_Parse.j1, hw]
  by_cases h4 : (t.size : Int) - 3 < 1
  · refine ⟨fun x y hf => ?_, fun _ => ?_⟩
    · exfalso
      have := congrArg List.length hf.eq
      rw [List.length_append, List.length_cons, hf.two, ← hsz] at this
      have := List.length_pos_iff.mpr hf.ne
      omega
    · rw [if_pos h4, cohousingref02_Parse.j2, if_pos rfl]
  rw [if_neg h4, if_pos (by omega), if_pos (by omega)]
  obtain ⟨p, hp⟩ : ∃ p : Nat, t.size = p + 3 := ⟨t.size - 3, by omega⟩
  have ep : (t.size : Int) - 3 = (p : Int) := by omega
  rw [ep]
  obtain ⟨hdp, hbp⟩ := bt_drop t p (by omega)
  obtain ⟨hd0, hb0⟩ := bt_drop t 0 (by omega)
  rw [List.drop_zero] at hd0
  have e00 : ((0 : Nat) : Int) = 0 := rfl
  rw [e00] at hb0
  have h46 : (46 : UInt8).toNat = 46 := rfl
  have h48 : (48 : UInt8).toNat = 48 := rfl
  have htl : (t.toList.take p).length = p := by rw [List.length_take, ← hsz]; omega
  -- a form has its point at p
  have hpt : ∀ x y, Form t.toList x y → x.length = p := fun x y hf => by
    have := congrArg List.length hf.eq
    rw [List.length_append, List.length_cons, hf.two, ← hsz] at this
    omega
  rw [hbp]
  by_cases hpp : t[p] = 46
  · rw [hpp, h46, if_pos (by decide), if_pos (by omega), hb0]
    have hspl : t.toList = t.toList.take p ++ 46 :: t.toList.drop (p + 1) := by
      conv => lhs; rw [← List.take_append_drop p t.toList, hdp, hpp]
    have hy2 : (t.toList.drop (p + 1)).length = 2 := by rw [List.length_drop, ← hsz]; omega
    have hxne : t.toList.take p ≠ [] := fun e => by rw [e] at htl; simp at htl; omega
    have hhd : (t.toList.take p).head? = some t[0] := by
      obtain ⟨q, rfl⟩ : ∃ q, p = q + 1 := ⟨p - 1, by omega⟩
      rw [hd0, List.take_succ_cons]
      rfl
    by_cases hlead : t[0] = 48 ∧ 1 < p
    · -- a leading nought
      have hno : ∀ x y, Form t.toList x y → False := fun x y hf => by
        have hx := hpt x y hf
        have hxe : x = t.toList.take p := by rw [hf.eq, ← hx, List.take_left]
        have := hf.lead (by rw [hxe, hhd, hlead.1])
        rw [this] at hx
        simp at hx
        omega
      refine ⟨fun x y hf => (hno x y hf).elim, fun _ => ?_⟩
      rw [hlead.1, h48, if_pos (by decide), decide_eq_true (by omega), cohousingref02_Parse.j2, if_pos rfl]
    · have hj2 : (if (t[0].toNat : Int) = 48 then cohousingref02_Parse.j2 (k + 1) (sgnOf neg) t (p : Int) (decide ((p : Int) > 1)) else cohousingref02_Parse.j2 (k + 1) (sgnOf neg) t (p : Int) false) = cohousingref02_Parse.j2 (k + 1) (sgnOf neg) t (p : Int) false := by
        by_cases h0 : (t[0].toNat : Int) = 48
        · have h0' : t[0] = 48 := UInt8.toNat_inj.mp (by rw [h48]; omega)
          rw [if_pos h0, decide_eq_false (fun q => hlead ⟨h0', by omega⟩)]
        · rw [if_neg h0]
      have hrun := ref_run t ht neg p t.size 0 k 0 (by omega) (by omega) (by omega)
      rw [List.drop_zero, e00] at hrun
      rw [hj2, cohousingref02_Parse.j2, if_neg (by decide), hrun]
      refine ⟨fun x y hf => ?_, fun hno => ?_⟩
      · have hx := hpt x y hf
        rw [hf.eq, run_digits neg p x 0 0 (46 :: y) hf.dx (Or.inl (by omega)), runF, if_pos (by omega)]
        have hy := run_digits neg p y (0 + x.length + 1) (accN 0 x) [] hf.dy (Or.inr (by omega))
        rw [List.append_nil] at hy
        rw [hy, runF]
        have : accN (accN 0 x) y = accN 0 (x ++ y) := by unfold accN; rw [List.foldl_append]
        rw [this, fin_acc]
      · congr 1
        refine run_bad neg p t.toList 0 0 (Classical.byContradiction (fun hall => hno ⟨t.toList.take p, t.toList.drop (p + 1), hspl, hxne, hy2, ?_, ?_, ?_⟩))
        · intro c hc
          refine Classical.byContradiction (fun hd => hall ?_)
          obtain ⟨j, hj, rfl⟩ := List.mem_iff_getElem.mp hc
          rw [htl] at hj
          refine ⟨j, by rw [← hsz]; omega, by omega, fun c hc2 => ?_⟩
          rw [List.getElem_take] at hd
          rw [List.getElem?_eq_getElem (by rw [← hsz]; omega)] at hc2
          obtain rfl := Option.some.inj hc2
          exact hd
        · intro c hc
          refine Classical.byContradiction (fun hd => hall ?_)
          obtain ⟨j, hj, rfl⟩ := List.mem_iff_getElem.mp hc
          rw [hy2] at hj
          refine ⟨p + 1 + j, by rw [← hsz]; omega, by omega, fun c hc2 => ?_⟩
          rw [List.getElem_drop] at hd
          rw [List.getElem?_eq_getElem (by rw [← hsz]; omega)] at hc2
          obtain rfl := Option.some.inj hc2
          exact hd
        · intro hh
          rw [hhd] at hh
          have h0' : t[0] = 48 := Option.some.inj hh
          have hp1 : p = 1 := by
            have : ¬ 1 < p := fun q => hlead ⟨h0', q⟩
            omega
          subst hp1
          rw [hd0]
          exact congrArg (fun c => [c]) h0'
  · have hne : ¬ (t[p].toNat : Int) = 46 := fun e => hpp (UInt8.toNat_inj.mp (by rw [h46]; omega))
    rw [if_neg hne]
    refine ⟨fun x y hf => ?_, fun _ => ?_⟩
    · exfalso
      apply hpp
      have hx := hpt x y hf
      have h1 : List.drop x.length t.toList = t[p] :: List.drop (p + 1) t.toList := by rw [hx]; exact hdp
      rw [hf.eq, List.drop_left] at h1
      exact (List.cons.inj h1).1.symm
    · rw [cohousingref02_Parse.j2, if_pos rfl]
theorem starts_bt (s : ByteArray) : startsB s 45 = (decide (0 < s.size) && (bt s 0 == 45)) := by
  rw [Bool.eq_iff_iff, starts_iff, Bool.and_eq_true, decide_eq_true_eq, beq_iff_eq]
  have h45 : (45 : UInt8).toNat = 45 := rfl
  have e00 : ((0 : Nat) : Int) = 0 := rfl
  constructor
  · rintro ⟨r, hr⟩
    have hs : 0 < s.size := by rw [ba_size, hr]; simp
    obtain ⟨hd, hb⟩ := bt_drop s 0 hs
    rw [List.drop_zero, hr] at hd
    rw [e00] at hb
    refine ⟨hs, ?_⟩
    rw [hb, ← (List.cons.inj hd).1]
    rfl
  · rintro ⟨hs, hb45⟩
    obtain ⟨hd, hb⟩ := bt_drop s 0 hs
    rw [List.drop_zero] at hd
    rw [e00, hb45] at hb
    have : s[0] = 45 := UInt8.toNat_inj.mp (by rw [h45]; omega)
    exact ⟨_, by rw [hd, this]⟩
theorem ref_parse_j1 (s : ByteArray) (k : Nat) (hk : 0 < k) : cohousingref02_Parse.f k s = cohousingref02_Parse.j1 (k - 1) (sgnOf (startsB s 45)) (trimB s 45) := by
  obtain ⟨k, rfl⟩ : ∃ m, k = m + 1 := ⟨k - 1, by omega⟩
  have hst := starts_bt s
  unfold cohousingref02_Parse.f
  by_cases hs : (s.size : Int) > 0
  · rw [decide_eq_true (show 0 < s.size by omega), Bool.true_and] at hst
    rw [if_pos hs, if_pos hs, cohousingref02_Parse.j0, ← hst]
    unfold trimB
    cases startsB s 45 with
    | true => rw [if_pos rfl, if_pos (by omega), if_pos rfl]; rfl
    | false => rw [if_neg (by decide), if_neg (by decide)]; rfl
  · rw [decide_eq_false (show ¬ 0 < s.size by omega), Bool.false_and] at hst
    rw [if_neg hs, cohousingref02_Parse.j0, if_neg (by decide)]
    unfold trimB
    rw [hst, if_neg (by decide)]
    rfl
/-! ### what money reads -/
theorem num_lt : ∀ (u : List UInt8) (n : Nat), (∀ c ∈ u, IsDig c) → numV n u < (n + 1) * 10 ^ u.length
  | [], n, _ => by show n < (n + 1) * 1; omega
  | c :: u, n, h => by
    have hc := h c List.mem_cons_self
    unfold IsDig at hc
    have ih := num_lt u (n * 10 + (c.toNat - 48)) (fun d hd => h d (List.mem_cons_of_mem _ hd))
    have h1 : (n * 10 + (c.toNat - 48) + 1) * 10 ^ u.length ≤ ((n + 1) * 10) * 10 ^ u.length := Nat.mul_le_mul_right _ (by omega)
    have e : 10 ^ (u.length + 1) = 10 * 10 ^ u.length := by rw [Nat.pow_succ, Nat.mul_comm]
    rw [Nat.mul_assoc, ← e] at h1
    show numV (n * 10 + (c.toNat - 48)) u < (n + 1) * 10 ^ (u.length + 1)
    omega
theorem num_big : ∀ (u : List UInt8) (n : Nat), n * 10 ^ u.length ≤ numV n u
  | [], n => by show n * 1 ≤ n; omega
  | c :: u, n => by
    have ih := num_big u (n * 10 + (c.toNat - 48))
    have h1 : (n * 10) * 10 ^ u.length ≤ (n * 10 + (c.toNat - 48)) * 10 ^ u.length := Nat.mul_le_mul_right _ (by omega)
    have e : 10 ^ (u.length + 1) = 10 * 10 ^ u.length := by rw [Nat.pow_succ, Nat.mul_comm]
    rw [Nat.mul_assoc, ← e] at h1
    show n * 10 ^ (u.length + 1) ≤ numV (n * 10 + (c.toNat - 48)) u
    omega
theorem parse_list (u : List UInt8) (h : ∀ c ∈ u, IsDig c) (hl : u.length ≤ 18) : Lib.parseUint10 0 u = .ok (numV 0 u) := by
  have key : ∀ (m : Nat) (u : List UInt8), u.length = m → (∀ c ∈ u, IsDig c) → m ≤ 18 → Lib.parseUint10 0 u = .ok (numV 0 u) := by
    intro m
    induction m with
    | zero =>
      intro u hu _ _
      rw [List.length_eq_zero_iff.mp hu]
      rfl
    | succ m ih =>
      intro u hu hd hm
      have hne : u ≠ [] := fun e => by rw [e] at hu; simp at hu
      obtain ⟨i, c, rfl⟩ : ∃ i c, u = i ++ [c] := ⟨u.dropLast, u.getLast hne, (List.dropLast_concat_getLast hne).symm⟩
      have hil : i.length = m := by rw [List.length_append, List.length_singleton] at hu; omega
      have hi := ih i hil (fun d hd2 => hd d (List.mem_append_left _ hd2)) (by omega)
      have hc := hd c (by simp)
      have hc' := hc
      unfold IsDig at hc'
      have hlt := num_lt i 0 (fun d hd2 => hd d (List.mem_append_left _ hd2))
      have hp : 10 ^ i.length ≤ 10 ^ 17 := Nat.pow_le_pow_right (by decide) (by omega)
      have hp17 : (10 : Nat) ^ 17 = 100000000000000000 := by decide
      rw [Nat.zero_add, Nat.one_mul] at hlt
      rw [parse_snoc i 0 _ c hi hc'.1 hc'.2 (by omega) (by omega)]
      unfold numV
      rw [List.foldl_append]
      rfl
  exact key u.length u rfl h hl
theorem money_form (s : ByteArray) (hs : s.size ≤ 1000) (x y : List UInt8) (hf : Form (trimB s 45).toList x y) : money_Parse.f s = some (finF (startsB s 45) (numV 0 (x ++ y))) := by
  obtain ⟨a, b, hc, ha, hb⟩ := cut_at hf.eq (fun c hc e => by
    have := hf.dx c hc
    unfold IsDig at this
    rw [e] at this
    have : (46 : UInt8).toNat = 46 := rfl
    omega)
  have hab : (a ++ b).toList = x ++ y := by rw [ba_append, ha, hb]
  have hdig : ∀ c ∈ (a ++ b).toList, IsDig c := fun c hc => by
    rw [hab] at hc
    rcases List.mem_append.mp hc with h | h
    · exact hf.dx c h
    · exact hf.dy c h
  have hbad := (bad_iff (a ++ b)).mpr hdig
  have hb2 : b.size = 2 := by rw [ba_size, hb]; exact hf.two
  by_cases h9 : a.size ≤ 9
  · have hxl : x.length ≤ 9 := by rw [← ha, ← ba_size]; exact h9
    have hl : (x ++ y).length ≤ 11 := by rw [List.length_append, hf.two]; omega
    have hp := parse_list (x ++ y) (by rw [← hab]; exact hdig) (by omega)
    have hlt := num_lt (x ++ y) 0 (by rw [← hab]; exact hdig)
    have hpw : 10 ^ (x ++ y).length ≤ 10 ^ 11 := Nat.pow_le_pow_right (by decide) hl
    have hp11 : (10 : Nat) ^ 11 = 100000000000 := by decide
    have hat := atoi_digits (l := (a ++ b).toList) (by rw [hab]; simp [hf.ne]) hdig (by rw [hab]; exact hp) (by omega)
    rw [ba_toList] at hat
    rw [parse_at s a b (by omega) hc (by rw [ha]; exact hf.ne) hb2 hbad (by rw [ha]; exact hf.lead) h9 _ hat]
    generalize numV 0 (x ++ y) = v at *
    cases startsB s 45 with
    | true =>
      rw [if_pos rfl]
      by_cases h0 : v = 0
      · have ef : finF true v = (0, 8) := by unfold finF; rw [if_pos ⟨rfl, h0⟩]
        rw [ef, if_pos (by omega)]
      · have e0 : ¬ (true = true ∧ v = 0) := fun q => h0 q.2
        rw [if_neg (by omega)]
        by_cases h1 : 1000000000 < v
        · have ef : finF true v = (0, 3) := by unfold finF; rw [if_neg e0, if_pos h1]
          rw [ef, if_pos (by omega)]
        · have ef : finF true v = (-(v : Int), 0) := by unfold finF; rw [if_neg e0, if_neg h1, if_pos rfl]
          rw [ef, if_neg (by omega), if_pos (by omega)]
    | false =>
      have e0 : ¬ (false = true ∧ v = 0) := fun q => by cases q.1
      rw [if_neg (by decide)]
      by_cases h1 : 1000000000 < v
      · have ef : finF false v = (0, 3) := by unfold finF; rw [if_neg e0, if_pos h1]
        rw [ef, if_pos (by omega)]
      · have ef : finF false v = ((v : Int), 0) := by unfold finF; rw [if_neg e0, if_neg h1, if_neg (by decide)]
        rw [ef, if_neg (by omega)]
  · have hxl : 9 < x.length := by rw [← ha, ← ba_size]; omega
    have hbig : 1000000000 < numV 0 (x ++ y) := by
      cases x with
      | nil => simp at hxl
      | cons c x =>
        have hc := hf.dx c List.mem_cons_self
        unfold IsDig at hc
        have hn48 : c ≠ 48 := fun e => by
          have h1 := hf.lead (by rw [e]; rfl)
          have h2 : (c :: x).length = 1 := congrArg List.length h1
          omega
        have h48 : (48 : UInt8).toNat = 48 := rfl
        have hc49 : 1 ≤ c.toNat - 48 := by
          rcases Nat.lt_or_ge c.toNat 49 with h | h
          · exact absurd (UInt8.toNat_inj.mp (by rw [h48]; omega)) hn48
          · omega
        have h1 := num_big (x ++ y) (0 * 10 + (c.toNat - 48))
        have h2 : 10 ^ 10 ≤ 10 ^ (x ++ y).length := Nat.pow_le_pow_right (by decide) (by rw [List.length_append, hf.two]; simp at hxl; omega)
        have h3 : 1 * 10 ^ (x ++ y).length ≤ (0 * 10 + (c.toNat - 48)) * 10 ^ (x ++ y).length := Nat.mul_le_mul_right _ (by omega)
        have hp10 : (10 : Nat) ^ 10 = 10000000000 := by decide
        show 1000000000 < numV (0 * 10 + (c.toNat - 48)) (x ++ y)
        omega
    have hm : money_Parse.f s = some (0, 3) := by
      unfold money_Parse.f
      rw [if_pos (by omega), hc]
      simp only
      rw [if_neg (by decide), if_neg (by rw [ha]; simpa using hf.ne), if_neg (by omega), hbad, if_neg (by decide), if_neg ?_, if_pos (by omega)]
      rintro ⟨h1, h2⟩
      rw [← ba_toList, ha] at h1
      rw [ha, hf.lead h1] at h2
      simp at h2
    have e0 : ¬ (startsB s 45 = true ∧ numV 0 (x ++ y) = 0) := fun q => by omega
    rw [hm]
    unfold finF
    rw [if_neg e0, if_pos hbig]
theorem money_no (s : ByteArray) (hs : s.size ≤ 1000) (h : ¬ ∃ x y, Form (trimB s 45).toList x y) : money_Parse.f s = some (0, 8) := by
  obtain ⟨a, b, ok, hc⟩ : ∃ a b ok, cutAt (trimB s 45) 46 = (a, b, ok) := ⟨_, _, _, rfl⟩
  unfold money_Parse.f
  rw [if_pos (by omega), hc]
  simp only
  by_cases k1 : ok = false
  · rw [if_pos k1]
  have k1' : ok = true := by
    cases ok with
    | true => rfl
    | false => exact absurd rfl k1
  subst k1'
  rw [if_neg (by decide)]
  by_cases k2 : (a.toList == []) = true
  · rw [if_pos k2]
  rw [if_neg k2]
  by_cases k3 : b.size = 2
  · rw [if_neg (by omega)]
    by_cases k4 : badDig (a ++ b) = true
    · rw [if_pos k4]
    rw [if_neg k4]
    by_cases k5 : a.data.toList.head? = some 48 ∧ (a.toList == [48]) = false
    · rw [if_pos k5]
    · exfalso
      have hdig := (bad_iff _).mp (Bool.eq_false_iff.mpr k4)
      refine h ⟨a.toList, b.toList, cut_yes hc, fun e => k2 (by rw [e]; rfl), by rw [← ba_size]; exact k3, fun c hc => hdig c (by rw [ba_append]; exact List.mem_append_left _ hc), fun c hc => hdig c (by rw [ba_append]; exact List.mem_append_right _ hc), fun e => ?_⟩
      refine Classical.byContradiction (fun hq => k5 ⟨by rw [← ba_toList]; exact e, by simpa using hq⟩)
  · rw [if_pos k3]
theorem trim_size (s : ByteArray) : (trimB s 45).size ≤ s.size := by
  unfold trimB
  split
  · rw [ba_size, ba_extract, ba_size]
    simp
  · exact Nat.le_refl _
theorem ref_parse (s : ByteArray) (hs : s.size ≤ 1000) (k : Nat) (hk : 4000 < k) : cohousingref02_Parse.f k s = money_Parse.f s := by
  have ht := trim_size s
  obtain ⟨h1, h2⟩ := ref_j1 (trimB s 45) (by omega) (startsB s 45) (k - 1) (by omega)
  rw [ref_parse_j1 s k (by omega)]
  by_cases hf : ∃ x y, Form (trimB s 45).toList x y
  · obtain ⟨x, y, hf⟩ := hf
    rw [h1 x y hf, money_form s hs x y hf]
  · rw [h2 hf, money_no s hs hf]
end Go.Proofs.YtcbhaoaameiacaaDoor.Pure

/- What money.Split computes, over numbers and lists: the parts, their sum, and who gets the cents that are left. No Go and no memory in it. -/
namespace Go.Proofs.YtcbhaoaameiacaaDoor.Pure
open Go.RowKit Go.Proofs.YtcbhaoaameiacaaDoor.X Go.Proofs.YtcbhaoaameiacaaDoorW.PrintWords

theorem incs_length : ∀ (L P : List Int), (incs P L).length = P.length
  | [], P => rfl
  | i :: r, P => by rw [incs, incs_length r, List.length_set]
theorem rd_nat (P : List Int) (i : Nat) (h : i < P.length) : rd P (i : Int) = P[i] := by unfold rd; simp [h]
theorem rd_setn (P : List Int) (j i : Nat) (v : Int) (hj : j < P.length) : rd (P.set j v) (i : Int) = if j = i then v else rd P (i : Int) := by
  unfold rd
  rw [Int.toNat_natCast, List.getD_eq_getElem?_getD, List.getElem?_set]
  split
  · rename_i h
    subst h
    first | rfl | (rw [if_pos hj]; rfl)
  · rw [List.getD_eq_getElem?_getD]
theorem rd_incs : ∀ (L P : List Int), L.Nodup → (∀ x ∈ L, 0 ≤ x ∧ x < (P.length : Int)) → ∀ i : Nat, rd (incs P L) (i : Int) = rd P (i : Int) + if (i : Int) ∈ L then 1 else 0
  | [], P, _, _, i => by simp [incs]
  | a :: r, P, hn, hb, i => by
    have ha := hb a List.mem_cons_self
    obtain ⟨j, rfl⟩ : ∃ j : Nat, a = j := ⟨a.toNat, by omega⟩
    rw [incs, rd_incs r _ (List.nodup_cons.mp hn).2 (fun x hx => by rw [List.length_set]; exact hb x (List.mem_cons_of_mem _ hx)) i, Int.toNat_natCast, rd_setn _ _ _ _ (by omega)]
    by_cases h : j = i
    · subst h
      rw [if_pos rfl, if_neg (List.nodup_cons.mp hn).1, if_pos List.mem_cons_self]
      omega
    · rw [if_neg h]
      have e : ((i : Int) ∈ (j : Int) :: r) ↔ ((i : Int) ∈ r) := by
        rw [List.mem_cons]
        constructor
        · rintro (h2 | h2)
          · omega
          · exact h2
        · exact Or.inr
      simp only [e]
theorem sum_setn : ∀ (P : List Int) (j : Nat) (v : Int), j < P.length → (P.set j v).sum = P.sum - P.getD j 0 + v
  | [], j, v, h => absurd h (Nat.not_lt_zero _)
  | a :: P, 0, v, _ => by simp; omega
  | a :: P, j + 1, v, h => by
    have := sum_setn P j v (by simpa using h)
    simp only [List.set_cons_succ, List.sum_cons, List.getD_cons_succ]
    omega
theorem sum_incs : ∀ (L P : List Int), (∀ x ∈ L, 0 ≤ x ∧ x < (P.length : Int)) → (incs P L).sum = P.sum + (L.length : Int)
  | [], P, _ => by simp [incs]
  | a :: r, P, hb => by
    have ha := hb a List.mem_cons_self
    obtain ⟨j, rfl⟩ : ∃ j : Nat, a = j := ⟨a.toNat, by omega⟩
    rw [incs, sum_incs r _ (fun x hx => by rw [List.length_set]; exact hb x (List.mem_cons_of_mem _ hx)), Int.toNat_natCast, sum_setn _ _ _ (by omega)]
    unfold rd
    rw [Int.toNat_natCast, List.length_cons]
    omega
/-- The remainders in the order of the list. -/
theorem rem_sum (size T : Int) (hT : 1 ≤ T) : ∀ l : List Int, T * (qs size T l).sum + (l.map (fun x => size * x % T)).sum = size * l.sum
  | [] => by simp [qs]
  | x :: l => by
    have ih := rem_sum size T hT l
    have e := Int.mul_ediv_add_emod (size * x) T
    simp only [qs, List.map_cons, List.sum_cons, Int.mul_add] at *
    omega
theorem sum_fin (f : Nat → Int) : ∀ (n : Nat), ((List.range n).map f).sum = ((List.finRange n).map (fun i => f i.val)).sum := by
  intro n
  have : (List.finRange n).map (fun i => f i.val) = ((List.finRange n).map (·.val)).map f := by rw [List.map_map]; rfl
  rw [this]
  congr 2
  apply List.ext_getElem
  · simp
  · intro i h1 h2; simp
theorem sum_le_mul {α : Type} (f : α → Int) (b : Int) : ∀ l : List α, (∀ x ∈ l, f x ≤ b) → (l.map f).sum ≤ b * (l.length : Int)
  | [], _ => by simp
  | x :: l, h => by
    have ih := sum_le_mul f b l (fun y hy => h y (List.mem_cons_of_mem _ hy))
    have hx := h x List.mem_cons_self
    have e : b * ((x :: l).length : Int) = b * (l.length : Int) + b := by rw [List.length_cons, Int.natCast_succ, Int.mul_add, Int.mul_one]
    rw [e, List.map_cons, List.sum_cons]
    omega
theorem perm_sum {α : Type} (f : α → Int) {a b : List α} (h : a.Perm b) : (a.map f).sum = (b.map f).sum := by
  induction h with
  | nil => rfl
  | cons x _ ih => simp [ih]
  | swap x y l => simp only [List.map_cons, List.sum_cons]; omega
  | trans _ _ i1 i2 => exact i1.trans i2
theorem map_rem (size T : Int) (l : List Int) : l.map (fun x => size * x % T) = (List.range l.length).map (remOf size T l) := by
  apply List.ext_getElem
  · simp
  · intro i h1 h2
    simp only [List.getElem_map, List.getElem_range, remOf]
    have : i < l.length := by simpa using h1
    simp [this]
/-- What an order of the indices gives the cents that are left to. -/
theorem give_ok (size T : Int) (l : List Int) (hT : 1 ≤ T) (e : T = l.sum) (z : List (Fin l.length)) (hp : z.Perm (List.finRange l.length)) (hs : z.Pairwise (ltF size T l l.length)) (m : Nat) (hm : (m : Int) = size - (qs size T l).sum) :
    m ≤ l.length ∧ (∀ x ∈ z.take m, 0 < remOf size T l x.val) ∧ (∀ x ∈ z.take m, ∀ y, y ∉ z.take m → ltF size T l l.length x y) := by
  have hlen : z.length = l.length := by rw [hp.length_eq, List.length_finRange]
  have hr0 : ∀ i, 0 ≤ remOf size T l i := fun i => Int.emod_nonneg _ (by omega)
  have hr1 : ∀ i, remOf size T l i ≤ T - 1 := fun i => by have := Int.emod_lt_of_pos (size * l.getD i 0) (show 0 < T by omega); unfold remOf; omega
  have hsum : (z.map (fun x => remOf size T l x.val)).sum = T * (m : Int) := by
    rw [perm_sum _ hp, ← sum_fin (remOf size T l), ← map_rem, hm, Int.mul_sub]
    have := rem_sum size T hT l
    rw [← e, Int.mul_comm size T] at this
    omega
  have hmn : m ≤ l.length := by
    have h1 := sum_le_mul (fun x : Fin l.length => remOf size T l x.val) (T - 1) z (fun x _ => hr1 _)
    rw [hsum, hlen] at h1
    rcases Nat.lt_or_ge l.length m with h | h
    · have h2 : T * (l.length : Int) ≤ T * (m : Int) := Int.mul_le_mul_of_nonneg_left (by omega) (by omega)
      have h3 : (T - 1) * (l.length : Int) = T * (l.length : Int) - (l.length : Int) := by rw [Int.sub_mul, Int.one_mul]
      have h4 : T * ((l.length : Int) + 1) ≤ T * (m : Int) := Int.mul_le_mul_of_nonneg_left (by omega) (by omega)
      rw [Int.mul_add, Int.mul_one] at h4
      omega
    · exact h
  have hcut : ∀ x ∈ z.take m, ∀ y, y ∉ z.take m → ltF size T l l.length x y := by
    intro x hx y hy
    have hyz : y ∈ z := hp.mem_iff.mpr (List.mem_finRange y)
    rw [← List.take_append_drop m z] at hyz hs
    rcases List.mem_append.mp hyz with h | h
    · exact absurd h hy
    · exact (List.pairwise_append.mp hs).2.2 x hx y h
  refine ⟨hmn, ?_, hcut⟩
  intro x hx
  have h0 := hr0 x.val
  rcases Int.lt_or_eq_of_le h0 with h | h
  · exact h
  · exfalso
    have hnd : (z.take m ++ z.drop m).Nodup := by rw [List.take_append_drop]; exact hp.symm.nodup (List.nodup_finRange _)
    have hd0 : ∀ y ∈ z.drop m, remOf size T l y.val ≤ 0 := by
      intro y hy
      have hyt : y ∉ z.take m := fun hy2 => absurd rfl ((List.nodup_append.mp hnd).2.2 y hy2 y hy)
      have := hcut x hx y hyt
      unfold ltF at this
      omega
    have e1 : (z.map (fun x => remOf size T l x.val)).sum = ((z.take m).map (fun x => remOf size T l x.val)).sum + ((z.drop m).map (fun x => remOf size T l x.val)).sum := by
      rw [← List.sum_append, ← List.map_append, List.take_append_drop]
    have h2 := sum_le_mul (fun x : Fin l.length => remOf size T l x.val) 0 (z.drop m) hd0
    have h3 := sum_le_mul (fun x : Fin l.length => remOf size T l x.val) (T - 1) (z.take m) (fun x _ => hr1 _)
    have hl : (z.take m).length = m := by rw [List.length_take]; omega
    have hm1 : 1 ≤ m := by
      rcases Nat.eq_zero_or_pos m with h | h
      · subst h; simp at hx
      · exact h
    rw [hl] at h3
    have h4 : (T - 1) * (m : Int) = T * (m : Int) - (m : Int) := by rw [Int.sub_mul, Int.one_mul]
    omega
theorem ord_sorted (size T : Int) (l : List Int) (hn : 0 < l.length) : (ordA size T l hn).toList.Perm (List.finRange l.length) ∧ (ordA size T l hn).toList.Pairwise (ltF size T l l.length) := by
  letI : Inhabited (Fin l.length) := ⟨⟨0, hn⟩⟩
  obtain ⟨y, y1, y2, y3⟩ := ins_sort (cfF size T l l.length) (ltF size T l l.length) (ltF_trans size T l l.length) [] (idF l.length).toList [] (id_later size T l l.length)
  have e : (ordA size T l hn).toList = y := ordA_is size T l hn y y1 y2
  rw [e]
  have e2 : (idF l.length).toList = List.finRange l.length := by
    simp only [idF, List.finRange, Array.toList_ofFn]
    rfl
  rw [← e2]
  exact ⟨y1, y2⟩
/-- What is known of a split: who gets one more (B), the parts, their sum. -/
structure SplitOK (size sgn T : Int) (l res : List Int) (B : Nat → Bool) : Prop where
  len : res.length = l.length
  part : ∀ i : Nat, i < l.length → rd res (i : Int) = sgn * (size * rd l (i : Int) / T + if B i = true then 1 else 0)
  pos : ∀ i : Nat, i < l.length → B i = true → 0 < size * rd l (i : Int) % T
  cut : ∀ i k : Nat, i < l.length → k < l.length → B i = true → B k = false → size * rd l (k : Int) % T < size * rd l (i : Int) % T ∨ (size * rd l (i : Int) % T = size * rd l (k : Int) % T ∧ i < k)
  sum : res.sum = sgn * size
theorem remOf_rd (size T : Int) (l : List Int) (i : Nat) : remOf size T l i = size * rd l (i : Int) % T := by unfold remOf rd; rw [Int.toNat_natCast]
theorem sum_mul (b : Int) : ∀ l : List Int, (l.map (· * b)).sum = l.sum * b
  | [] => by simp
  | x :: l => by rw [List.map_cons, List.sum_cons, List.sum_cons, sum_mul b l, Int.add_mul]
theorem rd_map (b : Int) (l : List Int) (i : Nat) (hi : i < l.length) : rd (l.map (· * b)) (i : Int) = rd l (i : Int) * b := by
  unfold rd
  simp [hi]
theorem split_ok (c T : Int) (l : List Int) (hn : 0 < l.length) (hT : 1 ≤ T) (e : T = l.sum) (hb : ∀ x ∈ l, 0 ≤ x ∧ x ≤ 1000000) :
    ∃ B, SplitOK (if c < 0 then -c else c) (if c < 0 then -1 else 1) T l (splitRes c T l hn) B := by
  unfold splitRes
  have hs : 0 ≤ (if c < 0 then -c else c) := by split <;> omega
  generalize (if c < 0 then -c else c) = size at hs ⊢
  generalize (if c < 0 then (-1 : Int) else 1) = sgn
  have hL := leftAt_bd size T l l.length hs hT hb e
  obtain ⟨m, hm⟩ : ∃ m : Nat, leftAt size T l l.length = m := ⟨(leftAt size T l l.length).toNat, by omega⟩
  have hm2 : (m : Int) = size - (qs size T l).sum := by rw [← hm]; unfold leftAt; rw [List.take_length]
  rw [hm, Int.toNat_natCast]
  obtain ⟨hp, hso⟩ := ord_sorted size T l hn
  obtain ⟨g1, g2, g3⟩ := give_ok size T l hT e _ hp hso m hm2
  have eL : (ordL size T l hn).take m = ((ordA size T l hn).toList.take m).map (fun x => (x.val : Int)) := by unfold ordL; rw [List.map_take]
  rw [eL]
  generalize hz : (ordA size T l hn).toList.take m = z at g2 g3
  have hzn : z.Nodup := by
    rw [← hz]
    exact List.Nodup.sublist (List.take_sublist _ _) (hp.symm.nodup (List.nodup_finRange _))
  have hLn : (z.map (fun x => (x.val : Int))).Nodup := by
    rw [List.nodup_iff_pairwise_ne] at hzn ⊢
    rw [List.pairwise_map]
    exact hzn.imp (fun h h2 => h (Fin.ext (by omega)))
  have hql : (qs size T l).length = l.length := by unfold qs; rw [List.length_map]
  have hLb : ∀ x ∈ z.map (fun x => (x.val : Int)), 0 ≤ x ∧ x < ((qs size T l).length : Int) := by
    intro x hx
    obtain ⟨y, _, rfl⟩ := List.mem_map.mp hx
    have := y.isLt
    omega
  have hmem : ∀ (i : Nat) (hi : i < l.length), ((i : Int) ∈ z.map (fun x => (x.val : Int))) ↔ (⟨i, hi⟩ : Fin l.length) ∈ z := by
    intro i hi
    constructor
    · intro h
      obtain ⟨y, hy, e2⟩ := List.mem_map.mp h
      have e3 : (y.val : Int) = (i : Int) := e2
      have : y = ⟨i, hi⟩ := Fin.ext (by show y.val = i; omega)
      rw [← this]
      exact hy
    · intro h
      exact List.mem_map.mpr ⟨_, h, rfl⟩
  have hil := incs_length (z.map (fun x => (x.val : Int))) (qs size T l)
  have hq : ∀ i : Nat, i < l.length → rd (qs size T l) (i : Int) = size * rd l (i : Int) / T := by
    intro i hi
    unfold rd qs
    simp [hi]
  refine ⟨fun i => decide ((i : Int) ∈ z.map (fun x => (x.val : Int))), ?_, ?_, ?_, ?_, ?_⟩
  · rw [List.length_map, hil, hql]
  · intro i hi
    rw [rd_map _ _ _ (by rw [hil, hql]; exact hi), rd_incs _ _ hLn hLb, hq i hi, Int.mul_comm]
    simp only [decide_eq_true_eq]
  · intro i hi h
    rw [← remOf_rd]
    exact g2 ⟨i, hi⟩ ((hmem i hi).mp (of_decide_eq_true h))
  · intro i k hi hk h1 h2
    have := g3 ⟨i, hi⟩ ((hmem i hi).mp (of_decide_eq_true h1)) ⟨k, hk⟩ (fun h3 => absurd ((hmem k hk).mpr h3) (of_decide_eq_false h2))
    unfold ltF at this
    rw [← remOf_rd, ← remOf_rd]
    exact this
  · have hzl : z.length = m := by rw [← hz, List.length_take, hp.length_eq, List.length_finRange]; omega
    rw [sum_mul, sum_incs _ _ hLb, List.length_map, hzl, Int.mul_comm]
    congr 1
    omega
/-- The sum of the weights, or 0. -/
def wholeF (l : List Int) : Int := if 1 ≤ l.length ∧ l.length ≤ 64 then (splitTotal l 0).getD 0 else 0
theorem whole_loop (l : List Int) (hl : l.length ≤ 64) : ∀ (d k i : Nat) (s : Int), i + d = l.length → d < k → cohousingref02_Whole.l0 k l s (i : Int) = some ((splitTotal (l.drop i) s).getD 0)
  | _, 0, _, _, _, h => absurd h (Nat.not_lt_zero _)
  | d, k + 1, i, s, h1, h2 => by
    rw [cohousingref02_Whole.l0]
    by_cases hi : i < l.length
    · rw [if_pos (by omega), if_pos (by omega), splitTotal_drop l i s hi]
      by_cases h3 : rd l (i : Int) < 0
      · rw [if_pos h3, if_pos (Or.inl h3)]
        rfl
      · rw [if_neg h3]
        by_cases h4 : rd l (i : Int) > 1000000
        · rw [if_pos h4, if_pos (Or.inr h4)]
          rfl
        · have hw : wrap64 ((i : Int) + 1) = ((i + 1 : Nat) : Int) := by unfold wrap64; omega
          rw [if_neg h4, if_neg (by omega), hw, whole_loop l hl (d - 1) k (i + 1) _ (by omega) (by omega)]
    · rw [if_neg (by omega), List.drop_of_length_le (by omega)]
      rfl
theorem whole_eq (l : List Int) (k : Nat) (hk : 100 ≤ k) : cohousingref02_Whole.f k l = some (wholeF l) := by
  unfold cohousingref02_Whole.f wholeF
  obtain ⟨k, rfl⟩ : ∃ m, k = m + 1 := ⟨k - 1, by omega⟩
  by_cases h1 : (l.length : Int) < 1
  · rw [if_pos h1, if_neg (by omega), cohousingref02_Whole.j0, if_pos rfl]
  · rw [if_neg h1]
    by_cases h2 : (l.length : Int) > 64
    · rw [decide_eq_true h2, if_neg (by omega), cohousingref02_Whole.j0, if_pos rfl]
    · rw [decide_eq_false h2, if_pos (by omega), cohousingref02_Whole.j0, if_neg (by decide)]
      exact whole_loop l (by omega) l.length k 0 0 (by omega) (by omega)
/-- What Split answers. -/
theorem split_bad (c : Int) (l : List Int) (h : ¬ (Amt c ∧ wholeF l ≠ 0)) : money_Split.f c l = some ([], 1) := by
  unfold money_Split.f
  unfold wholeF at h
  cases ht : splitTotal l 0 with
  | none => rfl
  | some T =>
    rw [ht] at h
    simp only
    by_cases h2 : ¬ (-1000000000 ≤ c ∧ c ≤ 1000000000) ∨ 64 < l.length ∨ T = 0
    · rw [if_pos h2]
    · exfalso
      have hl : 1 ≤ l.length := by
        cases l with
        | nil =>
          simp only [splitTotal, Option.some.injEq] at ht
          omega
        | cons => simp
      apply h
      rw [if_pos ⟨hl, by omega⟩]
      exact ⟨by unfold Amt; omega, by simp only [Option.getD_some]; omega⟩
theorem split_good (c : Int) (l : List Int) (h : Amt c ∧ wholeF l ≠ 0) : ∃ hn : 0 < l.length, l.length ≤ 64 ∧ 1 ≤ wholeF l ∧ wholeF l = l.sum ∧ (∀ x ∈ l, 0 ≤ x ∧ x ≤ 1000000) ∧ money_Split.f c l = some (splitRes c (wholeF l) l hn, 0) := by
  obtain ⟨hc, hw⟩ := h
  by_cases hl : 1 ≤ l.length ∧ l.length ≤ 64
  · cases ht : splitTotal l 0 with
    | none =>
      unfold wholeF at hw
      rw [if_pos hl, ht] at hw
      exact absurd rfl hw
    | some T =>
      have e : wholeF l = T := by unfold wholeF; rw [if_pos hl, ht]; rfl
      obtain ⟨e2, hm⟩ := splitTotal_sum l 0 T ht (by omega) (by omega)
      have h0 := (sum_nonneg_le l 0 hm).1
      rw [e] at hw ⊢
      refine ⟨by omega, hl.2, by omega, by omega, hm, ?_⟩
      unfold money_Split.f
      rw [ht]
      simp only
      rw [if_neg (by unfold Amt at hc; omega), dif_pos ⟨hl.2, hl.1⟩]
  · unfold wholeF at hw
    rw [if_neg hl] at hw
    exact absurd rfl hw
theorem le_sum : ∀ (l : List Int), (∀ x ∈ l, 0 ≤ x ∧ x ≤ 1000000) → ∀ x ∈ l, x ≤ l.sum
  | [], _, x, h => by cases h
  | y :: l, hb, x, h => by
    have h0 := (sum_nonneg_le l 0 (fun z hz => hb z (List.mem_cons_of_mem _ hz))).1
    have hy := hb y List.mem_cons_self
    rw [List.sum_cons]
    rcases List.mem_cons.mp h with rfl | h
    · omega
    · have := le_sum l (fun z hz => hb z (List.mem_cons_of_mem _ hz)) x h
      omega
end Go.Proofs.YtcbhaoaameiacaaDoor.Pure

/- The reference's split is money.Split: the greatest remainder picked again and again is one sort. No Go and no memory in it. -/
namespace Go.Proofs.YtcbhaoaameiacaaDoor.Pure
open Go.RowKit Go.Proofs.YtcbhaoaameiacaaDoor.X Go.Proofs.YtcbhaoaameiacaaDoorW.PrintWords
set_option linter.unusedVariables false
theorem wrI {n : Int} (h : -9223372036854775808 ≤ n ∧ n ≤ 9223372036854775807) : wrap64 n = n := by unfold wrap64; omega
theorem upW (i : Nat) (h : i ≤ 1000000) : wrap64 ((i : Int) + 1) = ((i + 1 : Nat) : Int) := by unfold wrap64; omega
def cnt (p : Nat → Bool) (n : Nat) : Nat := (List.range n).countP p
theorem cnt_succ (p : Nat → Bool) (n : Nat) : cnt p (n + 1) = cnt p n + if p n = true then 1 else 0 := by
  unfold cnt
  rw [List.range_succ, List.countP_append, List.countP_singleton]
theorem cnt_le (p : Nat → Bool) : ∀ n, cnt p n ≤ n
  | 0 => by simp [cnt]
  | n + 1 => by rw [cnt_succ]; have := cnt_le p n; split <;> omega
theorem cnt_mono (p q : Nat → Bool) : ∀ n, (∀ i, i < n → q i = true → p i = true) → cnt q n ≤ cnt p n
  | 0, _ => by simp [cnt]
  | n + 1, h => by
    have ih := cnt_mono p q n (fun i hi => h i (by omega))
    have hn := h n (by omega)
    rw [cnt_succ, cnt_succ]
    cases hq : q n with
    | false => rw [if_neg (show ¬ (false = true) by decide)]; omega
    | true => rw [hn hq]; omega
theorem cnt_put (p : Nat → Bool) (b : Nat) (hb : p b = false) : ∀ n, cnt (fun i => p i || i == b) n = cnt p n + if b < n then 1 else 0
  | 0 => by simp [cnt]
  | n + 1 => by
    rw [cnt_succ, cnt_succ, cnt_put p b hb n]
    by_cases h : n = b
    · subst h
      rw [hb]
      simp
    · have hn : (n == b) = false := by simpa using h
      rw [hn, Bool.or_false]
      split <;> split <;> split <;> omega
theorem cnt_open (p : Nat → Bool) : ∀ n, cnt p n < n → ∃ j, j < n ∧ p j = false
  | 0, h => absurd h (Nat.not_lt_zero _)
  | n + 1, h => by
    rw [cnt_succ] at h
    cases hp : p n with
    | false => exact ⟨n, by omega, hp⟩
    | true =>
      rw [hp] at h
      obtain ⟨j, h1, h2⟩ := cnt_open p n (by simpa using h)
      exact ⟨j, by omega, h2⟩
/-- Those who get one more come before those who do not: by remainder, and then by index. -/
def Top (r : Nat → Int) (n : Nat) (p : Nat → Bool) : Prop := ∀ i j, i < n → j < n → p i = true → p j = false → r j < r i ∨ (r i = r j ∧ i < j)
theorem top_sub {r : Nat → Int} {n : Nat} {p q : Nat → Bool} (hp : Top r n p) (hq : Top r n q) (hc : cnt p n = cnt q n) : ∀ i, i < n → p i = true → q i = true := by
  intro i hi h1
  cases h2 : q i with
  | true => rfl
  | false =>
    exfalso
    have : ∃ j, j < n ∧ q j = true ∧ p j = false := by
      refine Classical.byContradiction (fun hno => ?_)
      have hle : ∀ j, j < n → (fun x => q x || x == i) j = true → p j = true := by
        intro j hj hx
        rcases Bool.or_eq_true _ _ ▸ hx with hx | hx
        · cases hpj : p j with
          | true => rfl
          | false => exact absurd ⟨j, hj, hx, hpj⟩ hno
        · have : j = i := by simpa using hx
          rw [this]
          exact h1
      have := cnt_mono p (fun x => q x || x == i) n hle
      rw [cnt_put q i h2 n, if_pos hi] at this
      omega
    obtain ⟨j, hj, h3, h4⟩ := this
    have a := hp i j hi hj h1 h4
    have b := hq j i hj hi h3 h2
    omega
theorem rd_ext {a b : List Int} (hl : a.length = b.length) (h : ∀ i : Nat, i < b.length → rd a (i : Int) = rd b (i : Int)) : a = b := by
  refine List.ext_getElem hl (fun i h1 h2 => ?_)
  have := h i h2
  rwa [rd_nat a i h1, rd_nat b i h2] at this
def sumN (q : Nat → Int) : Nat → Int
  | 0 => 0
  | n + 1 => sumN q n + q n
theorem sum_take : ∀ (l : List Int) (n : Nat), n ≤ l.length → (l.take n).sum = sumN (fun i => rd l (i : Int)) n
  | l, 0, _ => by simp [sumN]
  | l, n + 1, h => by rw [List.take_succ_eq_append_getElem (by omega), List.sum_append, sum_take l n (by omega), sumN, rd_nat l n (by omega)]; simp
theorem sumN_cnt (q : Nat → Int) (p : Nat → Bool) : ∀ n, sumN (fun i => q i + if p i = true then 1 else 0) n = sumN q n + (cnt p n : Int)
  | 0 => by simp [sumN, cnt]
  | n + 1 => by
    rw [sumN, sumN, sumN_cnt q p n, cnt_succ]
    split <;> omega
theorem sumN_congr (f g : Nat → Int) : ∀ n, (∀ i, i < n → f i = g i) → sumN f n = sumN g n
  | 0, _ => rfl
  | n + 1, h => by rw [sumN, sumN, sumN_congr f g n (fun i hi => h i (by omega)), h n (by omega)]
section
variable (c size T : Int) (l : List Int) (n : Nat)
/-- The state of the reference: the parts and the remainders, with those who have got one more. -/
structure St (q r : Nat → Int) (n : Nat) (p : Nat → Bool) (P R : List Int) : Prop where
  lp : P.length = n
  lr : R.length = n
  parts : ∀ i : Nat, i < n → rd P (i : Int) = q i + if p i = true then 1 else 0
  rests : ∀ i : Nat, i < n → rd R (i : Int) = if p i = true then -1 else r i
  top : Top r n p
theorem pick_best (R : List Int) (n : Nat) (hR : R.length = n) (hn : n ≤ 64) (P : List Int) (left : Int) : ∀ (j i k b : Nat), i + j = n → 1 ≤ i → b < i → j < k → (∀ x, x < i → rd R (x : Int) < rd R (b : Int) ∨ (rd R (x : Int) = rd R (b : Int) ∧ b ≤ x)) →
    ∃ b', b' < n ∧ (∀ x, x < n → rd R (x : Int) < rd R (b' : Int) ∨ (rd R (x : Int) = rd R (b' : Int) ∧ b' ≤ x)) ∧ cohousingref02_Split.l2 k c P R left (b : Int) (i : Int) = cohousingref02_Split.l2 (k - j) c P R left (b' : Int) (n : Int) := by
  intro j
  induction j with
  | zero =>
    intro i k b hi h1 hb hk h
    obtain rfl : i = n := by omega
    exact ⟨b, hb, h, rfl⟩
  | succ j ih =>
    intro i k b hi h1 hb hk h
    obtain ⟨k, rfl⟩ : ∃ n, k = n + 1 := ⟨k - 1, by omega⟩
    have ek : k + 1 - (j + 1) = k - j := by omega
    rw [cohousingref02_Split.l2, if_pos (by omega), if_pos (by omega), if_pos (by omega), if_pos (by omega), upW i (by omega), ek]
    by_cases hg : rd R (i : Int) > rd R (b : Int)
    · rw [if_pos hg]
      refine ih (i + 1) k i (by omega) (by omega) (by omega) (by omega) (fun x hx => ?_)
      by_cases hxi : x = i
      · subst hxi
        exact Or.inr ⟨rfl, Nat.le_refl _⟩
      · have := h x (by omega)
        omega
    · rw [if_neg hg]
      refine ih (i + 1) k b (by omega) (by omega) (by omega) (by omega) (fun x hx => ?_)
      by_cases hxi : x = i
      · subst hxi
        omega
      · exact h x (by omega)
theorem pick_one {q r : Nat → Int} {n : Nat} {p : Nat → Bool} {P R : List Int} (h : St q r n p P R) (hr : ∀ i, i < n → 0 ≤ r i) (hq : ∀ i, i < n → 0 ≤ q i ∧ q i ≤ 1000000000) (hn : n ≤ 64) (hc : cnt p n < n) (left : Nat) (hl : 0 < left) (hl2 : left ≤ 64) (k : Nat) (hk : n + 5 < k) :
    ∃ p' P' R', St q r n p' P' R' ∧ cnt p' n = cnt p n + 1 ∧ cohousingref02_Split.l1 k c P R (left : Int) = cohousingref02_Split.l1 (k - n - 1) c P' R' ((left - 1 : Nat) : Int) := by
  obtain ⟨k, rfl⟩ : ∃ n, k = n + 1 := ⟨k - 1, by omega⟩
  have hn1 : 1 ≤ n := by omega
  obtain ⟨b, hb, hbest, e⟩ := pick_best c R n h.lr hn P (left : Int) (n - 1) 1 k 0 (by omega) (Nat.le_refl _) (by omega) (by omega) (fun x hx => by
    obtain rfl : x = 0 := by omega
    exact Or.inr ⟨rfl, Nat.le_refl _⟩)
  obtain ⟨z, hz1, hz2⟩ := cnt_open p n hc
  have hpb : p b = false := by
    cases hp : p b with
    | false => rfl
    | true =>
      have h1 := h.rests b hb
      have h2 := h.rests z hz1
      rw [if_pos hp] at h1
      rw [if_neg (by simp [hz2])] at h2
      have h3 := hr z hz1
      have h4 := hbest z hz1
      omega
  have hpart := h.parts b hb
  rw [if_neg (by simp [hpb]), Int.add_zero] at hpart
  have qb := hq b hb
  have lp := h.lp
  have lr := h.lr
  have e0 : ((0 : Nat) : Int) = 0 := rfl
  have e1 : ((1 : Nat) : Int) = 1 := rfl
  rw [e0, e1] at e
  have hkn : k - (n - 1) = (k + 1 - n - 1) + 1 := by omega
  have hleft : ((left : Int) - 1) = ((left - 1 : Nat) : Int) := by omega
  refine ⟨fun i => p i || i == b, P.set b (q b + 1), R.set b (-1), ⟨by rw [List.length_set]; exact lp, by rw [List.length_set]; exact lr, fun i hi => ?_, fun i hi => ?_, fun i j hi hj h1 h2 => ?_⟩, by rw [cnt_put p b hpb n, if_pos hb], ?_⟩
  · rw [rd_setn P b i _ (by omega)]
    by_cases hib : b = i
    · subst hib
      simp
    · have : (i == b) = false := by simpa using fun e => hib e.symm
      rw [if_neg hib, h.parts i hi, this, Bool.or_false]
  · rw [rd_setn R b i _ (by omega)]
    by_cases hib : b = i
    · subst hib
      simp
    · have : (i == b) = false := by simpa using fun e => hib e.symm
      rw [if_neg hib, h.rests i hi, this, Bool.or_false]
  · have h2' := Bool.or_eq_false_iff.mp h2
    have hjb : j ≠ b := by simpa using h2'.2
    rcases Bool.or_eq_true _ _ ▸ h1 with h1 | h1
    · exact h.top i j hi hj h1 h2'.1
    · obtain rfl : i = b := by simpa using h1
      have a1 := h.rests i hb
      have a2 := h.rests j hj
      rw [if_neg (by simp [hpb])] at a1
      rw [if_neg (by simp [h2'.1])] at a2
      have := hbest j hj
      rw [a1, a2] at this
      omega
  · rw [cohousingref02_Split.l1, if_pos (by omega), e, hkn, cohousingref02_Split.l2, if_neg (by omega), if_pos (by omega), if_pos (by omega), if_pos (by omega), hpart, wrI (by omega), wrI (by omega), hleft, Int.toNat_natCast]
theorem pick_all {q r : Nat → Int} {n : Nat} (hr : ∀ i, i < n → 0 ≤ r i) (hq : ∀ i, i < n → 0 ≤ q i ∧ q i ≤ 1000000000) (hn : n ≤ 64) : ∀ (left : Nat) (p : Nat → Bool) (P R : List Int) (k : Nat), St q r n p P R → cnt p n + left ≤ n → left * (n + 1) + n + 10 < k →
    ∃ p' P' R', St q r n p' P' R' ∧ cnt p' n = cnt p n + left ∧ cohousingref02_Split.l1 k c P R (left : Int) = cohousingref02_Split.l1 (k - left * (n + 1)) c P' R' 0 := by
  intro left
  induction left with
  | zero =>
    intro p P R k h hc hk
    refine ⟨p, P, R, h, rfl, ?_⟩
    rw [Nat.zero_mul]
    rfl
  | succ left ih =>
    intro p P R k h hc hk
    have hm : (left + 1) * (n + 1) = left * (n + 1) + (n + 1) := Nat.succ_mul _ _
    obtain ⟨p1, P1, R1, h1, c1, e1⟩ := pick_one c h hr hq hn (by omega) (left + 1) (by omega) (by omega) k (by omega)
    obtain ⟨p2, P2, R2, h2, c2, e2⟩ := ih p1 P1 R1 (k - n - 1) h1 (by omega) (by omega)
    refine ⟨p2, P2, R2, h2, by omega, ?_⟩
    rw [e1, show left + 1 - 1 = left by omega, e2, show k - n - 1 - left * (n + 1) = k - (left + 1) * (n + 1) by omega]
/-- The signs are turned. -/
theorem neg_loop (P0 : List Int) (hb : ∀ i : Nat, i < P0.length → 0 ≤ rd P0 (i : Int) ∧ rd P0 (i : Int) ≤ 2000000000) (hl : P0.length ≤ 64) : ∀ (j i k : Nat) (P : List Int), i + j = P0.length → j < k → P.length = P0.length → (∀ x : Nat, x < P0.length → rd P (x : Int) = if x < i then -(rd P0 (x : Int)) else rd P0 (x : Int)) →
    cohousingref02_Split.l3 k P (i : Int) = some (P0.map (· * (-1)), 0) := by
  intro j
  induction j with
  | zero =>
    intro i k P hi hk hlp h
    obtain ⟨k, rfl⟩ : ∃ n, k = n + 1 := ⟨k - 1, by omega⟩
    rw [cohousingref02_Split.l3, if_neg (by omega)]
    congr 2
    refine rd_ext (by rw [List.length_map]; exact hlp) (fun x hx => ?_)
    rw [List.length_map] at hx
    rw [rd_map _ _ _ hx, h x hx, if_pos (by omega)]
    omega
  | succ j ih =>
    intro i k P hi hk hlp h
    obtain ⟨k, rfl⟩ : ∃ n, k = n + 1 := ⟨k - 1, by omega⟩
    have hx := h i (by omega)
    rw [if_neg (by omega)] at hx
    have b := hb i (by omega)
    rw [cohousingref02_Split.l3, if_pos (by omega), if_pos (by omega), Int.toNat_natCast, hx, wrI (by omega), upW i (by omega)]
    refine ih (i + 1) k _ (by omega) (by omega) (by rw [List.length_set]; exact hlp) (fun x hx2 => ?_)
    rw [rd_setn P i x _ (by omega)]
    by_cases hxi : i = x
    · subst hxi
      rw [if_pos rfl, if_pos (by omega)]
    · rw [if_neg hxi, h x hx2]
      by_cases hlt : x < i
      · rw [if_pos hlt, if_pos (by omega)]
      · rw [if_neg hlt, if_neg (by omega)]
end
/-- The first parts and remainders. -/
theorem first_loop (c size T : Int) (l : List Int) (hs : 0 ≤ size) (hs1 : size ≤ 1000000000) (hT : 1 ≤ T) (hb : ∀ x ∈ l, 0 ≤ x ∧ x ≤ 1000000) (hl : l.length ≤ 64) : ∀ (j i k : Nat) (P R : List Int) (left : Int), i + j = l.length → j < k → P.length = l.length → R.length = l.length →
    (∀ x : Nat, x < i → rd P (x : Int) = size * rd l (x : Int) / T ∧ rd R (x : Int) = size * rd l (x : Int) % T) → left = size - sumN (fun x => size * rd l (x : Int) / T) i → -1000000000000000 * (i : Int) ≤ left → left ≤ size →
    ∃ P' R' : List Int, P'.length = l.length ∧ R'.length = l.length ∧ (∀ x : Nat, x < l.length → rd P' (x : Int) = size * rd l (x : Int) / T ∧ rd R' (x : Int) = size * rd l (x : Int) % T) ∧
      cohousingref02_Split.l0 k c l T size P R left (i : Int) = cohousingref02_Split.l1 (k - j - 1) c P' R' (size - sumN (fun x => size * rd l (x : Int) / T) l.length) := by
  intro j
  induction j with
  | zero =>
    intro i k P R left hi hk hp hr h hleft h0 h1
    obtain ⟨k, rfl⟩ : ∃ n, k = n + 1 := ⟨k - 1, by omega⟩
    obtain rfl : i = l.length := by omega
    refine ⟨P, R, hp, hr, h, ?_⟩
    rw [cohousingref02_Split.l0, if_neg (by omega), hleft]
    rfl
  | succ j ih =>
    intro i k P R left hi hk hp hr h hleft h0 h1
    obtain ⟨k, rfl⟩ : ∃ n, k = n + 1 := ⟨k - 1, by omega⟩
    have hil : i < l.length := by omega
    have hx := hb (rd l (i : Int)) (by rw [rd_nat l i hil]; exact List.getElem_mem hil)
    have m0 : 0 ≤ size * rd l (i : Int) := Int.mul_nonneg hs hx.1
    have m1 : size * rd l (i : Int) ≤ 1000000000 * 1000000 := Int.mul_le_mul hs1 hx.2 hx.1 (by decide)
    have d0 : 0 ≤ size * rd l (i : Int) / T := Int.ediv_nonneg m0 (by omega)
    have d1 : size * rd l (i : Int) / T ≤ size * rd l (i : Int) := Int.ediv_le_self _ m0
    have ek : k + 1 - (j + 1) - 1 = k - j - 1 := by omega
    have eq1 : Int.tdiv (size * rd l (i : Int)) T = size * rd l (i : Int) / T := Int.tdiv_eq_ediv_of_nonneg m0
    have er1 : Int.tmod (size * rd l (i : Int)) T = size * rd l (i : Int) % T := Int.tmod_eq_emod_of_nonneg m0
    have er : ∀ v, rd (P.set i v) (i : Int) = v := fun v => by rw [rd_setn P i i v (by omega), if_pos rfl]
    rw [cohousingref02_Split.l0, if_pos (by omega), if_pos (by omega), if_neg (show ¬ T = 0 by omega), if_pos (by omega), wrI (n := size * rd l (i : Int)) ⟨by omega, by omega⟩, eq1, er1, wrI (n := size * rd l (i : Int) / T) ⟨by omega, by omega⟩, Option.bind_some, if_pos (by omega), Int.toNat_natCast, er, upW i (by omega), wrI (n := left - size * rd l (i : Int) / T) ⟨by omega, by omega⟩, ek]
    refine ih (i + 1) k _ _ _ (by omega) (by omega) (by rw [List.length_set]; exact hp) (by rw [List.length_set]; exact hr) (fun x hx2 => ?_) (by rw [hleft, sumN]; omega) (by omega) (by omega)
    rw [rd_setn P i x _ (by omega), rd_setn R i x _ (by omega)]
    by_cases hxi : i = x
    · subst hxi
      rw [if_pos rfl, if_pos rfl]
      exact ⟨rfl, rfl⟩
    · rw [if_neg hxi, if_neg hxi]
      exact h x (by omega)
theorem sumN_mul (s : Int) (f : Nat → Int) : ∀ n, sumN (fun i => s * f i) n = s * sumN f n
  | 0 => by simp [sumN]
  | n + 1 => by rw [sumN, sumN, sumN_mul s f n, Int.mul_add]
theorem ref_split (c : Int) (l : List Int) (k : Nat) (hk : 10000 < k) : cohousingref02_Split.f k c l = money_Split.f c l := by
  unfold cohousingref02_Split.f
  rw [ref_amt, Option.bind_some, whole_eq l k (by omega), Option.bind_some]
  have jt : cohousingref02_Split.j0 k c l (wholeF l) true = some ([], 1) := by
    obtain ⟨k, rfl⟩ : ∃ n, k = n + 1 := ⟨k - 1, by omega⟩
    rw [cohousingref02_Split.j0, if_pos rfl]
  by_cases h : Amt c ∧ wholeF l ≠ 0
  · obtain ⟨hn, hl, hw1, hws, hb, e⟩ := split_good c l h
    rw [e, decide_eq_true h.1, if_pos rfl]
    have hz : (wholeF l == 0) = false := beq_eq_false_iff_ne.mpr h.2
    rw [hz]
    generalize wholeF l = T at hw1 hws e
    obtain ⟨B, ok⟩ := split_ok c T l hn hw1 hws hb
    have hc := h.1
    unfold Amt at hc
    have hle := le_sum l hb
    -- what both have in common
    have key : ∀ (size sgn : Int) (k : Nat), 9000 < k → 0 ≤ size → size ≤ 1000000000 → (sgn = 1 ∧ ¬ c < 0 ∨ sgn = -1 ∧ c < 0) → SplitOK size sgn T l (splitRes c T l hn) B →
        cohousingref02_Split.l0 k c l T size (List.replicate l.length 0) (List.replicate l.length 0) size 0 = some (splitRes c T l hn, 0) := by
      intro size sgn k hk s0 s1 hsg ok
      have hq : ∀ i, i < l.length → 0 ≤ size * rd l (i : Int) / T ∧ size * rd l (i : Int) / T ≤ 1000000000 := fun i hi => by
        have hx := hb (rd l (i : Int)) (by rw [rd_nat l i hi]; exact List.getElem_mem hi)
        have hxT := hle (rd l (i : Int)) (by rw [rd_nat l i hi]; exact List.getElem_mem hi)
        refine ⟨Int.ediv_nonneg (Int.mul_nonneg s0 hx.1) (by omega), ?_⟩
        have : size * rd l (i : Int) / T ≤ size * T / T := Int.ediv_le_ediv (by omega) (Int.mul_le_mul_of_nonneg_left (by omega) s0)
        rw [Int.mul_ediv_cancel _ (by omega)] at this
        omega
      obtain ⟨P, R, lp, lr, hPR, e1⟩ := first_loop c size T l s0 s1 hw1 hb hl l.length 0 k (List.replicate l.length 0) (List.replicate l.length 0) size (by omega) (by omega) (by simp) (by simp) (fun x hx => absurd hx (Nat.not_lt_zero _)) (by simp [sumN]) (by omega) (Int.le_refl _)
      have e0 : ((0 : Nat) : Int) = 0 := rfl
      rw [e0] at e1
      rw [e1]
      -- how many get one more
      have hsum : size - sumN (fun x => size * rd l (x : Int) / T) l.length = (cnt B l.length : Int) := by
        have h1 := ok.sum
        have h2 := sum_take (splitRes c T l hn) l.length (by rw [ok.len]; exact Nat.le_refl _)
        rw [List.take_of_length_le (by rw [ok.len]; exact Nat.le_refl _), h1, sumN_congr _ (fun i => sgn * (size * rd l (i : Int) / T + if B i = true then 1 else 0)) l.length (fun i hi => ok.part i hi), sumN_mul, sumN_cnt] at h2
        rcases hsg with ⟨rfl, _⟩ | ⟨rfl, _⟩ <;> omega
      rw [hsum]
      have hst : St (fun i => size * rd l (i : Int) / T) (fun i => size * rd l (i : Int) % T) l.length (fun _ => false) P R :=
        ⟨lp, lr, fun i hi => by rw [(hPR i hi).1]; simp, fun i hi => by rw [(hPR i hi).2]; simp, fun i j _ _ h1 _ => by simp at h1⟩
      have hc0 : cnt (fun _ => false) l.length = 0 := by simp [cnt]
      have hcB := cnt_le B l.length
      have hmul : cnt B l.length * (l.length + 1) ≤ 64 * 65 := Nat.mul_le_mul (by omega) (by omega)
      obtain ⟨p, P2, R2, st, hcp, e2⟩ := pick_all c (fun i hi => Int.emod_nonneg _ (by omega)) hq hl (cnt B l.length) (fun _ => false) P R (k - l.length - 1) hst (by omega) (by omega)
      have hBt : Top (fun i => size * rd l (i : Int) % T) l.length B := fun i j hi hj h1 h2 => ok.cut i j hi hj h1 h2
      have hpB : ∀ i, i < l.length → p i = B i := fun i hi => by
        have a := top_sub st.top hBt (by omega) i hi
        have b := top_sub hBt st.top (by omega) i hi
        cases h1 : p i <;> cases h2 : B i
        · rfl
        · rw [h2] at b; rw [b rfl] at h1; cases h1
        · rw [h1] at a; rw [a rfl] at h2; cases h2
        · rfl
      have hP2 : ∀ i : Nat, i < l.length → rd P2 (i : Int) = size * rd l (i : Int) / T + if B i = true then 1 else 0 := fun i hi => by rw [st.parts i hi, hpB i hi]
      have hP2b : ∀ i : Nat, i < P2.length → 0 ≤ rd P2 (i : Int) ∧ rd P2 (i : Int) ≤ 2000000000 := fun i hi => by
        rw [st.lp] at hi
        have := hq i hi
        rw [hP2 i hi]
        split <;> omega
      rw [e2]
      obtain ⟨k2, hk2⟩ : ∃ n, k - l.length - 1 - cnt B l.length * (l.length + 1) = n + 1 := ⟨k - l.length - 1 - cnt B l.length * (l.length + 1) - 1, by omega⟩
      rw [hk2, cohousingref02_Split.l1, if_neg (by omega)]
      have h2p := st.lp
      have hres : ∀ (Q : List Int), Q.length = l.length → (∀ i : Nat, i < l.length → rd Q (i : Int) = sgn * rd P2 (i : Int)) → Q = splitRes c T l hn := fun Q hQ hQ2 => rd_ext (by rw [hQ, ok.len]) (fun i hi => by
        rw [ok.len] at hi
        rw [hQ2 i hi, hP2 i hi, ok.part i hi])
      rcases hsg with ⟨hs1, hcn⟩ | ⟨hs1, hcn⟩
      · rw [if_neg hcn, hres P2 h2p (fun i hi => by rw [hs1, Int.one_mul])]
      · have hneg := neg_loop P2 hP2b (by omega) P2.length 0 k2 P2 (by omega) (by omega) rfl (fun x hx => by rw [if_neg (Nat.not_lt_zero _)])
        rw [e0] at hneg
        have hQ := hres (P2.map (· * (-1))) (by rw [List.length_map]; exact h2p) (fun i hi => by rw [rd_map _ _ _ (by omega), hs1]; omega)
        rw [if_pos hcn, hneg, hQ]
    obtain ⟨k, rfl⟩ : ∃ n, k = n + 1 := ⟨k - 1, by omega⟩
    rw [cohousingref02_Split.j0, if_neg (by decide)]
    obtain ⟨k, rfl⟩ : ∃ n, k = n + 1 := ⟨k - 1, by omega⟩
    by_cases hneg : c < 0
    · rw [if_pos hneg, if_pos hneg] at ok
      rw [if_pos hneg, wrI (by omega), cohousingref02_Split.j1, if_pos (by omega), if_pos (by omega), Int.toNat_natCast]
      exact key (-c) (-1) k (by omega) (by omega) (by omega) (Or.inr ⟨rfl, hneg⟩) ok
    · rw [if_neg hneg, if_neg hneg] at ok
      rw [if_neg hneg, cohousingref02_Split.j1, if_pos (by omega), if_pos (by omega), Int.toNat_natCast]
      exact key c 1 k (by omega) (by omega) (by omega) (Or.inl ⟨rfl, hneg⟩) ok
  · rw [split_bad c l h]
    by_cases ha : Amt c
    · have hw : wholeF l = 0 := Classical.byContradiction (fun hw => h ⟨ha, hw⟩)
      rw [decide_eq_true ha, if_pos rfl, hw]
      rw [hw] at jt
      exact jt
    · rw [decide_eq_false ha, if_neg (by decide), jt]
end Go.Proofs.YtcbhaoaameiacaaDoor.Pure

/- The reference's rounding is money.Scale's. No Go and no memory in it. -/
namespace Go.Proofs.YtcbhaoaameiacaaDoor.Pure
open Go.RowKit Go.Proofs.YtcbhaoaameiacaaDoor.X Go.Proofs.YtcbhaoaameiacaaDoorW.PrintWords
set_option linter.unusedVariables false
theorem half_up (y d : Int) (hy : 0 ≤ y) (hd : 1 ≤ d) : (2 * y + d) / (2 * d) = y / d + if 2 * (y % d) ≥ d then 1 else 0 := by
  have e := Int.mul_ediv_add_emod y d
  have e0 := Int.emod_nonneg y (show d ≠ 0 by omega)
  have e1 := Int.emod_lt_of_pos y (show 0 < d by omega)
  have h : 2 * y + d = (2 * (y % d) + d) + 2 * d * (y / d) := by
    rw [Int.mul_assoc]
    omega
  rw [h, Int.add_mul_ediv_left _ _ (by omega)]
  generalize y % d = r at *
  by_cases hr : 2 * r ≥ d
  · rw [if_pos hr]
    have a := Int.le_ediv_of_mul_le (show 0 < 2 * d by omega) (show 1 * (2 * d) ≤ 2 * r + d by omega)
    have b := Int.ediv_lt_of_lt_mul (show 0 < 2 * d by omega) (show 2 * r + d < 2 * (2 * d) by omega)
    omega
  · rw [if_neg hr, Int.ediv_eq_zero_of_lt (by omega) (by omega)]
    omega
theorem ref_scale (k : Nat) (hk : Big k) (c n d : Int) (hn : inI64 n) (hd : inI64 d) : cohousingref02_Scale.f k c n d = some (scaleF c n d) := by
  unfold cohousingref02_Scale.f scaleF
  rw [ref_amt, Option.bind_some, ref_valid k hk n d hn hd, Option.bind_some]
  obtain ⟨k, rfl⟩ : ∃ m, k = m + 4 := ⟨k - 4, by unfold Big at hk; omega⟩
  by_cases hc : Amt c
  · rw [decide_eq_true hc, if_pos rfl]
    by_cases hv : Vld n d
    · rw [decide_eq_true hv, if_pos (show Amt c ∧ Vld n d from ⟨hc, hv⟩)]
      unfold Vld at hv
      have hp := prod_le hc (show Amt n from ⟨hv.2.2.1, hv.2.2.2.1⟩)
      have hd : 1 ≤ d ∧ d ≤ 1000000000 := ⟨hv.1, hv.2.1⟩
      have hb := rnd_bd (c * n) d 1000000000000000000 hd.1 hp
      rw [cohousingref02_Scale.j0, Bool.not_true, if_neg (by decide), if_neg (by omega)]
      generalize c * n = x at hp hb
      rw [wrap_ok (n := x) (by omega) (by omega)]
      have fin : ∀ q, q = rnd x d → ((cohousingref02_Amount.f q).bind fun t => if t = true then some (q, 0) else some (0, 3)) = some (if Amt (rnd x d) then (rnd x d, 0) else ((0 : Int), (3 : Int))) := by
        intro q hq
        rw [hq, ref_amt, Option.bind_some]
        by_cases ha : Amt (rnd x d)
        · rw [decide_eq_true ha, if_pos rfl, if_pos ha]
        · rw [decide_eq_false ha, if_neg (by decide), if_neg ha]
      by_cases hx : x < 0
      · have ey : x = -(-x) := by omega
        have hm : Int.tmod x d = -((-x) % d) := by
          conv => lhs; rw [ey]
          rw [Int.neg_tmod, Int.tmod_eq_emod_of_nonneg (by omega)]
        have hq : Int.tdiv x d = -((-x) / d) := by
          conv => lhs; rw [ey]
          rw [Int.neg_tdiv, Int.tdiv_eq_ediv_of_nonneg (by omega)]
        have hu := half_up (-x) d (by omega) hd.1
        have hr : rnd x d = -((-x) / d + if 2 * ((-x) % d) ≥ d then 1 else 0) := by
          unfold rnd
          rw [if_pos hx, ← hu]
        have m0 := Int.emod_nonneg (-x) (show d ≠ 0 by omega)
        have m1 := Int.emod_lt_of_pos (-x) (show 0 < d by omega)
        have q0 : 0 ≤ (-x) / d := Int.ediv_nonneg (by omega) (by omega)
        have q1 : (-x) / d ≤ -x := Int.ediv_le_self _ (by omega)
        rw [hm, hq]
        generalize (-x) % d = r at *
        generalize (-x) / d = q at *
        by_cases h0 : -r < 0
        · rw [if_pos h0, wrap_ok (n := -q) (by omega) (by omega), wrap_ok (n := -2 * -r) (by omega) (by omega), cohousingref02_Scale.j1]
          by_cases h2 : 2 * r ≥ d
          · rw [if_pos h2] at hr
            rw [decide_eq_true (show -2 * -r ≥ d by omega), if_pos rfl, wrap_ok (n := -q - 1) (by omega) (by omega), cohousingref02_Scale.j2, if_neg (by omega), cohousingref02_Scale.j3, if_neg (by decide)]
            exact fin _ (by omega)
          · rw [if_neg h2] at hr
            rw [decide_eq_false (show ¬ -2 * -r ≥ d by omega), if_neg (by decide), cohousingref02_Scale.j2, if_neg (by omega), cohousingref02_Scale.j3, if_neg (by decide)]
            exact fin _ (by omega)
        · rw [if_neg (by omega)] at hr
          rw [if_neg h0, wrap_ok (n := -q) (by omega) (by omega), cohousingref02_Scale.j1, if_neg (by decide), cohousingref02_Scale.j2, if_neg (by omega), cohousingref02_Scale.j3, if_neg (by decide)]
          exact fin _ (by omega)
      · have hm : Int.tmod x d = x % d := Int.tmod_eq_emod_of_nonneg (by omega)
        have hq : Int.tdiv x d = x / d := Int.tdiv_eq_ediv_of_nonneg (by omega)
        have hr : rnd x d = x / d + if 2 * (x % d) ≥ d then 1 else 0 := by
          unfold rnd
          rw [if_neg hx, half_up x d (by omega) hd.1]
        have m0 := Int.emod_nonneg x (show d ≠ 0 by omega)
        have m1 := Int.emod_lt_of_pos x (show 0 < d by omega)
        have q0 : 0 ≤ x / d := Int.ediv_nonneg (by omega) (by omega)
        have q1 : x / d ≤ x := Int.ediv_le_self _ (by omega)
        rw [hm, hq]
        generalize x % d = r at *
        generalize x / d = q at *
        rw [if_neg (by omega), wrap_ok (n := q) (by omega) (by omega), cohousingref02_Scale.j1, if_neg (by decide), cohousingref02_Scale.j2]
        by_cases h0 : r > 0
        · rw [if_pos h0, wrap_ok (n := 2 * r) (by omega) (by omega), cohousingref02_Scale.j3]
          by_cases h2 : 2 * r ≥ d
          · rw [if_pos h2] at hr
            rw [decide_eq_true h2, if_pos rfl, wrap_ok (n := q + 1) (by omega) (by omega)]
            exact fin _ (by omega)
          · rw [if_neg h2] at hr
            rw [decide_eq_false h2, if_neg (by decide)]
            exact fin _ (by omega)
        · rw [if_neg (by omega)] at hr
          rw [if_neg h0, cohousingref02_Scale.j3, if_neg (by decide)]
          exact fin _ (by omega)
    · rw [decide_eq_false hv, if_neg (show ¬ (Amt c ∧ Vld n d) from fun h => hv h.2), cohousingref02_Scale.j0, Bool.not_false, if_pos rfl]
  · rw [decide_eq_false hc, if_neg (by decide), if_neg (show ¬ (Amt c ∧ Vld n d) from fun h => hc h.1), cohousingref02_Scale.j0, if_pos rfl]
end Go.Proofs.YtcbhaoaameiacaaDoor.Pure

/- The law MoneyMatchesReference as a statement over numbers and lists: every input answers true. No Go and no memory in it. -/
namespace Go.Proofs.YtcbhaoaameiacaaDoor.Pure
open Go.RowKit Go.Proofs.YtcbhaoaameiacaaDoor.X Go.Proofs.YtcbhaoaameiacaaDoorW.PrintWords
set_option linter.unusedVariables false
theorem up_k {α : Type} {f : Nat → Option α} (h : ∀ k, LeO (f k) (f (k + 1))) (k : Nat) : ∀ (j : Nat) (r : α), f k = some r → f (k + j) = some r
  | 0, _, e => e
  | j + 1, r, e => h _ _ (up_k h k j r e)
theorem split_len (c : Int) (l : List Int) : ∃ r, money_Split.f c l = some r ∧ r.1.length ≤ 64 := by
  by_cases h : Amt c ∧ wholeF l ≠ 0
  · obtain ⟨hn, hl, hw1, hws, hb, e⟩ := split_good c l h
    obtain ⟨B, ok⟩ := split_ok c (wholeF l) l hn hw1 hws hb
    exact ⟨_, e, by rw [ok.len]; exact hl⟩
  · exact ⟨_, split_bad c l h, by simp⟩
theorem parse_some (s : ByteArray) (hs : s.size ≤ 1000) : ∃ r, money_Parse.f s = some r := by
  by_cases hf : ∃ x y, Form (trimB s 45).toList x y
  · obtain ⟨x, y, hf⟩ := hf
    exact ⟨_, money_form s hs x y hf⟩
  · exact ⟨_, money_no s hs hf⟩
theorem text_both (c : Int) (K : Nat) (hk : 20 ≤ K) : ∃ u1 u2, money_Text.f c = some (u1, u2) ∧ cohousingref02_Text.f K c = some (u1, u2) := by
  by_cases ha : Amt c
  · obtain ⟨t, t1, t2⟩ := text_f c ha
    obtain ⟨u, u1, u2⟩ := ref_text c ha K hk
    obtain rfl : t = u := ba_inj.1 (t2.trans u2.symm)
    exact ⟨_, _, t1, u1⟩
  · exact ⟨_, _, text_no c ha, ref_text_no c ha K⟩
theorem law_ok (l : List Int) (c n d : Int) (ws : List Int) (s : ByteArray) (hn : inI64 n) (hd : inI64 d) (k : Nat) (hk : Big k) : cohousinglaw02_MoneyMatchesReference.f (20 + k) l c n d ws s = some true := by
  have hk5 : 20000 < k := by unfold Big at hk; omega
  have hkB : Big (20 + k) := by unfold Big at hk ⊢; omega
  obtain ⟨K, hK⟩ : ∃ K, 20 + k = K := ⟨_, rfl⟩
  have hh : cohousinglaw02_head.f K = some true := by rw [← hK]; exact up_k cohousinglaw02_head.mono 20 k true head_ok
  have hK5 : 20000 < K := by omega
  rw [hK] at hkB ⊢
  have hl1 : (l.take 100).length ≤ 100 := by rw [List.length_take]; omega
  obtain ⟨K', hK'⟩ : ∃ m, K = m + 1 := ⟨K - 1, by omega⟩
  have hsc : money_Scale.f K c n d = some (scaleF c n d) := by rw [hK']; exact scale_eq K' c n d
  obtain ⟨r, hr, hrl⟩ := split_len c (ws.take 100)
  have hmn : 0 ≤ mn (s.size : Int) 100 ∧ mn (s.size : Int) 100 ≤ (s.size : Int) ∧ mn (s.size : Int) 100 ≤ 100 := by unfold mn; split <;> omega
  have hex : (s.extract 0 (mn (s.size : Int) 100).toNat).size ≤ 1000 := by
    rw [ba_size, ba_extract, List.drop_zero, List.length_take]
    omega
  obtain ⟨q, hq⟩ := parse_some (s.extract 0 (mn (s.size : Int) 100).toNat) hex
  obtain ⟨u1, u2, ht1, ht2⟩ := text_both c K (by omega)
  unfold cohousinglaw02_MoneyMatchesReference.f
  exact if_pos ⟨(addF 0 (l.take 100)).1, (addF 0 (l.take 100)).2, (scaleF c n d).1, (scaleF c n d).2, r.2, u2, q.1, q.2, r.1, u1,
    ⟨hh, add_eq _ (by omega) K (by omega), ref_add _ (by omega) K (by omega), hsc, ref_scale K hkB c n d hn hd, hr, (ref_split c (ws.take 100) K (by omega)).trans hr, same_self r.1 (by omega) K (by omega), ht1, ht2, hq, (ref_parse _ hex K (by omega)).trans hq⟩⟩
theorem MoneyMatchesReference : ∀ (l0 : List Int) (a1 : Int) (a2_0 : Int) (a2_1 : Int) (l3 : List Int) (a4 : ByteArray), l0.length ≤ maxLen → l0.length * 8 ≤ 140737488351232 → (∀ x ∈ l0, (Lit.int .i64 x).wf = true) → (Lit.int .i64 a1).wf = true → (Lit.int .i64 a2_0).wf = true → (Lit.int .i64 a2_1).wf = true → l3.length ≤ maxLen → l3.length * 8 ≤ 140737488351232 → (∀ x ∈ l3, (Lit.int .i64 x).wf = true) → a4.size ≤ 140737488351232 → ∃ k, cohousinglaw02_MoneyMatchesReference.f k l0 a1 a2_0 a2_1 l3 a4 = some true := by
  intro l0 a1 a2_0 a2_1 l3 a4 _ _ _ _ w1 w2 _ _ _ _
  obtain ⟨K, hK⟩ : ∃ K : Nat, Big K := ⟨20000000000000000000, Nat.le_refl _⟩
  exact ⟨_, law_ok l0 a1 a2_0 a2_1 l3 a4 (wf_in w1) (wf_in w2) K hK⟩
end Go.Proofs.YtcbhaoaameiacaaDoor.Pure

