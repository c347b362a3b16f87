/- What serves all laws of the lexer: the reference's Make, numbers from digits. No Go and no memory in it. -/
import Derived.Test.YtmpjoaljincclaaDoorLexHead
import Derived.Test.YtmpjoaljincclaaDoorXx7
namespace Go.Proofs.YtmpjoaljincclaaDoor.Pure
open Go.RowKit Go.Proofs.YtmpjoaljincclaaDoor.X Go.Proofs.YtmpjoaljincclaaDoorW.PrintWords

theorem wrap_ok {n : Int} (h1 : -9223372036854775808 ≤ n) (h2 : n ≤ 9223372036854775807) : wrap64 n = n := by unfold wrap64; omega
/-- Rounds that serve every loop of the reference. -/
def Big (k : Nat) : Prop := 20000000000000000000 ≤ k
theorem Big.succ {k : Nat} (h : Big k) : ∃ k', k = k' + 1 ∧ 19999999999999999999 ≤ k' := by
  unfold Big at h
  exact ⟨k - 1, by omega, by omega⟩
theorem ref_common : ∀ (k a b : Nat), b < k → cohousingref01_common.l0 k (a : Int) (b : Int) = some ((Nat.gcd a b : Nat) : Int)
  | 0, _, _, h => absurd h (Nat.not_lt_zero _)
  | k + 1, a, b, h => by
    unfold cohousingref01_common.l0
    by_cases hb : b = 0
    · subst hb
      simp
    · rw [if_neg (by omega), ← Int.ofNat_tmod, ref_common k b (a % b) (by have := Nat.mod_lt a (Nat.pos_of_ne_zero hb); omega)]
      rw [Nat.gcd_comm a b, Nat.gcd_rec b a, Nat.gcd_comm]
theorem ref_size (n : Int) (h : inI64 n) : cohousingref01_size.f n = some ((n.natAbs : Nat) : Int) := by
  unfold cohousingref01_size.f
  unfold inI64 at h
  simp only [IntKind.wrap_u64]
  unfold wrap64
  split
  · congr 1
    omega
  · congr 1
    omega
theorem ref_make (k : Nat) (hk : Big k) (n d : Int) (hn : inI64 n) (hd : inI64 d) : cohousingref01_Make.f k n d = some (ratMk n d) := by
  unfold cohousingref01_Make.f ratMk
  by_cases hz : d = 0
  · rw [if_pos hz, if_pos hz]
  · rw [if_neg hz, if_neg hz, ref_size n hn, ref_size d hd]
    simp only [Option.bind_some]
    have bn : n.natAbs ≤ 9223372036854775808 := by unfold inI64 at hn; omega
    have bd : d.natAbs ≤ 9223372036854775808 := by unfold inI64 at hd; omega
    unfold cohousingref01_common.f
    have hk0 := hk
    rw [ref_common k _ _ (by unfold Big at hk; omega), Option.bind_some]
    have hg : 0 < Nat.gcd n.natAbs d.natAbs := Nat.gcd_pos_of_pos_right _ (by omega)
    have e1 : n.natAbs / Nat.gcd n.natAbs d.natAbs ≤ 9223372036854775808 := Nat.le_trans (Nat.div_le_self _ _) bn
    have e2 : d.natAbs / Nat.gcd n.natAbs d.natAbs ≤ 9223372036854775808 := Nat.le_trans (Nat.div_le_self _ _) bd
    generalize Nat.gcd n.natAbs d.natAbs = g at *
    rw [if_neg (show ¬ ((g : Int) = 0) by omega), ← Int.ofNat_tdiv, ← Int.ofNat_tdiv]
    generalize n.natAbs / g = a at *
    generalize d.natAbs / g = b at *
    have w1 : IntKind.u64.wrap (a : Int) = a := by simp only [IntKind.wrap_u64]; omega
    have w2 : IntKind.u64.wrap (b : Int) = b := by simp only [IntKind.wrap_u64]; omega
    rw [w1, w2]
    obtain ⟨k', rfl, _⟩ := hk0.succ
    by_cases ha : 1000000000 < a
    · rw [if_pos (by omega), if_pos (.inl ha)]
      simp [cohousingref01_Make.j0]
    · rw [if_neg (by omega)]
      by_cases hb : 1000000000 < b
      · rw [if_pos (.inr hb), decide_eq_true (show (b : Int) > 1000000000 by omega)]
        simp [cohousingref01_Make.j0]
      · rw [if_neg (by omega), decide_eq_false (show ¬ ((b : Int) > 1000000000) by omega)]
        have v1 : wrap64 (a : Int) = a := wrap_ok (by omega) (by omega)
        have v2 : wrap64 (b : Int) = b := wrap_ok (by omega) (by omega)
        have v3 : wrap64 (-(a : Int)) = -a := wrap_ok (by omega) (by omega)
        simp only [cohousingref01_Make.j0, Bool.false_eq_true, if_false, v1, v2, v3]
        split <;> rfl

/-! ### Bytes -/
theorem numOf_lt : ∀ (l : List UInt8) (n k : Nat), (∀ b ∈ l, isDigit b = true) → n < 10 ^ k → numOf l n < 10 ^ (k + l.length)
  | [], n, k, _, h => by simpa [numOf] using h
  | b :: l, n, k, hd, h => by
    have hb := hd b List.mem_cons_self
    unfold isDigit at hb
    simp only [Bool.and_eq_true, decide_eq_true_iff] at hb
    have hs : (10 : Nat) ^ (k + 1) = 10 * 10 ^ k := by rw [Nat.pow_succ, Nat.mul_comm]
    have := numOf_lt l (10 * n + (b.toNat - 48)) (k + 1) (fun x hx => hd x (List.mem_cons_of_mem _ hx)) (by omega)
    rw [List.length_cons, show k + (l.length + 1) = k + 1 + l.length by omega]
    exact this
theorem idx_none : ∀ l : List UInt8, (∀ b ∈ l, isDigit b = true) → Lib.indexByte l 46 = -1
  | [], _ => rfl
  | b :: l, h => by
    have hb := h b List.mem_cons_self
    have h1 : (b == 46) = false := by
      rw [beq_eq_false_iff_ne]
      rintro rfl
      exact absurd hb (by decide)
    rw [Lib.indexByte, h1, idx_none l (fun x hx => h x (List.mem_cons_of_mem _ hx))]
    rfl
theorem idx_at : ∀ (l r : List UInt8), (∀ b ∈ l, isDigit b = true) → Lib.indexByte (l ++ 46 :: r) 46 = l.length
  | [], r, _ => rfl
  | b :: l, r, h => by
    have hb := h b List.mem_cons_self
    have h1 : (b == 46) = false := by
      rw [beq_eq_false_iff_ne]
      rintro rfl
      exact absurd hb (by decide)
    have h2 : (((l.length : Nat) : Int) == -1) = false := by rw [beq_eq_false_iff_ne]; omega
    rw [List.cons_append, Lib.indexByte, h1, idx_at l r (fun x hx => h x (List.mem_cons_of_mem _ hx)), h2, List.length_cons]
    simp only [Bool.false_eq_true, if_false]
    omega
end Go.Proofs.YtmpjoaljincclaaDoor.Pure

