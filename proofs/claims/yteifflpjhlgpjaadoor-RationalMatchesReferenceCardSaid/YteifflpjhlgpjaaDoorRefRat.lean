/- What the reference of rational (cohousingref01) computes, over numbers: the same as the program's. -/
import Derived.Test.YteifflpjhlgpjaaDoorXx6
import Derived.Test.YteifflpjhlgpjaaDoorRatLaws2
namespace Go.Proofs.YteifflpjhlgpjaaDoor.Pure
open Go.RowKit Go.Proofs.YteifflpjhlgpjaaDoor.X Go.Proofs.YteifflpjhlgpjaaDoorW.PrintWords

/-- Rounds that serve every loop of the reference. -/
def Big (k : Nat) : Prop := 20000000000000000000 ≤ k
theorem Big.succ {k : Nat} (h : Big k) : ∃ k', k = k' + 1 ∧ 19999999999999999999 ≤ k' := by
  unfold Big at h
  exact ⟨k - 1, by omega, by omega⟩
theorem ref_common : ∀ (k a b : Nat), b < k → cohousingref01_common.l0 k (a : Int) (b : Int) = some ((Nat.gcd a b : Nat) : Int)
  | 0, _, _, h => absurd h (Nat.not_lt_zero _)
  | k + 1, a, b, h => by
    unfold cohousingref01_common.l0
    by_cases hb : b = 0
    · subst hb
      simp
    · rw [if_neg (by omega), ← Int.ofNat_tmod, ref_common k b (a % b) (by have := Nat.mod_lt a (Nat.pos_of_ne_zero hb); omega)]
      rw [Nat.gcd_comm a b, Nat.gcd_rec b a, Nat.gcd_comm]
theorem ref_size (n : Int) (h : inI64 n) : cohousingref01_size.f n = some ((n.natAbs : Nat) : Int) := by
  unfold cohousingref01_size.f
  unfold inI64 at h
  simp only [IntKind.wrap_u64]
  unfold wrap64
  split
  · congr 1
    omega
  · congr 1
    omega
theorem ref_make (k : Nat) (hk : Big k) (n d : Int) (hn : inI64 n) (hd : inI64 d) : cohousingref01_Make.f k n d = some (ratMk n d) := by
  unfold cohousingref01_Make.f ratMk
  by_cases hz : d = 0
  · rw [if_pos hz, if_pos hz]
  · rw [if_neg hz, if_neg hz, ref_size n hn, ref_size d hd]
    simp only [Option.bind_some]
    have bn : n.natAbs ≤ 9223372036854775808 := by unfold inI64 at hn; omega
    have bd : d.natAbs ≤ 9223372036854775808 := by unfold inI64 at hd; omega
    unfold cohousingref01_common.f
    have hk0 := hk
    rw [ref_common k _ _ (by unfold Big at hk; omega), Option.bind_some]
    have hg : 0 < Nat.gcd n.natAbs d.natAbs := Nat.gcd_pos_of_pos_right _ (by omega)
    have e1 : n.natAbs / Nat.gcd n.natAbs d.natAbs ≤ 9223372036854775808 := Nat.le_trans (Nat.div_le_self _ _) bn
    have e2 : d.natAbs / Nat.gcd n.natAbs d.natAbs ≤ 9223372036854775808 := Nat.le_trans (Nat.div_le_self _ _) bd
    generalize Nat.gcd n.natAbs d.natAbs = g at *
    rw [if_neg (show ¬ ((g : Int) = 0) by omega), ← Int.ofNat_tdiv, ← Int.ofNat_tdiv]
    generalize n.natAbs / g = a at *
    generalize d.natAbs / g = b at *
    have w1 : IntKind.u64.wrap (a : Int) = a := by simp only [IntKind.wrap_u64]; omega
    have w2 : IntKind.u64.wrap (b : Int) = b := by simp only [IntKind.wrap_u64]; omega
    rw [w1, w2]
    obtain ⟨k', rfl, _⟩ := hk0.succ
    by_cases ha : 1000000000 < a
    · rw [if_pos (by omega), if_pos (.inl ha)]
      simp [cohousingref01_Make.j0]
    · rw [if_neg (by omega)]
      by_cases hb : 1000000000 < b
      · rw [if_pos (.inr hb), decide_eq_true (show (b : Int) > 1000000000 by omega)]
        simp [cohousingref01_Make.j0]
      · rw [if_neg (by omega), decide_eq_false (show ¬ ((b : Int) > 1000000000) by omega)]
        have v1 : wrap64 (a : Int) = a := wrap_id (by omega) (by omega)
        have v2 : wrap64 (b : Int) = b := wrap_id (by omega) (by omega)
        have v3 : wrap64 (-(a : Int)) = -a := wrap_id (by omega) (by omega)
        simp only [cohousingref01_Make.j0, Bool.false_eq_true, if_false, v1, v2, v3]
        split <;> rfl
theorem ref_valid (k : Nat) (hk : Big k) (n d : Int) (hn : inI64 n) (hd : inI64 d) : cohousingref01_Valid.f k n d = some (vld n d) := by
  unfold cohousingref01_Valid.f
  by_cases h1 : d < 1
  · rw [if_pos h1]
    unfold vld
    rw [if_neg (by omega)]
  · rw [if_neg h1, ref_make k hk n d hn hd, Option.bind_some, ratMk_eq n d (by omega)]
    rcases outQ_cases (Rat.divInt n d) with ⟨hf, e⟩ | ⟨hf, e⟩
    · rw [e]
      simp only [if_true]
      congr 1
      rw [Bool.eq_iff_iff, vld_iff, Bool.and_eq_true, beq_iff_eq, beq_iff_eq]
      have := hf.bnd
      constructor
      · rintro ⟨h2, h3⟩
        exact ⟨h2, h3, by omega, by omega, by omega⟩
      · rintro ⟨h2, h3, _⟩
        exact ⟨h2, h3⟩
    · rw [e]
      rw [if_neg (by decide)]
      congr 1
      symm
      rw [Bool.eq_false_iff]
      intro h
      rw [vld_iff] at h
      exact hf ⟨by omega, by omega⟩
theorem ref_both (k : Nat) (hk : Big k) (a b c d : Int) (ha : inI64 a) (hb : inI64 b) (hc : inI64 c) (hd : inI64 d) : cohousingref01_Both.f k a b c d = some (vld a b && vld c d) := by
  unfold cohousingref01_Both.f
  rw [ref_valid k hk a b ha hb, Option.bind_some]
  cases vld a b with
  | false => rfl
  | true =>
    rw [if_pos rfl, ref_valid k hk c d hc hd]
    rfl
theorem wrap_inI (x : Int) : inI64 (wrap64 x) := by unfold inI64 wrap64; omega
theorem ref_add (k : Nat) (hk : Big k) (a b c d : Int) (ha : inI64 a) (hb : inI64 b) (hc : inI64 c) (hd : inI64 d) : cohousingref01_Add.f k a b c d = rational_Add.f a b c d := by
  unfold cohousingref01_Add.f rational_Add.f applyR
  rw [ref_both k hk a b c d ha hb hc hd, Option.bind_some, ref_make k hk _ _ (wrap_inI _) (wrap_inI _), Option.bind_some]
  generalize ratMk _ _ = z
  cases vld a b <;> cases vld c d <;> rfl
theorem ref_sub (k : Nat) (hk : Big k) (a b c d : Int) (ha : inI64 a) (hb : inI64 b) (hc : inI64 c) (hd : inI64 d) : cohousingref01_Sub.f k a b c d = rational_Sub.f a b c d := by
  unfold cohousingref01_Sub.f rational_Sub.f applyR
  rw [ref_both k hk a b c d ha hb hc hd, Option.bind_some, ref_make k hk _ _ (wrap_inI _) (wrap_inI _), Option.bind_some]
  generalize ratMk _ _ = z
  cases vld a b <;> cases vld c d <;> rfl
theorem ref_mul (k : Nat) (hk : Big k) (a b c d : Int) (ha : inI64 a) (hb : inI64 b) (hc : inI64 c) (hd : inI64 d) : cohousingref01_Mul.f k a b c d = rational_Mul.f a b c d := by
  unfold cohousingref01_Mul.f rational_Mul.f applyR
  rw [ref_both k hk a b c d ha hb hc hd, Option.bind_some, ref_make k hk _ _ (wrap_inI _) (wrap_inI _), Option.bind_some]
  generalize ratMk _ _ = z
  cases vld a b <;> cases vld c d <;> rfl
theorem ref_div (k : Nat) (hk : Big k) (a b c d : Int) (ha : inI64 a) (hb : inI64 b) (hc : inI64 c) (hd : inI64 d) : cohousingref01_Div.f k a b c d = rational_Div.f a b c d := by
  unfold cohousingref01_Div.f rational_Div.f applyR
  rw [ref_both k hk a b c d ha hb hc hd, Option.bind_some, ref_make k hk _ _ (wrap_inI _) (wrap_inI _), Option.bind_some]
  generalize ratMk _ _ = z
  cases vld a b <;> cases vld c d <;> rfl
end Go.Proofs.YteifflpjhlgpjaaDoor.Pure

