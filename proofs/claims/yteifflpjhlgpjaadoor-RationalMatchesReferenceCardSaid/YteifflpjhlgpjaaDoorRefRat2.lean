/- What the reference of rational computes, part 2: order, floor, digits, text. -/
import Derived.Test.YteifflpjhlgpjaaDoorXx7
import Derived.Test.YteifflpjhlgpjaaDoorRefRat
import Derived.Test.YteifflpjhlgpjaaDoorPureRationalText
namespace Go.Proofs.YteifflpjhlgpjaaDoor.Pure
open Go.RowKit Go.Proofs.YteifflpjhlgpjaaDoor.X Go.Proofs.YteifflpjhlgpjaaDoorW.PrintWords

theorem ref_compare (k : Nat) (hk : Big k) (a b c d : Int) (ha : inI64 a) (hb : inI64 b) (hc : inI64 c) (hd : inI64 d) : cohousingref01_Compare.f k a b c d = rational_Compare.f k a b c d := by
  unfold cohousingref01_Compare.f rational_Compare.f
  rw [ref_both k hk a b c d ha hb hc hd, Option.bind_some, valid_eq, valid_eq]
  obtain ⟨k', rfl, _⟩ := hk.succ
  cases vld a b <;> cases vld c d <;> simp [rational_Compare.j0]
theorem ref_floor (k : Nat) (hk : Big k) (n d : Int) (hn : inI64 n) (hd : inI64 d) : cohousingref01_Floor.f k n d = rational_Floor.f n d := by
  unfold cohousingref01_Floor.f rational_Floor.f
  rw [ref_valid k hk n d hn hd, valid_eq, Option.bind_some, Option.bind_some]
  by_cases hv : vld n d = true
  · rw [if_pos hv, if_pos hv]
    obtain ⟨q, hq, rfl, rfl⟩ := of_vld hv
    have b := hq.bnd
    generalize q.num = n at *
    generalize (q.den : Int) = d at *
    have hd1 : ¬ d = 0 := by omega
    rw [if_neg hd1, if_neg hd1]
    have hd0 : 0 < d := by omega
    by_cases h0 : n < 0
    · rw [if_pos h0]
      have e0 : n.tdiv d = -((-n) / d) := by
        have := Int.neg_tdiv (a := -n) (b := d)
        rw [Int.neg_neg] at this
        rw [this, Int.tdiv_eq_ediv_of_nonneg (by omega)]
      have h1 := Int.ediv_mul_le (-n) (b := d) (by omega)
      have h2 : 0 ≤ (-n) / d := Int.ediv_nonneg (by omega) (by omega)
      have h3 : (-n) / d ≤ -n := Int.ediv_le_self _ (by omega)
      have h4 : 0 ≤ (-n) / d * d := Int.mul_nonneg h2 (by omega)
      rw [e0]
      rw [wrap_id (x := -((-n) / d)) (by omega) (by omega), Int.neg_mul, wrap_id (x := -((-n) / d * d)) (by omega) (by omega)]
      by_cases h5 : -((-n) / d * d) = n
      · rw [if_pos h5, if_neg (by omega)]
      · rw [if_neg h5, if_pos (by omega)]
    · rw [if_neg h0]
      have e0 : n.tdiv d = n / d := Int.tdiv_eq_ediv_of_nonneg (by omega)
      have h1 := Int.ediv_mul_le n (b := d) (by omega)
      have h2 : 0 ≤ n / d := Int.ediv_nonneg (by omega) (by omega)
      have h3 : n / d ≤ n := Int.ediv_le_self _ (by omega)
      have h4 : 0 ≤ n / d * d := Int.mul_nonneg h2 (by omega)
      rw [e0, wrap_id (x := n / d) (by omega) (by omega), wrap_id (x := n / d * d) (by omega) (by omega), if_neg (by omega)]
  · rw [if_neg hv, if_neg hv]
theorem dig_str (m : Nat) : strOfNums ([(wrap64 (48 + (Int.tmod (m : Int) 10))) % 256] : List Int) = ⟨#[UInt8.ofNat (48 + m % 10)]⟩ := by
  have e : (wrap64 (48 + (Int.tmod (m : Int) 10))) % 256 = ((48 + m % 10 : Nat) : Int) := by
    rw [show (10 : Int) = ((10 : Nat) : Int) from rfl, ← Int.ofNat_tmod]
    unfold wrap64
    omega
  rw [e]
  rfl
theorem dec_step (n : Nat) : Lib.decDigits n = (if n > 9 then Lib.decDigits (n / 10) else []) ++ [UInt8.ofNat (48 + n % 10)] := by
  rw [Lib.decDigits]
  by_cases h : n < 10
  · rw [dif_pos h, if_neg (by omega), Nat.mod_eq_of_lt h]
    rfl
  · rw [dif_neg h, if_pos (by omega)]
theorem digits_l0 : ∀ (k n : Nat) (acc : ByteArray), n < k → n + acc.size ≤ 9000000000000000000 →
    cohousingref01_Digits.l0 k (n : Int) acc = some (if n > 9 then ⟨(Lib.decDigits (n / 10)).toArray⟩ ++ acc else acc)
  | 0, _, _, h, _ => absurd h (Nat.not_lt_zero _)
  | k + 1, n, acc, h, hs => by
    unfold cohousingref01_Digits.l0
    by_cases h9 : n > 9
    · rw [if_pos (by omega), if_pos h9]
      have e1 : wrap64 (Int.tdiv (n : Int) 10) = ((n / 10 : Nat) : Int) := by
        rw [show (10 : Int) = ((10 : Nat) : Int) from rfl, ← Int.ofNat_tdiv]
        exact wrap_id (by omega) (by omega)
      simp only [Option.bind_some]
      rw [e1, dig_str]
      have hz : (ByteArray.mk #[UInt8.ofNat (48 + n / 10 % 10)]).size = 1 := rfl
      have hz2 : (ByteArray.mk #[UInt8.ofNat (48 + n / 10 % 10)] ++ acc).size = 1 + acc.size := by rw [ByteArray.size_append, hz]
      rw [hz, if_pos (by omega), digits_l0 k (n / 10) _ (by omega) (by rw [hz2]; omega)]
      refine congrArg some ?_
      rw [dec_step (n / 10)]
      by_cases h8 : n / 10 > 9
      · rw [if_pos h8, if_pos h8, ← ba_inj, ba_append, ba_append, ba_append, ba_mk (Lib.decDigits (n / 10 / 10) ++ _), ba_mk (Lib.decDigits (n / 10 / 10)), List.append_assoc]
        exact congrArg (fun x => _ ++ (x ++ _)) (ba_mk [UInt8.ofNat (48 + n / 10 % 10)])
      · rw [if_neg h8, if_neg h8, ← ba_inj, ba_append, ba_append]
        rfl
    · rw [if_neg (by omega), if_neg h9]
theorem ref_digits (k : Nat) (hk : Big k) (n : Nat) (hn : n ≤ 8000000000000000000) : cohousingref01_Digits.f k (n : Int) = some ⟨(Lib.decDigits n).toArray⟩ := by
  unfold cohousingref01_Digits.f
  have hz : (ByteArray.mk #[UInt8.ofNat (48 + n % 10)]).size = 1 := rfl
  rw [dig_str, digits_l0 k n _ (by unfold Big at hk; omega) (by rw [hz]; omega)]
  refine congrArg some ?_
  rw [dec_step n]
  by_cases h8 : n > 9
  · rw [if_pos h8, if_pos h8, ← ba_inj, ba_append, ba_mk (Lib.decDigits (n / 10) ++ _), ba_mk (Lib.decDigits (n / 10))]
    exact congrArg (fun x => _ ++ x) (ba_mk [UInt8.ofNat (48 + n % 10)])
  · rw [if_neg h8, if_neg h8]
    rfl
end Go.Proofs.YteifflpjhlgpjaaDoor.Pure

