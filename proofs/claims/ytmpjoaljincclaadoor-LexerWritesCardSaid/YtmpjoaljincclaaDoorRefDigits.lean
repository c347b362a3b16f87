/- What the reference writes: digits, tokens. No Go and no memory in it. -/
import Derived.Test.YtmpjoaljincclaaDoorXx10
import Derived.Test.YtmpjoaljincclaaDoorLexWrite
namespace Go.Proofs.YtmpjoaljincclaaDoor.Pure
open Go.RowKit Go.Proofs.YtmpjoaljincclaaDoor.X Go.Proofs.YtmpjoaljincclaaDoorW.PrintWords

theorem dig_str (m : Nat) : strOfNums ([(wrap64 (48 + (Int.tmod (m : Int) 10))) % 256] : List Int) = ⟨#[UInt8.ofNat (48 + m % 10)]⟩ := by
  have e : (wrap64 (48 + (Int.tmod (m : Int) 10))) % 256 = ((48 + m % 10 : Nat) : Int) := by
    rw [show (10 : Int) = ((10 : Nat) : Int) from rfl, ← Int.ofNat_tmod]
    unfold wrap64
    omega
  rw [e]
  rfl
theorem digits_l0 : ∀ (k n : Nat) (acc : ByteArray), n < k → n + acc.size ≤ 9000000000000000000 →
    cohousingref01_Digits.l0 k (n : Int) acc = some (if n > 9 then ⟨(Lib.decDigits (n / 10)).toArray⟩ ++ acc else acc)
  | 0, _, _, h, _ => absurd h (Nat.not_lt_zero _)
  | k + 1, n, acc, h, hs => by
    unfold cohousingref01_Digits.l0
    by_cases h9 : n > 9
    · rw [if_pos (by omega), if_pos h9]
      have e1 : wrap64 (Int.tdiv (n : Int) 10) = ((n / 10 : Nat) : Int) := by
        rw [show (10 : Int) = ((10 : Nat) : Int) from rfl, ← Int.ofNat_tdiv]
        exact wrap_ok (by omega) (by omega)
      simp only [Option.bind_some]
      rw [e1, dig_str]
      have hz : (ByteArray.mk #[UInt8.ofNat (48 + n / 10 % 10)]).size = 1 := rfl
      have hz2 : (ByteArray.mk #[UInt8.ofNat (48 + n / 10 % 10)] ++ acc).size = 1 + acc.size := by rw [ByteArray.size_append, hz]
      rw [hz, if_pos (by clear e1; omega), digits_l0 k (n / 10) _ (by clear e1; omega) (by rw [hz2]; clear e1; omega)]
      refine congrArg some ?_
      rw [dec_step (n / 10)]
      by_cases h8 : n / 10 > 9
      · rw [if_pos h8, if_pos h8, ← ba_inj, ba_append, ba_append, ba_append, ba_mk (Lib.decDigits (n / 10 / 10) ++ _), ba_mk (Lib.decDigits (n / 10 / 10)), List.append_assoc]
        exact congrArg (fun x => _ ++ (x ++ _)) (ba_mk [UInt8.ofNat (48 + n / 10 % 10)])
      · rw [if_neg h8, if_neg h8, ← ba_inj, ba_append, ba_append]
        rfl
    · rw [if_neg (by omega), if_neg h9]
theorem ref_digits (k : Nat) (hk : Big k) (n : Nat) (hn : n ≤ 8000000000000000000) : cohousingref01_Digits.f k (n : Int) = some ⟨(Lib.decDigits n).toArray⟩ := by
  unfold cohousingref01_Digits.f
  have hz : (ByteArray.mk #[UInt8.ofNat (48 + n % 10)]).size = 1 := rfl
  rw [dig_str, digits_l0 k n _ (by unfold Big at hk; omega) (by rw [hz]; omega)]
  refine congrArg some ?_
  rw [dec_step n]
  by_cases h8 : n > 9
  · rw [if_pos h8, if_pos h8, ← ba_inj, ba_append, ba_mk (Lib.decDigits (n / 10) ++ _), ba_mk (Lib.decDigits (n / 10))]
    exact congrArg (fun x => _ ++ x) (ba_mk [UInt8.ofNat (48 + n % 10)])
  · rw [if_neg h8, if_neg h8]
    rfl
end Go.Proofs.YtmpjoaljincclaaDoor.Pure

