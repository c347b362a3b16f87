/- The value of a number's text, from its digits; a fraction written back. No Go and no memory in it. -/
import Derived.Test.YtmpjoaljincclaaDoorLexBase
namespace Go.Proofs.YtmpjoaljincclaaDoor.Pure
open Go.RowKit Go.Proofs.YtmpjoaljincclaaDoor.X Go.Proofs.YtmpjoaljincclaaDoorW.PrintWords

theorem val_int (s : ByteArray) (hall : ∀ b ∈ s.data.toList, isDigit b = true) (h9 : s.size ≤ 9) : valF s = ratMk (numOf s.data.toList 0 : Nat) 1 := by
  have hidx := idx_none s.data.toList hall
  have hc : cutAt s 46 = (s, ⟨#[]⟩, false) := by unfold cutAt; rw [if_neg (by rw [hidx]; decide)]
  have happ : (s ++ ⟨#[]⟩ : ByteArray) = s := by rw [← ba_inj, ba_append]; simp [ba_toList]
  have hany : s.data.toList.any (fun b => !isDigit b) = false := by
    rw [List.any_eq_false]
    intro b hb
    rw [hall b hb]
    decide
  unfold valF
  rw [hc]
  simp only
  rw [happ, hany, if_neg (by decide), if_pos (show ((⟨#[]⟩ : ByteArray).size = 0) from rfl)]
  simp only [Bool.false_eq_true, false_and, or_false]
  rw [if_neg (by omega)]
theorem val_point (s : ByteArray) (a b : List UInt8) (e : s.data.toList = a ++ 46 :: b) (ha : ∀ c ∈ a, isDigit c = true) (hb : ∀ c ∈ b, isDigit c = true) (h9 : a.length ≤ 9) (hb1 : 1 ≤ b.length) (hb2 : b.length ≤ 2) : valF s = ratMk (numOf (a ++ b) 0 : Nat) (if b.length = 1 then 10 else 100) := by
  have hsz : s.size = a.length + 1 + b.length := by
    have : s.size = s.data.toList.length := rfl
    rw [this, e, List.length_append, List.length_cons]
    omega
  have hidx : Lib.indexByte s.data.toList 46 = a.length := by rw [e]; exact idx_at a b ha
  have hc : cutAt s 46 = (s.extract 0 a.length, s.extract (a.length + 1) s.size, true) := by
    unfold cutAt
    rw [hidx, if_pos (by omega), Int.toNat_natCast]
  have happ : (s.extract 0 a.length ++ s.extract (a.length + 1) s.size).data.toList = a ++ b := by
    rw [ByteArray.data_append, Array.toList_append, extract_drop, ByteArray.data_extract, Array.toList_extract, e]
    have e1 : (a ++ 46 :: b).drop (a.length + 1) = b := by
      rw [show a ++ 46 :: b = (a ++ [46]) ++ b by simp, List.drop_left' (by simp)]
    rw [e1]
    simp [List.extract]
  have hany : (a ++ b).any (fun c => !isDigit c) = false := by
    rw [List.any_eq_false]
    intro c hcc
    rcases List.mem_append.mp hcc with h | h
    · rw [ha c h]; decide
    · rw [hb c h]; decide
  unfold valF
  rw [hc]
  simp only
  rw [happ, hany, if_neg (by decide)]
  have ea : (s.extract 0 a.length).size = a.length := by rw [ByteArray.size_extract]; omega
  have eb : (s.extract (a.length + 1) s.size).size = b.length := by rw [ByteArray.size_extract]; omega
  rw [ea, eb]
  simp only [true_and]
  rw [if_neg (by omega), if_neg (show ¬ (b.length = 0) by omega)]
/-- A reduced fraction: whatever fraction equals it is told by it. -/
theorem ratMk_nat (x y : Nat) (hy : 0 < y) : ratMk (x : Int) (y : Int) = if 1000000000 < x / Nat.gcd x y ∨ 1000000000 < y / Nat.gcd x y then (0, 0, 3) else (((x / Nat.gcd x y : Nat) : Int), ((y / Nat.gcd x y : Nat) : Int), 0) := by
  unfold ratMk
  rw [if_neg (by omega), Int.natAbs_natCast, Int.natAbs_natCast]
  have h1 : decide ((x : Int) < 0) = false := decide_eq_false (by omega)
  have h2 : decide ((y : Int) < 0) = false := decide_eq_false (by omega)
  rw [h1, h2]
  simp
theorem ratMk_back (x y z w n d : Nat) (hy : 0 < y) (hw : 0 < w) (h : ratMk (x : Int) (y : Int) = ((n : Int), (d : Int), 0)) (hz : z * d = n * w) : ratMk (z : Int) (w : Int) = ((n : Int), (d : Int), 0) ∧ 0 < d ∧ d ∣ y ∧ Nat.gcd n d = 1 := by
  rw [ratMk_nat x y hy] at h
  have hg : 0 < Nat.gcd x y := Nat.gcd_pos_of_pos_right _ hy
  by_cases hb : 1000000000 < x / Nat.gcd x y ∨ 1000000000 < y / Nat.gcd x y
  · rw [if_pos hb] at h
    have := congrArg (fun q : Int × Int × Int => q.2.2) h
    exact absurd (show (3 : Int) = 0 from this) (by decide)
  · rw [if_neg hb] at h
    have h1 : x / Nat.gcd x y = n := by
      have := congrArg (fun q : Int × Int × Int => q.1) h
      exact Int.ofNat.inj this
    have h2 : y / Nat.gcd x y = d := by
      have := congrArg (fun q : Int × Int × Int => q.2.1) h
      exact Int.ofNat.inj this
    have hd : 0 < d := by
      rw [← h2]
      exact Nat.div_pos (Nat.le_of_dvd hy (Nat.gcd_dvd_right x y)) hg
    have hco : Nat.gcd n d = 1 := by
      rw [← h1, ← h2]
      exact Nat.coprime_div_gcd_div_gcd hg
    have hdy : d ∣ y := by rw [← h2]; exact Nat.div_dvd_of_dvd (Nat.gcd_dvd_right x y)
    have hdw : d ∣ w := by
      have : d ∣ n * w := ⟨z, by rw [← hz, Nat.mul_comm]⟩
      exact Nat.Coprime.dvd_of_dvd_mul_left (show Nat.Coprime d n by rw [Nat.coprime_iff_gcd_eq_one, Nat.gcd_comm]; exact hco) this
    obtain ⟨t, rfl⟩ := hdw
    have ht : 0 < t := Nat.pos_of_mul_pos_left hw
    have hzn : z = n * t := by
      have : d * z = d * (n * t) := by rw [Nat.mul_comm d z, hz, ← Nat.mul_assoc, Nat.mul_comm n d, Nat.mul_assoc]
      exact Nat.eq_of_mul_eq_mul_left hd this
    subst hzn
    refine ⟨?_, hd, hdy, hco⟩
    have hgt : Nat.gcd (n * t) (d * t) = t := by rw [Nat.gcd_mul_right, hco, Nat.one_mul]
    rw [ratMk_nat _ _ hw, hgt, Nat.mul_div_cancel _ ht, Nat.mul_div_cancel _ ht, if_neg (by rw [← h1, ← h2]; exact hb)]
end Go.Proofs.YtmpjoaljincclaaDoor.Pure

