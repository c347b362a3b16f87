/- What the reference of the lexer computes: the same as the program's functions, over lists of bytes. No Go and no memory in it. -/
import Derived.Test.YtmpjoaljincclaaDoorLexBase
import Derived.Test.YtmpjoaljincclaaDoorXx9
namespace Go.Proofs.YtmpjoaljincclaaDoor.Pure
open Go.RowKit Go.Proofs.YtmpjoaljincclaaDoor.X Go.Proofs.YtmpjoaljincclaaDoorW.PrintWords

theorem bt_nat (s : ByteArray) (i : Nat) (h : i < s.size) : bt s (i : Int) = (s[i].toNat : Int) := by
  unfold bt
  rw [dif_pos (by rw [Int.toNat_natCast]; exact h)]
  rfl
theorem ref_digit (b : UInt8) : cohousingref07_Digit.f (b.toNat : Int) = some (isDigit b) := by
  unfold cohousingref07_Digit.f isDigit
  by_cases h : (b.toNat : Int) ≥ 48
  · have h2 : 48 ≤ b.toNat := by omega
    rw [if_pos h]
    simp [h2]
    omega
  · have h2 : ¬ 48 ≤ b.toNat := by omega
    rw [if_neg h]
    simp [h2]
theorem ref_letter (b : UInt8) : cohousingref07_Letter.f (b.toNat : Int) = some (isLetter b) := by
  unfold cohousingref07_Letter.f isLetter
  by_cases h : (b.toNat : Int) ≥ 97
  · have h2 : 97 ≤ b.toNat := by omega
    rw [if_pos h]
    simp [h2]
    omega
  · have h2 : ¬ 97 ≤ b.toNat := by omega
    rw [if_neg h]
    simp [h2]
theorem byte_eq (b : UInt8) (k : Nat) (hk : k < 256) : ((b.toNat : Int) = (k : Int)) ↔ b = UInt8.ofNat k := by
  have h := eq_toNat b k hk
  constructor
  · intro e
    rw [← beq_iff_eq, h, decide_eq_true_iff]
    omega
  · intro e
    have h2 : (b == UInt8.ofNat k) = true := by rw [e]; simp
    rw [h, decide_eq_true_iff] at h2
    omega
theorem ref_part (b : UInt8) (num : Bool) : cohousingref07_Part.f (b.toNat : Int) num = some (partB num b) := by
  unfold cohousingref07_Part.f partB
  have e1 : ((b.toNat : Int) = 95) ↔ b = 95 := byte_eq b 95 (by omega)
  have e2 : ((b.toNat : Int) = 46) ↔ b = 46 := byte_eq b 46 (by omega)
  rw [ref_letter, ref_digit, Option.bind_some, Option.bind_some]
  cases isLetter b
  · cases isDigit b
    · by_cases h3 : b = 95
      · have := e1.mpr h3
        simp [h3]
      · have h4 : ¬ ((b.toNat : Int) = 95) := fun h => h3 (e1.mp h)
        cases num
        · simp [h3, h4]
        · simp [h3, h4]
          rw [Bool.eq_iff_iff, beq_iff_eq, e2]
          simp [h3]
    · simp
  · simp
theorem ref_blank (b : UInt8) : cohousingref07_Blank.f (b.toNat : Int) = some (isBlank b) := by
  unfold cohousingref07_Blank.f isBlank
  have e1 : ((b.toNat : Int) = 32) ↔ b = 32 := byte_eq b 32 (by omega)
  have e2 : ((b.toNat : Int) = 9) ↔ b = 9 := byte_eq b 9 (by omega)
  have e3 : ((b.toNat : Int) = 10) ↔ b = 10 := byte_eq b 10 (by omega)
  have e4 : ((b.toNat : Int) = 13) ↔ b = 13 := byte_eq b 13 (by omega)
  by_cases h1 : b = 32
  · rw [if_pos (e1.mpr h1)]
    simp [h1]
  · rw [if_neg (fun h => h1 (e1.mp h))]
    by_cases h2 : b = 9
    · rw [if_pos (e2.mpr h2)]
      simp [h2]
    · rw [if_neg (fun h => h2 (e2.mp h))]
      by_cases h3 : b = 10
      · rw [if_pos (e3.mpr h3)]
        simp [h3]
      · rw [if_neg (fun h => h3 (e3.mp h))]
        simp [h1, h2, h3]
        rw [Bool.eq_iff_iff, beq_iff_eq, e4]
        simp [h1, h2, h3]
/-! ### Gaps -/
theorem ref_skip_loop (s : ByteArray) (hs : s.size ≤ 100000) : ∀ (k i : Nat) (c : Bool), i ≤ s.size → 2 * (s.size - i) < k → cohousingref07_Skip.l0 k s (i : Int) c = some ((i + skipN c (s.data.toList.drop i) : Nat) : Int)
  | 0, _, _, _, h => absurd h (Nat.not_lt_zero _)
  | k + 1, i, c, hi, hk => by
    rw [cohousingref07_Skip.l0]
    by_cases hlt : i < s.size
    · obtain ⟨k, rfl⟩ : ∃ m, k = m + 1 := ⟨k - 1, by omega⟩
      have hw : wrap64 ((i : Int) + 1) = ((i + 1 : Nat) : Int) := by unfold wrap64; omega
      have ih := fun d => ref_skip_loop s hs k (i + 1) d (by omega) (by omega)
      have e10 : ((s[i].toNat : Int) = 10) ↔ s[i] = 10 := byte_eq s[i] 10 (by omega)
      have e35 : ((s[i].toNat : Int) = 35) ↔ s[i] = 35 := byte_eq s[i] 35 (by omega)
      have hj : ∀ d : Bool, cohousingref07_Skip.j1 (k + 1) s (i : Int) d = some ((i + (if ((if s[i] == 35 then true else d) || isBlank s[i]) then 1 + skipN (if s[i] == 35 then true else d) (s.data.toList.drop (i + 1)) else 0) : Nat) : Int) := by
        intro d
        rw [cohousingref07_Skip.j1, if_pos (by omega), if_pos (by omega), bt_nat s i hlt, hw, ih, ih, ref_blank, Option.bind_some]
        by_cases h2 : s[i] = 35
        · rw [if_pos (e35.mpr h2)]
          simp [h2]
          omega
        · rw [if_neg (fun h => h2 (e35.mp h))]
          have h3 : (s[i] == 35) = false := by simpa using h2
          rw [h3]
          simp only [Bool.false_eq_true, if_false]
          cases d with
          | true =>
            simp
            omega
          | false =>
            cases isBlank s[i] with
            | true =>
              simp
              omega
            | false => simp
      rw [if_pos (by omega), if_pos (by omega), bt_nat s i hlt, drop_cons s i hlt, skipN, hj, hj]
      by_cases h1 : s[i] = 10
      · have h4 : (s[i] == 10) = true := by simpa using h1
        have h3 : (s[i] == 35) = false := by rw [h1]; decide
        rw [if_pos (e10.mpr h1), h3, h4]
        simp
      · have h4 : (s[i] == 10) = false := by simpa using h1
        rw [if_neg (fun h => h1 (e10.mp h)), h4]
        simp
    · rw [if_neg (by omega), List.drop_of_length_le (by simp; omega)]
      simp [skipN]
theorem ref_skip (s : ByteArray) (hs : s.size ≤ 100000) (i k : Nat) (hi : i ≤ s.size) (hk : 200001 ≤ k) : cohousingref07_Skip.f k s (i : Int) = some (skipTo s i : Nat) := ref_skip_loop s hs k i false hi (by omega)
/-! ### Signs -/
theorem lit_eq {b : UInt8} {k : Nat} (hk : k < 256) : (decide ((b.toNat : Int) = (k : Int))) = (b == UInt8.ofNat k) := by
  rw [Bool.eq_iff_iff, decide_eq_true_iff, beq_iff_eq]
  exact byte_eq b k hk
theorem sign_tab : ∀ (n : Fin 256) (q : Bool), cohousingref07_Sign.j0 2 (n.val : Int) q = some (if q = true then 2 else if oneB (UInt8.ofNat n.val) || UInt8.ofNat n.val == 60 || UInt8.ofNat n.val == 62 then 1 else 0) := by decide +kernel
theorem ref_sign (s : ByteArray) (i k : Nat) (hi : i < s.size) (hk : 10 ≤ k) : cohousingref07_Sign.f k (s.extract i s.size) = some ((signN (s.data.toList.drop i) : Nat) : Int) := by
  obtain ⟨k, rfl⟩ : ∃ m, k = m + 1 + 1 := ⟨k - 2, by omega⟩
  have hsz : (s.extract i s.size).size = s.size - i := by simp
  have h0 : bt (s.extract i s.size) 0 = (s[i].toNat : Int) := by
    have := bt_nat (s.extract i s.size) 0 (by omega)
    rw [show ((0 : Nat) : Int) = 0 from rfl] at this
    rw [this]
    simp [ByteArray.getElem_extract]
  have key : ∀ (q : Bool), cohousingref07_Sign.j0 (k + 1 + 1) (s[i].toNat : Int) q = some (if q = true then 2 else if oneB s[i] || s[i] == 60 || s[i] == 62 then 1 else 0) := by
    intro q
    have h := sign_tab ⟨s[i].toNat, s[i].toNat_lt⟩ q
    simp only [UInt8.ofNat_toNat] at h
    exact at_rounds (fun k => (cohousingref07_Sign.mono_l k).1 (s[i].toNat : Int) q) (show 2 ≤ k + 1 + 1 by omega) h
  have f1 : ((s[i].toNat : Int) = 33) ↔ s[i] = 33 := byte_eq s[i] 33 (by omega)
  have f2 : ((s[i].toNat : Int) = 60) ↔ s[i] = 60 := byte_eq s[i] 60 (by omega)
  have f3 : ((s[i].toNat : Int) = 62) ↔ s[i] = 62 := byte_eq s[i] 62 (by omega)
  have hq : ((s[i].toNat : Int) == 62) = (s[i] == 62) := by rw [Bool.eq_iff_iff, beq_iff_eq, beq_iff_eq]; exact f3
  unfold cohousingref07_Sign.f
  rw [if_pos (by omega), h0, drop_cons s i hi, signN]
  simp only [key, hq, f1, f2, if_true, Bool.false_eq_true, if_false]
  -- what follows
  have hnext : ∀ {α : Type} (x y : α), (if ((s.extract i s.size).size : Int) > 1 then (if 1 < ((s.extract i s.size).size : Int) then (if bt (s.extract i s.size) 1 = 61 then some x else some y) else none) else some y) = some (if (s.data.toList.drop (i + 1)).head? == some 61 then x else y) := by
    intro α x y
    by_cases h1 : i + 1 < s.size
    · have hb := bt_nat (s.extract i s.size) 1 (by omega)
      rw [show ((1 : Nat) : Int) = 1 from rfl] at hb
      have hb2 : (s.extract i s.size)[1]'(by omega) = s[i + 1] := by simp [ByteArray.getElem_extract]
      rw [hb2] at hb
      have e61 : ((s[i + 1].toNat : Int) = 61) ↔ s[i + 1] = 61 := byte_eq s[i + 1] 61 (by omega)
      rw [if_pos (by omega), if_pos (by omega), hb, drop_cons s (i + 1) h1]
      by_cases h2 : s[i + 1] = 61
      · rw [if_pos (e61.mpr h2)]
        simp [h2]
      · rw [if_neg (fun h => h2 (e61.mp h))]
        simp [h2]
    · rw [if_neg (by omega), List.drop_of_length_le (by simp; omega)]
      simp
  have hx : (if s[i] = 33 then (some (2 : Int)) else if s[i] = 60 then (some (2 : Int)) else (some (if (s[i] == 62) = true then (2 : Int) else if (oneB s[i] || s[i] == 60 || s[i] == 62) = true then 1 else 0))) = some (if (s[i] == 33 || s[i] == 60 || s[i] == 62) = true then (2 : Int) else if (oneB s[i] || s[i] == 60 || s[i] == 62) = true then 1 else 0) := by
    by_cases c1 : s[i] = 33
    · simp [c1]
    by_cases c2 : s[i] = 60
    · simp [c2]
    by_cases c3 : s[i] = 62
    · simp [c3]
    simp [c1, c2, c3]
  rw [hx, hnext]
  congr 1
  cases hh : ((s.data.toList.drop (i + 1)).head? == some 61) with
  | true =>
    by_cases c1 : (s[i] == 33 || s[i] == 60 || s[i] == 62) = true
    · rw [if_pos rfl, if_pos c1, if_pos c1, if_pos rfl]
      rfl
    · have c2 := c1
      simp only [Bool.or_eq_true, not_or, Bool.not_eq_true] at c2
      rw [if_pos rfl, if_neg c1, if_neg c1, c2.1.2, c2.2]
      simp only [Bool.or_false]
      split <;> rfl
  | false =>
    simp only [Bool.false_eq_true, if_false]
    by_cases c1 : (s[i] == 33 || s[i] == 60 || s[i] == 62) = true
    · rw [if_pos c1]
      by_cases c3 : s[i] = 33
      · rw [c3]
        decide
      · have c4 : (s[i] == 33) = false := by simpa using c3
        rw [c4] at c1
        simp only [Bool.or_eq_true, beq_iff_eq, Bool.false_eq_true, false_or] at c1
        rcases c1 with c1 | c1 <;> rw [c1] <;> decide
    · have c2 := c1
      simp only [Bool.or_eq_true, not_or, Bool.not_eq_true] at c2
      rw [if_neg c1, c2.1.2, c2.2]
      simp only [Bool.or_false]
      split <;> rfl
end Go.Proofs.YtmpjoaljincclaaDoor.Pure

