/- How many days a set has: each day of the calendar once. No Go and no memory in it. -/
import Derived.Test.YtbfgblfhonpgaaaSpanOps
namespace Go.Proofs.Ytbfgblfhonpgaaa.Pure
open Go.RowKit Go.Proofs.Ytbfgblfhonpgaaa.X Go.Proofs.YtbfgblfhonpgaaaW.PrintWords

/-- How many days. -/
def sumL : List S30 → Int
  | [] => 0
  | s :: l => s.f1 - s.f0 + sumL l
theorem sum_l (l : List S30) (h : IsSet l) : ∀ (j i k : Nat) (x : Int), i + j = l.length → j < k → 0 ≤ x → x ≤ 36525 * (i : Int) → span_Count.l0 k x l (l.length : Int) (i : Int) = some (x + sumL (l.drop i), 0)
  | 0, i, k + 1, x, hi, _, _, _ => by rw [span_Count.l0, if_neg (by omega), List.drop_eq_nil_of_le (by omega), sumL, Int.add_zero]
  | j + 1, i, k + 1, x, hi, hk, h0, h1 => by
    have hl := h.2
    have w1 : wrap64 ((i : Int) + 1) = ((i + 1 : Nat) : Int) := by unfold wrap64; omega
    have hs := (str_iff _).mp ((apart_chain h.1).1 i (by omega))
    have w2 : wrap64 ((rd_T30 l (i : Int)).f1 - (rd_T30 l (i : Int)).f0) = (rd_T30 l (i : Int)).f1 - (rd_T30 l (i : Int)).f0 := by clear w1; unfold wrap64; omega
    have w3 : wrap64 (x + ((rd_T30 l (i : Int)).f1 - (rd_T30 l (i : Int)).f0)) = x + ((rd_T30 l (i : Int)).f1 - (rd_T30 l (i : Int)).f0) := by clear w1 w2; unfold wrap64; omega
    rw [span_Count.l0, if_pos (by clear w1 w2 w3; omega), if_pos (by clear w1 w2 w3; omega), if_pos (by clear w1 w2 w3; omega), w1, w2, w3, sum_l l h j (i + 1) k _ (by clear w1 w2 w3; omega) (by clear w1 w2 w3; omega) (by clear w1 w2 w3; omega) (by clear w1 w2 w3; omega), drop_one l i (by clear w1 w2 w3; omega), sumL, Int.add_assoc]
theorem sum_eq (l : List S30) (k : Nat) (hk : l.length < k) (h : IsSet l) : span_Count.f k l = some (sumL l, 0) := by
  have := h.2
  unfold span_Count.f
  rw [valid_eq l k (by omega) hk, Option.bind_some, tr_of h, if_pos rfl]
  have := sum_l l h l.length 0 k 0 (by omega) hk (by omega) (by omega)
  rw [Int.zero_add] at this
  exact this
theorem count_in (a b : Nat) (hab : a ≤ b) : ∀ n, b ≤ n → (List.range n).countP (fun d => decide (a ≤ d) && decide (d < b)) = b - a
  | 0, h => by
    have : b = 0 := by omega
    subst this
    simp
  | n + 1, h => by
    rw [List.range_succ, List.countP_append, List.countP_singleton]
    rcases Nat.lt_or_ge n b with h1 | h1
    · have hb : b = n + 1 := by omega
      have low : (List.range n).countP (fun d => decide (a ≤ d) && decide (d < b)) = n - a := by
        rcases Nat.lt_or_ge n a with h2 | h2
        · have : (List.range n).countP (fun d => decide (a ≤ d) && decide (d < b)) = 0 := by
            rw [List.countP_eq_zero]
            intro d hd
            have := List.mem_range.mp hd
            simp
            omega
          omega
        · have e : (List.range n).countP (fun d => decide (a ≤ d) && decide (d < b)) = (List.range n).countP (fun d => decide (a ≤ d) && decide (d < n)) := by
            refine List.countP_congr fun d hd => ?_
            have := List.mem_range.mp hd
            simp
            omega
          rw [e, count_in a n h2 n (Nat.le_refl _)]
      rw [low]
      by_cases h3 : a ≤ n
      · rw [if_pos (by simp; omega)]; omega
      · rw [if_neg (by simp; omega)]; omega
    · rw [count_in a b hab n h1, if_neg (by simp; omega)]
      omega
/-- The days of the calendar that a set has. -/
def daysN (l : List S30) : Nat := (List.range 36525).countP (fun d : Nat => mem l (d : Int))
theorem sum_days : ∀ (l : List S30), Apart l → sumL l = (daysN l : Int)
  | [], _ => by
    have : daysN [] = 0 := by
      unfold daysN
      rw [List.countP_eq_zero]
      intro d _
      simp [mem]
    rw [this]; rfl
  | s :: l, h => by
    have hs := h.head.1
    have ih := sum_days l h.tail
    have e : daysN (s :: l) = (List.range 36525).countP (fun d => decide (s.f0.toNat ≤ d) && decide (d < s.f1.toNat)) + daysN l := by
      unfold daysN
      have : ∀ m : List Nat, m.countP (fun d : Nat => mem (s :: l) (d : Int)) = m.countP (fun d => decide (s.f0.toNat ≤ d) && decide (d < s.f1.toNat)) + m.countP (fun d : Nat => mem l (d : Int)) := by
        intro m
        induction m with
        | nil => rfl
        | cons d m ihm =>
          rw [List.countP_cons, List.countP_cons, List.countP_cons, ihm]
          have hd : dayIn (d : Int) s = (decide (s.f0.toNat ≤ d) && decide (d < s.f1.toNat)) := by
            rw [Bool.eq_iff_iff, in_iff, Bool.and_eq_true, decide_eq_true_eq, decide_eq_true_eq]
            omega
          rw [mem_cons, hd]
          have h4 : (decide (s.f0.toNat ≤ d) && decide (d < s.f1.toNat)) = true → mem l (d : Int) = false := by
            intro h1
            cases h3 : mem l (d : Int) with
            | false => rfl
            | true =>
              have := h.gap _ h3
              simp at h1
              omega
          clear hd ihm
          revert h4
          generalize (decide (s.f0.toNat ≤ d) && decide (d < s.f1.toNat)) = b1
          generalize mem l (d : Int) = b2
          intro h4
          cases b1 <;> cases b2 <;> simp at h4 ⊢ <;> omega
      exact this _
    rw [e, count_in s.f0.toNat s.f1.toNat (by omega) 36525 (by omega), sumL, ih]
    omega
theorem countP_split (p q : Nat → Bool) : ∀ m : List Nat, m.countP (fun d => p d || q d) + m.countP (fun d => p d && q d) = m.countP p + m.countP q ∧ m.countP (fun d => p d && !q d) + m.countP (fun d => p d && q d) = m.countP p
  | [] => by simp
  | d :: m => by
    have ih := countP_split p q m
    simp only [List.countP_cons]
    cases p d <;> cases q d <;> simp <;> omega
theorem sum_len : ∀ (l : List S30), Apart l → (l.length : Int) ≤ sumL l
  | [], _ => by simp [sumL]
  | s :: l, h => by
    have := h.head.1
    have := sum_len l h.tail
    rw [sumL, List.length_cons]
    omega
theorem sum_small (l : List S30) (h : Apart l) : 0 ≤ sumL l ∧ sumL l ≤ 36525 := by
  rw [sum_days l h]
  have : daysN l ≤ 36525 := by
    unfold daysN
    have := List.countP_le_length (p := fun d : Nat => mem l (d : Int)) (l := List.range 36525)
    rw [List.length_range] at this
    exact this
  omega
theorem days_of (l : List S30) (p : Int → Bool) (h : ∀ d, mem l d = p d) : daysN l = (List.range 36525).countP (fun d : Nat => p (d : Int)) := by
  unfold daysN
  congr 1
  funext d
  exact h _
theorem sums (a b : List S30) (ha : IsSet a) (hb : IsSet b) (hl : a.length + b.length ≤ 1000) : sumL a + sumL b = sumL (U a b) + sumL (M a b) ∧ sumL (D a b) + sumL (M a b) = sumL a := by
  obtain ⟨s1, _, m1⟩ := U_ok ha hb hl
  obtain ⟨s2, _, m2⟩ := M_ok ha hb hl
  obtain ⟨s3, _, m3⟩ := D_ok ha hb hl
  rw [sum_days a ha.1, sum_days b hb.1, sum_days _ s1.1, sum_days _ s2.1, sum_days _ s3.1, days_of _ _ m1, days_of _ _ m2, days_of _ _ m3]
  have := countP_split (fun d : Nat => mem a (d : Int)) (fun d : Nat => mem b (d : Int)) (List.range 36525)
  unfold daysN
  omega
end Go.Proofs.Ytbfgblfhonpgaaa.Pure

