/- The law SpanCounts as a statement over lists of stretches: every input answers true. No Go and no memory in it. -/
import Derived.Test.YtbfgblfhonpgaaaSpanSum
import Derived.Test.YtbfgblfhonpgaaaXx17
namespace Go.Proofs.Ytbfgblfhonpgaaa.Pure
open Go.RowKit Go.Proofs.Ytbfgblfhonpgaaa.X Go.Proofs.YtbfgblfhonpgaaaW.PrintWords

theorem counts_ok (k : Nat) (a b : List S30) (ha : IsSet a) (hb : IsSet b) (la : ¬ (400 : Int) < (a.length : Int)) (lb : ¬ (400 : Int) < (b.length : Int)) (hk : 1000 < k) : countsF k a b = some true := by
  have hl : a.length + b.length ≤ 1000 := by omega
  obtain ⟨s1, n1, _⟩ := U_ok ha hb hl
  obtain ⟨s2, n2, _⟩ := M_ok ha hb hl
  obtain ⟨s3, n3, _⟩ := D_ok ha hb hl
  obtain ⟨e1, e2⟩ := sums a b ha hb hl
  have z0 := sum_small a ha.1
  have z1 := sum_small b hb.1
  have z2 := sum_small _ s1.1
  have z3 := sum_small _ s2.1
  have z4 := sum_small _ s3.1
  have y0 := sum_len a ha.1
  have y1 := sum_len b hb.1
  have y2 := sum_len _ s1.1
  have y3 := sum_len _ s2.1
  have y4 := sum_len _ s3.1
  unfold countsF
  rw [du k a b ha hb hl hk, Option.bind_some, dm k a b ha hb hl hk, Option.bind_some, dd k a b ha hb hl hk, Option.bind_some,
    sum_eq a k (by omega) ha, Option.bind_some, sum_eq b k (by omega) hb, Option.bind_some, sum_eq (U a b) k (by have := s1.2; omega) s1, Option.bind_some, sum_eq (M a b) k (by have := s2.2; omega) s2, Option.bind_some, sum_eq (D a b) k (by have := s3.2; omega) s3, Option.bind_some]
  rw [if_pos]
  refine ⟨⟨rfl, rfl, rfl⟩, ⟨rfl, rfl, rfl, rfl, rfl⟩, ⟨by omega, by omega, by simp only; omega, by simp only; omega, by simp only; omega⟩, ?_, ?_⟩
  · show wrap64 (sumL a + sumL b) = wrap64 (sumL (U a b) + sumL (M a b))
    rw [e1]
  · show wrap64 (sumL (D a b) + sumL (M a b)) = sumL a
    rw [e2]
    unfold wrap64
    omega
theorem SpanCounts : ∀ (l0 : List S30) (l1 : List S30), l0.length * 16 ≤ 140737488351232 → (∀ x ∈ l0, (Lit.int .i64 x.f0).wf = true ∧ (Lit.int .i64 x.f1).wf = true) → l1.length * 16 ≤ 140737488351232 → (∀ x ∈ l1, (Lit.int .i64 x.f0).wf = true ∧ (Lit.int .i64 x.f1).wf = true) → ∃ k, cohousinglaw04_SpanCounts.f k l0 l1 = some true := by
  intro a b ha _ hb _
  refine ⟨a.length + b.length + 1020, ?_⟩
  have hh : cohousinglaw04_head.f (a.length + b.length + 1020) = some true :=
    at_rounds (g := fun k => cohousinglaw04_head.f k) cohousinglaw04_head.mono (by omega) head_ok
  unfold cohousinglaw04_SpanCounts.f
  rw [hh, Option.bind_some, if_pos rfl, valid_eq a _ (by omega) (by omega), Option.bind_some, valid_eq b _ (by omega) (by omega)]
  by_cases h1 : IsSet a
  · rw [tr_of h1, if_pos rfl, Option.bind_some]
    by_cases h2 : IsSet b
    · rw [tr_of h2, if_pos rfl]
      by_cases l1 : (400 : Int) < (a.length : Int)
      · rw [if_pos l1]
      · rw [if_neg l1]
        by_cases l2 : (400 : Int) < (b.length : Int)
        · rw [if_pos l2]
        · rw [if_neg l2]
          exact counts_ok _ a b h1 h2 l1 l2 (by omega)
    · rw [tr_not h2, if_neg (by decide)]
  · rw [tr_not h1, if_neg (by decide)]
end Go.Proofs.Ytbfgblfhonpgaaa.Pure

