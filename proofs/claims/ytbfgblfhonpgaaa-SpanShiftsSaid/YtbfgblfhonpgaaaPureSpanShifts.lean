/- The law SpanShifts as a statement over lists of stretches and a number: every input answers true. No Go and no memory in it. -/
import Derived.Test.YtbfgblfhonpgaaaSpanMove
import Derived.Test.YtbfgblfhonpgaaaXx18
namespace Go.Proofs.Ytbfgblfhonpgaaa.Pure
open Go.RowKit Go.Proofs.Ytbfgblfhonpgaaa.X Go.Proofs.YtbfgblfhonpgaaaW.PrintWords

theorem moved (kf : Bool → Bool → Bool) (h0 : kf false false = false) (c : Int) (a b x y : List S30) (ca : IsSet (mv c a)) (cb : IsSet (mv c b)) (hx : IsSet x) (hy : IsSet y)
    (mx : ∀ d, mem x d = kf (mem a d) (mem b d)) (my : ∀ d, mem y d = kf (mem (mv c a) d) (mem (mv c b) d)) : mv c x = y := mv_op kf h0 c a b x y ca.1 cb.1 hx.1 hy.1 mx my
theorem same_self (k : Nat) (l : List S30) (h : IsSet l) (hk : 1000 < k) : cohousingref04_Same.f k l l = some true := same_sets k l l h h hk (fun _ => rfl)
theorem shifts_ok (k : Nat) (a b : List S30) (c : Int) (ha : IsSet a) (hb : IsSet b) (hc : IsSet (mv c a)) (hd : IsSet (mv c b)) (la : ¬ (400 : Int) < (a.length : Int)) (lb : ¬ (400 : Int) < (b.length : Int)) (h1 : ¬ c < -36524) (h2 : ¬ c > 36524) (hk : 1000 < k) : shiftsF k a b (mv c a) (mv c b) c = some true := by
  have hl : a.length + b.length ≤ 1000 := by omega
  have hl' : (mv c a).length + (mv c b).length ≤ 1000 := by rw [mv_len, mv_len]; exact hl
  obtain ⟨s1, n1, m1⟩ := U_ok ha hb hl
  obtain ⟨s2, n2, m2⟩ := M_ok ha hb hl
  obtain ⟨s3, n3, m3⟩ := D_ok ha hb hl
  obtain ⟨t1, _, p1⟩ := U_ok hc hd hl'
  obtain ⟨t2, _, p2⟩ := M_ok hc hd hl'
  obtain ⟨t3, _, p3⟩ := D_ok hc hd hl'
  have e1 := moved (fun x y => x || y) rfl c a b _ _ hc hd s1 t1 m1 p1
  have e2 := moved (fun x y => x && y) rfl c a b _ _ hc hd s2 t2 m2 p2
  have e3 := moved (fun x y => x && !y) rfl c a b _ _ hc hd s3 t3 m3 p3
  have b1 : (U a b).length < k := by have := s1.2; omega
  have b2 : (M a b).length < k := by have := s2.2; omega
  have b3 : (D a b).length < k := by have := s3.2; omega
  have hcc : -36525 ≤ c ∧ c ≤ 36525 := by omega
  unfold shiftsF
  rw [du k a b ha hb hl hk, Option.bind_some, du k _ _ hc hd hl' hk, Option.bind_some, shift_eq _ c k s1 hcc b1, Option.bind_some, e1, same_self k _ t1 hk, Option.bind_some,
    dm k a b ha hb hl hk, Option.bind_some, dm k _ _ hc hd hl' hk, Option.bind_some, shift_eq _ c k s2 hcc b2, Option.bind_some, e2, same_self k _ t2 hk, Option.bind_some,
    dd k a b ha hb hl hk, Option.bind_some, dd k _ _ hc hd hl' hk, Option.bind_some, shift_eq _ c k s3 hcc b3, Option.bind_some, e3, same_self k _ t3 hk, Option.bind_some]
  rw [if_pos]
  exact ⟨⟨rfl, rfl, rfl⟩, ⟨rfl, rfl, rfl⟩, rfl, rfl, rfl⟩
theorem SpanShifts : ∀ (l0 : List S30) (l1 : List S30) (a2 : Int), l0.length * 16 ≤ 140737488351232 → (∀ x ∈ l0, (Lit.int .i64 x.f0).wf = true ∧ (Lit.int .i64 x.f1).wf = true) → l1.length * 16 ≤ 140737488351232 → (∀ x ∈ l1, (Lit.int .i64 x.f0).wf = true ∧ (Lit.int .i64 x.f1).wf = true) → (Lit.int .i64 a2).wf = true → ∃ k, cohousinglaw04_SpanShifts.f k l0 l1 a2 = some true := by
  intro a b c ha _ hb _ _
  refine ⟨a.length + b.length + 1020, ?_⟩
  have hh : cohousinglaw04_head.f (a.length + b.length + 1020) = some true :=
    at_rounds (g := fun k => cohousinglaw04_head.f k) cohousinglaw04_head.mono (by omega) head_ok
  unfold cohousinglaw04_SpanShifts.f
  rw [hh, Option.bind_some, if_pos rfl, valid_eq a _ (by omega) (by omega), Option.bind_some, valid_eq b _ (by omega) (by omega)]
  by_cases h1 : IsSet a
  · rw [tr_of h1, if_pos rfl, Option.bind_some]
    by_cases h2 : IsSet b
    · rw [tr_of h2, if_pos rfl]
      by_cases c1 : c < -36524
      · rw [if_pos c1]
      by_cases c2 : c > 36524
      · rw [if_neg c1, if_pos c2]
      by_cases l1 : (400 : Int) < (a.length : Int)
      · rw [if_neg c1, if_neg c2, if_pos l1]
      by_cases l2 : (400 : Int) < (b.length : Int)
      · rw [if_neg c1, if_neg c2, if_neg l1, if_pos l2]
      rw [if_neg c1, if_neg c2, if_neg l1, if_neg l2, shift_eq a c _ h1 (by omega) (by omega), Option.bind_some, shift_eq b c _ h2 (by omega) (by omega), Option.bind_some,
        valid_eq (mv c a) _ (by rw [mv_len]; omega) (by rw [mv_len]; omega), Option.bind_some]
      by_cases h3 : IsSet (mv c a)
      · rw [tr_of h3, if_pos rfl, valid_eq (mv c b) _ (by rw [mv_len]; omega) (by rw [mv_len]; omega), Option.bind_some]
        by_cases h4 : IsSet (mv c b)
        · rw [tr_of h4, if_pos rfl]
          exact shifts_ok _ a b c h1 h2 h3 h4 l1 l2 c1 c2 (by omega)
        · rw [tr_not h4, if_neg (by decide)]
      · rw [tr_not h3, if_neg (by decide)]
    · rw [tr_not h2, if_neg (by decide)]
  · rw [tr_not h1, if_neg (by decide)]
end Go.Proofs.Ytbfgblfhonpgaaa.Pure

