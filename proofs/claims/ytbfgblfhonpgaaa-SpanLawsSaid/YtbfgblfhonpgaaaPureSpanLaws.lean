/- The law SpanLaws as a statement over lists of stretches: every input answers true. No Go and no memory in it. -/
import Derived.Test.YtbfgblfhonpgaaaSpanOps
namespace Go.Proofs.Ytbfgblfhonpgaaa.Pure
open Go.RowKit Go.Proofs.Ytbfgblfhonpgaaa.X Go.Proofs.YtbfgblfhonpgaaaW.PrintWords

theorem laws_j3 (k : Nat) (a b c : List S30) (ha : IsSet a) (hb : IsSet b) (hc : IsSet c) (la : a.length ≤ 200) (lb : b.length ≤ 200) (lc : c.length ≤ 200) (hk : 1000 < k) : cohousinglaw04_SpanLaws.j3 (k + 1) a b c true true (U b c) = some true := by
  obtain ⟨s1, n1, m1⟩ := U_ok hb hc (by omega)
  obtain ⟨s2, n2, m2⟩ := D_ok ha s1 (by omega)
  obtain ⟨s3, n3, m3⟩ := D_ok ha hb (by omega)
  obtain ⟨s4, n4, m4⟩ := D_ok s3 hc (by omega)
  rw [cohousinglaw04_SpanLaws.j3, dd k a (U b c) ha s1 (by omega) hk, Option.bind_some, dd k a b ha hb (by omega) hk, Option.bind_some, dd k (D a b) c s3 hc (by omega) hk, Option.bind_some, if_pos rfl, if_pos rfl,
    same_sets k _ _ s2 s4 hk (fun d => by rw [m2, m4, m1, m3]; cases mem a d <;> cases mem b d <;> cases mem c d <;> rfl), Option.bind_some, if_pos rfl]
theorem laws_j2 (k : Nat) (a b c : List S30) (ha : IsSet a) (hb : IsSet b) (hc : IsSet c) (la : a.length ≤ 200) (lb : b.length ≤ 200) (lc : c.length ≤ 200) (hk : 1001 < k) : cohousinglaw04_SpanLaws.j2 (k + 1) a b c true true (U b c) (M a b) = some true := by
  have hk' : 1000 < k := by omega
  obtain ⟨s1, n1, m1⟩ := U_ok hb hc (by omega)
  obtain ⟨s2, n2, m2⟩ := M_ok ha hb (by omega)
  obtain ⟨s3, n3, m3⟩ := M_ok ha hc (by omega)
  obtain ⟨s4, n4, m4⟩ := M_ok ha s1 (by omega)
  obtain ⟨s5, n5, m5⟩ := U_ok s2 s3 (by omega)
  rw [cohousinglaw04_SpanLaws.j2, dm k a c ha hc (by omega) hk', Option.bind_some, dm k a (U b c) ha s1 (by omega) hk', Option.bind_some, du k (M a b) (M a c) s2 s3 (by omega) hk', Option.bind_some, if_pos rfl,
    same_sets k _ _ s4 s5 hk' (fun d => by rw [m4, m5, m1, m2, m3]; cases mem a d <;> cases mem b d <;> cases mem c d <;> rfl), Option.bind_some]
  obtain ⟨k, rfl⟩ : ∃ j, k = j + 1 := ⟨k - 1, by omega⟩
  exact laws_j3 k a b c ha hb hc la lb lc (by omega)
theorem laws_j1 (k : Nat) (a b c : List S30) (ha : IsSet a) (hb : IsSet b) (hc : IsSet c) (la : a.length ≤ 200) (lb : b.length ≤ 200) (lc : c.length ≤ 200) (hk : 1002 < k) : cohousinglaw04_SpanLaws.j1 (k + 1) a b c true true (U b c) = some true := by
  have hk' : 1000 < k := by omega
  obtain ⟨s1, n1, m1⟩ := M_ok ha hb (by omega)
  obtain ⟨s2, n2, m2⟩ := M_ok hb ha (by omega)
  obtain ⟨s3, n3, m3⟩ := M_ok hb hc (by omega)
  obtain ⟨s4, n4, m4⟩ := M_ok s1 hc (by omega)
  obtain ⟨s5, n5, m5⟩ := M_ok ha s3 (by omega)
  obtain ⟨s6, n6, m6⟩ := M_ok ha ha (by omega)
  rw [cohousinglaw04_SpanLaws.j1, dm k a b ha hb (by omega) hk', Option.bind_some, dm k b a hb ha (by omega) hk', Option.bind_some, dm k b c hb hc (by omega) hk', Option.bind_some, dm k (M a b) c s1 hc (by omega) hk', Option.bind_some,
    dm k a (M b c) ha s3 (by omega) hk', Option.bind_some, dm k a a ha ha (by omega) hk', Option.bind_some, if_pos rfl,
    same_sets k _ _ s1 s2 hk' (fun d => by rw [m1, m2, Bool.and_comm]), Option.bind_some, if_pos rfl,
    same_sets k _ _ s4 s5 hk' (fun d => by rw [m4, m5, m1, m3, Bool.and_assoc]), Option.bind_some, if_pos rfl,
    same_sets k _ _ s6 ha hk' (fun d => by rw [m6, Bool.and_self]), Option.bind_some]
  obtain ⟨k, rfl⟩ : ∃ j, k = j + 1 := ⟨k - 1, by omega⟩
  exact laws_j2 k a b c ha hb hc la lb lc (by omega)
theorem laws_j0 (k : Nat) (a b c : List S30) (x : Bool) (hx : x = false → (IsSet a ∧ IsSet b ∧ IsSet c) ∧ a.length ≤ 200 ∧ b.length ≤ 200 ∧ c.length ≤ 200) (hk : 1003 < k) : cohousinglaw04_SpanLaws.j0 (k + 1) a b c true x = some true := by
  rw [cohousinglaw04_SpanLaws.j0]
  cases x with
  | true => rfl
  | false =>
    obtain ⟨⟨ha, hb, hc⟩, la, lb, lc⟩ := hx rfl
    have hk' : 1000 < k := by omega
    obtain ⟨s1, n1, m1⟩ := U_ok ha hb (by omega)
    obtain ⟨s2, n2, m2⟩ := U_ok hb ha (by omega)
    obtain ⟨s3, n3, m3⟩ := U_ok hb hc (by omega)
    obtain ⟨s4, n4, m4⟩ := U_ok s1 hc (by omega)
    obtain ⟨s5, n5, m5⟩ := U_ok ha s3 (by omega)
    obtain ⟨s6, n6, m6⟩ := U_ok ha ha (by omega)
    rw [if_neg (by decide), du k a b ha hb (by omega) hk', Option.bind_some, du k b a hb ha (by omega) hk', Option.bind_some, du k b c hb hc (by omega) hk', Option.bind_some, du k (U a b) c s1 hc (by omega) hk', Option.bind_some,
      du k a (U b c) ha s3 (by omega) hk', Option.bind_some, du k a a ha ha (by omega) hk', Option.bind_some, if_pos rfl,
      same_sets k _ _ s1 s2 hk' (fun d => by rw [m1, m2, Bool.or_comm]), Option.bind_some, if_pos rfl,
      same_sets k _ _ s4 s5 hk' (fun d => by rw [m4, m5, m1, m3, Bool.or_assoc]), Option.bind_some, if_pos rfl,
      same_sets k _ _ s6 ha hk' (fun d => by rw [m6, Bool.or_self]), Option.bind_some]
    obtain ⟨k, rfl⟩ : ∃ j, k = j + 1 := ⟨k - 1, by omega⟩
    exact laws_j1 k a b c ha hb hc la lb lc (by omega)
theorem SpanLaws : ∀ (l0 : List S30) (l1 : List S30) (l2 : List S30), l0.length * 16 ≤ 140737488351232 → (∀ x ∈ l0, (Lit.int .i64 x.f0).wf = true ∧ (Lit.int .i64 x.f1).wf = true) → l1.length * 16 ≤ 140737488351232 → (∀ x ∈ l1, (Lit.int .i64 x.f0).wf = true ∧ (Lit.int .i64 x.f1).wf = true) → l2.length * 16 ≤ 140737488351232 → (∀ x ∈ l2, (Lit.int .i64 x.f0).wf = true ∧ (Lit.int .i64 x.f1).wf = true) → ∃ k, cohousinglaw04_SpanLaws.f k l0 l1 l2 = some true := by
  intro a b c ha _ hb _ hc _
  have hk : a.length + b.length + c.length + 1020 = (a.length + b.length + c.length + 1019) + 1 := rfl
  refine ⟨a.length + b.length + c.length + 1020, ?_⟩
  have hh : cohousinglaw04_head.f (a.length + b.length + c.length + 1020) = some true :=
    at_rounds (g := fun k => cohousinglaw04_head.f k) cohousinglaw04_head.mono (by omega) head_ok
  have out : ∀ x, (x = false → (IsSet a ∧ IsSet b ∧ IsSet c) ∧ a.length ≤ 200 ∧ b.length ≤ 200 ∧ c.length ≤ 200) → cohousinglaw04_SpanLaws.j0 (a.length + b.length + c.length + 1020) a b c true x = some true :=
    fun x hx => laws_j0 _ a b c x hx (by omega)
  unfold cohousinglaw04_SpanLaws.f
  rw [hh, Option.bind_some, valid_eq a _ (by omega) (by omega), Option.bind_some, valid_eq b _ (by omega) (by omega), valid_eq c _ (by omega) (by omega)]
  by_cases h1 : IsSet a
  · rw [tr_of h1, if_pos rfl, Option.bind_some]
    by_cases h2 : IsSet b
    · rw [tr_of h2, if_pos rfl, Option.bind_some]
      by_cases h3 : IsSet c
      · rw [tr_of h3, if_pos rfl]
        by_cases l1 : (a.length : Int) > 200
        · rw [if_pos l1]
          exact out _ (fun h => by simp at h)
        · rw [if_neg l1]
          by_cases l2 : (b.length : Int) > 200
          · rw [if_pos l2]
            exact out _ (fun h => by simp at h)
          · rw [if_neg l2]
            exact out _ (fun h => ⟨⟨h1, h2, h3⟩, by omega, by omega, by have := of_decide_eq_false h; omega⟩)
      · rw [tr_not h3, if_neg (by decide)]
        exact out _ (fun h => by simp at h)
    · rw [tr_not h2, if_neg (by decide)]
      exact out _ (fun h => by simp at h)
  · rw [tr_not h1, if_neg (by decide)]
    exact out _ (fun h => by simp at h)
end Go.Proofs.Ytbfgblfhonpgaaa.Pure

