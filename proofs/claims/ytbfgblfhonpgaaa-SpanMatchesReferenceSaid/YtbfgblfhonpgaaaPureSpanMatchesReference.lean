/- The law SpanMatchesReference as a statement over lists of stretches: every input answers true. No Go and no memory in it. -/
import Derived.Test.YtbfgblfhonpgaaaSpanRef
import Derived.Test.YtbfgblfhonpgaaaXx12
namespace Go.Proofs.Ytbfgblfhonpgaaa.Pure
open Go.RowKit Go.Proofs.Ytbfgblfhonpgaaa.X Go.Proofs.YtbfgblfhonpgaaaW.PrintWords

theorem ref_j5 (k : Nat) (a : List S30) (d : Int) (ha : a.length ≤ 1200) (hk : 1300 < k) : cohousinglaw04_SpanMatchesReference.j5 (k + 1) a d true = some true := by
  rw [cohousinglaw04_SpanMatchesReference.j5, has_eq a d k (by omega) (by omega), rhas_eq a d k (by omega) (by omega), count_eq a k (by omega) (by omega), rcount_eq a k (by omega) (by omega)]
  simp only [Option.bind_some, beq_self_eq_true, if_true]
theorem op_len (p : Prop) [Decidable p] (l : List S30) : (if p then limF l else ([], 1)).1.length ≤ 1000 := by
  split
  · exact lim_len l
  · simp
theorem ref_j4 (k : Nat) (a b : List S30) (d : Int) (ha : a.length ≤ 1200) (hb : b.length ≤ 1200) (hk : 1200 * 36527 + 90000 < k) : cohousinglaw04_SpanMatchesReference.j4 (k + 1) a b d true = some true := by
  rw [cohousinglaw04_SpanMatchesReference.j4, show span_Without.f k a b = sweepO (fun x y => x && !y) k a b from rfl, sweepO_eq _ k a b (by omega) (by omega) (by omega) (by omega), rwithout_eq a b ha hb k (by omega)]
  have h := op_len (tr (IsSet a) = true ∧ tr (IsSet b) = true) (sw (fun x y => x && !y) a b)
  generalize (if tr (IsSet a) = true ∧ tr (IsSet b) = true then limF (sw (fun x y => x && !y) a b) else ([], 1)) = r at h
  rw [Option.bind_some, Option.bind_some, if_pos rfl, same_eq r.1 r.1 k (by omega) (by omega), tr_of rfl, Option.bind_some, if_pos rfl, beq_self_eq_true]
  obtain ⟨k, rfl⟩ : ∃ j, k = j + 1 := ⟨k - 1, by omega⟩
  exact ref_j5 k a d ha (by omega)
theorem ref_j3 (k : Nat) (a b : List S30) (d : Int) (ha : a.length ≤ 1200) (hb : b.length ≤ 1200) (hk : 1200 * 36527 + 90001 < k) : cohousinglaw04_SpanMatchesReference.j3 (k + 1) a b d true = some true := by
  rw [cohousinglaw04_SpanMatchesReference.j3, show span_Meet.f k a b = sweepO (fun x y => x && y) k a b from rfl, sweepO_eq _ k a b (by omega) (by omega) (by omega) (by omega), rmeet_eq a b ha hb k (by omega)]
  have h := op_len (tr (IsSet a) = true ∧ tr (IsSet b) = true) (sw (fun x y => x && y) a b)
  generalize (if tr (IsSet a) = true ∧ tr (IsSet b) = true then limF (sw (fun x y => x && y) a b) else ([], 1)) = r at h
  rw [Option.bind_some, Option.bind_some, if_pos rfl, same_eq r.1 r.1 k (by omega) (by omega), tr_of rfl, Option.bind_some, if_pos rfl, beq_self_eq_true]
  obtain ⟨k, rfl⟩ : ∃ j, k = j + 1 := ⟨k - 1, by omega⟩
  exact ref_j4 k a b d ha hb (by omega)
theorem ref_j2 (k : Nat) (a b : List S30) (d : Int) (ha : a.length ≤ 1200) (hb : b.length ≤ 1200) (hk : 1200 * 36527 + 90002 < k) : cohousinglaw04_SpanMatchesReference.j2 (k + 1) a b d true = some true := by
  rw [cohousinglaw04_SpanMatchesReference.j2, show span_Union.f k a b = sweepO (fun x y => x || y) k a b from rfl, sweepO_eq _ k a b (by omega) (by omega) (by omega) (by omega), runion_eq a b ha hb k (by omega)]
  have h := op_len (tr (IsSet a) = true ∧ tr (IsSet b) = true) (sw (fun x y => x || y) a b)
  generalize (if tr (IsSet a) = true ∧ tr (IsSet b) = true then limF (sw (fun x y => x || y) a b) else ([], 1)) = r at h
  rw [Option.bind_some, Option.bind_some, if_pos rfl, same_eq r.1 r.1 k (by omega) (by omega), tr_of rfl, Option.bind_some, if_pos rfl, beq_self_eq_true]
  obtain ⟨k, rfl⟩ : ∃ j, k = j + 1 := ⟨k - 1, by omega⟩
  exact ref_j3 k a b d ha hb (by omega)
theorem ref_j1 (k : Nat) (a b : List S30) (d : Int) (ha : a.length ≤ 1200) (hb : b.length ≤ 1200) (hk : 1200 * 36527 + 90003 < k) : cohousinglaw04_SpanMatchesReference.j1 (k + 1) a b d true = some true := by
  rw [cohousinglaw04_SpanMatchesReference.j1, norm_eq a (by omega), rnorm_eq a ha k (by omega)]
  have h := normF_len a
  generalize normF a = r at h
  rw [Option.bind_some, Option.bind_some, if_pos rfl, same_eq r.1 r.1 k (by omega) (by omega), tr_of rfl, Option.bind_some, if_pos rfl, beq_self_eq_true]
  obtain ⟨k, rfl⟩ : ∃ j, k = j + 1 := ⟨k - 1, by omega⟩
  exact ref_j2 k a b d ha hb (by omega)
theorem ref_j0 (k : Nat) (a b : List S30) (d : Int) (x : Bool) (hx : x = false → a.length ≤ 1200 ∧ b.length ≤ 1200) (hk : 1200 * 36527 + 90004 < k) : cohousinglaw04_SpanMatchesReference.j0 (k + 1) a b d true x = some true := by
  rw [cohousinglaw04_SpanMatchesReference.j0]
  cases x with
  | true => rfl
  | false =>
    obtain ⟨ha, hb⟩ := hx rfl
    rw [if_neg (by decide), if_pos rfl, valid_eq a k (by omega) (by omega), rvalid_eq a k (by omega) (by omega), Option.bind_some, Option.bind_some, beq_self_eq_true]
    obtain ⟨k, rfl⟩ : ∃ j, k = j + 1 := ⟨k - 1, by omega⟩
    exact ref_j1 k a b d ha hb (by omega)
theorem ref_f (k : Nat) (a b : List S30) (d : Int) (hk : 1200 * 36527 + 90004 < k) : cohousinglaw04_SpanMatchesReference.f (k + 1) a b d = some true := by
  have hh : cohousinglaw04_head.f (k + 1) = some true :=
    at_rounds (g := fun k => cohousinglaw04_head.f k) cohousinglaw04_head.mono (by omega) head_ok
  unfold cohousinglaw04_SpanMatchesReference.f
  rw [hh, Option.bind_some]
  by_cases h : (a.length : Int) > 1200
  · rw [if_pos h]
    exact ref_j0 k a b d _ (fun h => by simp at h) hk
  · rw [if_neg h]
    exact ref_j0 k a b d _ (fun h' => ⟨by omega, by have := of_decide_eq_false h'; omega⟩) hk
theorem SpanMatchesReference : ∀ (l0 : List S30) (l1 : List S30) (a2 : Int), l0.length * 16 ≤ 140737488351232 → (∀ x ∈ l0, (Lit.int .i64 x.f0).wf = true ∧ (Lit.int .i64 x.f1).wf = true) → l1.length * 16 ≤ 140737488351232 → (∀ x ∈ l1, (Lit.int .i64 x.f0).wf = true ∧ (Lit.int .i64 x.f1).wf = true) → (Lit.int .i64 a2).wf = true → ∃ k, cohousinglaw04_SpanMatchesReference.f k l0 l1 a2 = some true := by
  intro a b d _ _ _ _ _
  exact ⟨1200 * 36527 + 90005 + 1, ref_f _ a b d (by omega)⟩
end Go.Proofs.Ytbfgblfhonpgaaa.Pure

