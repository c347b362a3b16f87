/- The law FactsLate as a statement over numbers and lists: every input answers true. No Go and no memory in it. -/
import Derived.Test.YthcjocojngochaaGreatDoorFactsHead
import Derived.Test.YthcjocojngochaaGreatDoorXx15
namespace Go.Proofs.YthcjocojngochaaGreatDoor.Pure
open Go.RowKit Go.Proofs.YthcjocojngochaaGreatDoor.X Go.Proofs.YthcjocojngochaaGreatDoorW.PrintWords
set_option linter.unusedVariables false
/-- The loop over the records: one that is known as late ends the law; else what stands behind the loop. -/
theorem late_loop (l all : List Rec) (hl : l.length ≤ 400) (a2 : Int) (a3 : ByteArray) (a4 a5 b0 : Int) (b1 : ByteArray) (b2 b3 b4 b5 : Int) (b6 : Bool)
    (hend : (∀ x ∈ l, x.f4 < b5) → ∀ k, 2 ≤ k → cohousinglaw16_FactsLate.l0 k l a2 a3 a4 a5 true all l (l.length : Int) (l.length : Int) b0 b1 b2 b3 b4 b5 b6 = some true) :
    ∀ (j i k : Nat), i + j = l.length → j + 2 ≤ k → (∀ m (h : m < l.length), m < i → (l[m]).f4 < b5) → cohousinglaw16_FactsLate.l0 k l a2 a3 a4 a5 true all l (l.length : Int) (i : Int) b0 b1 b2 b3 b4 b5 b6 = some true
  | 0, i, k, hi, hk, hm => by
    obtain rfl : i = l.length := by omega
    refine hend (fun x hx => ?_) k (by omega)
    obtain ⟨m, h, rfl⟩ := List.getElem_of_mem hx
    exact hm m h h
  | j + 1, i, k + 1, hi, hk, hm => by
    have hlt : i < l.length := by omega
    have w1 : wrap64 ((i : Int) + 1) = ((i + 1 : Nat) : Int) := by unfold wrap64; omega
    rw [cohousinglaw16_FactsLate.l0, if_pos (by omega), if_pos (by omega), if_pos (by omega), rd_rec l i hlt, w1]
    by_cases h : (l[i]).f4 ≥ b5
    · rw [if_pos h, if_pos rfl]
    · rw [if_neg h]
      refine late_loop l all hl a2 a3 a4 a5 b0 b1 b2 b3 b4 b5 b6 hend j (i + 1) k (by omega) (by omega) fun m h1 h2 => ?_
      rcases Nat.lt_or_ge m i with h3 | h3
      · exact hm m h1 h3
      · obtain rfl : m = i := by omega
        omega
theorem FactsLate : ∀ (l0 : List S26) (a1_0 : Int) (a1_1 : ByteArray) (a1_2 : Int) (a1_3 : Int) (a1_4 : Int) (a1_5 : Int) (a1_6 : Bool) (a2 : Int) (a3 : ByteArray) (a4 : Int) (a5 : Int), l0.length * 64 ≤ 140737488351232 → (∀ x ∈ l0, (Lit.int .i64 x.f0).wf = true ∧ x.f1.size ≤ maxLen ∧ (Lit.int .i64 x.f2).wf = true ∧ (Lit.int .i64 x.f3.f0).wf = true ∧ (Lit.int .i64 x.f3.f1).wf = true ∧ (Lit.int .i64 x.f4).wf = true ∧ True) → (Lit.int .i64 a1_0).wf = true → a1_1.size ≤ maxLen → (Lit.int .i64 a1_2).wf = true → (Lit.int .i64 a1_3).wf = true → (Lit.int .i64 a1_4).wf = true → (Lit.int .i64 a1_5).wf = true → True → (Lit.int .i64 a2).wf = true → a3.size ≤ 140737488351232 → (Lit.int .i64 a4).wf = true → (Lit.int .i64 a5).wf = true → ∃ k, cohousinglaw16_FactsLate.f k l0 a1_0 a1_1 a1_2 a1_3 a1_4 a1_5 a1_6 a2 a3 a4 a5 = some true := by
  intro l0 b0 b1 b2 b3 b4 b5 b6 a2 a3 a4 a5 hz hw w0 w1 w2 w3 w4 w5 _ v2 v3 v4 v5
  refine ⟨500, ?_⟩
  have hl : l0.length ≤ 2199023255488 := by omega
  unfold cohousinglaw16_FactsLate.f
  rw [head_up 500 (by omega), Option.bind_some, if_pos rfl, Option.bind_some, if_pos (by simp only [List.length_nil]; omega), Option.bind_some, Option.bind_some, if_pos (by simp only [List.nil_append, List.length_cons, List.length_nil]; omega), Option.bind_some, List.nil_append]
  by_cases hlen : (l0.length : Int) > 400
  · rw [if_pos hlen, cohousinglaw16_FactsLate.j0, if_pos rfl]
  rw [if_neg hlen]
  have hl4 : l0.length ≤ 400 := by omega
  have hall : (l0 ++ [(⟨b0, b1, b2, ⟨b3, b4⟩, b5, b6⟩ : Rec)]).length < 4398046511104 := by simp only [List.length_append, List.length_cons, List.length_nil]; omega
  have hV : facts_Valid.f (l0 ++ [(⟨b0, b1, b2, ⟨b3, b4⟩, b5, b6⟩ : Rec)]) = some (validB (l0 ++ [(⟨b0, b1, b2, ⟨b3, b4⟩, b5, b6⟩ : Rec)])) := by
    unfold facts_Valid.f
    rw [if_pos hall]
  rw [hV, Option.bind_some, cohousinglaw16_FactsLate.j0]
  cases hv : validB (l0 ++ [(⟨b0, b1, b2, ⟨b3, b4⟩, b5, b6⟩ : Rec)])
  · rfl
  rw [if_neg (by simp)]
  refine late_loop l0 _ hl4 a2 a3 a4 a5 b0 b1 b2 b3 b4 b5 b6 (fun hbig k hk => ?_) l0.length 0 _ (by omega) (by omega) (fun m h1 h2 => absurd h2 (Nat.not_lt_zero _))
  obtain ⟨k, rfl⟩ : ∃ m, k = m + 2 := ⟨k - 2, by omega⟩
  rw [cohousinglaw16_FactsLate.l0, if_neg (by omega), value_f l0 a2 a3 a4 a5 (by omega), value_f _ a2 a3 a4 a5 hall, Option.bind_some, Option.bind_some]
  generalize hx : (⟨b0, b1, b2, ⟨b3, b4⟩, b5, b6⟩ : Rec) = x at *
  have hv0 : validB l0 = true := by
    unfold validB at hv ⊢
    simp only [Bool.and_eq_true, decide_eq_true_eq, List.all_eq_true] at hv ⊢
    exact ⟨by omega, fun y hy => hv.2 y (List.mem_append_left _ hy)⟩
  have hab : argB (l0 ++ [x]) a2 a3 [a4, a5] = argB l0 a2 a3 [a4, a5] := by unfold argB; rw [hv, hv0]
  rw [hab]
  cases ha : argB l0 a2 a3 [a4, a5]
  · rw [if_neg (by simp), if_neg (by simp), if_neg (by simp), cohousinglaw16_FactsLate.j2, if_pos rfl, if_pos rfl, if_pos rfl]
  rw [if_pos rfl, if_pos rfl, if_pos rfl, cohousinglaw16_FactsLate.j2]
  have e0 : ((0 : Int) != 0) = false := by simp
  rw [e0, if_neg (by simp)]
  have es : ∀ z, z ∈ ownS (l0 ++ [x]) a2 a3 ↔ z ∈ l0 ++ [x] ∧ ownB a2 a3 z = true := own_mem (l0 ++ [x]) a2 a3
  have et : ∀ z, z ∈ ownS l0 a2 a3 ↔ z ∈ l0 ∧ ownB a2 a3 z = true := own_mem l0 a2 a3
  have hs := own_up (l0 ++ [x]) a2 a3
  have ht := own_up l0 a2 a3
  have hlt : ∀ y ∈ l0, ltR y x = true := fun y hy => ltR_known y x (by rw [← hx]; exact hbig y hy)
  have hon : (ownB a2 a3 x = true ∧ recF.cnt a5 a4 x = true) ↔ (b0 = a2 ∧ b1.toList = a3.toList ∧ b3 ≤ a4 ∧ a4 < b4 ∧ b5 ≤ a5) := by
    rw [← hx]
    unfold ownB Fld.cnt recF
    simp only [Bool.and_eq_true, beq_iff_eq, decide_eq_true_eq]
    constructor
    · rintro ⟨⟨h1, h2⟩, h3, h4, h5⟩
      exact ⟨h1, h2, h4, h5, h3⟩
    · rintro ⟨h1, h2, h4, h5, h3⟩
      exact ⟨⟨h1, h2⟩, h3, h4, h5⟩
  by_cases hc : b0 = a2 ∧ b1.toList = a3.toList ∧ b3 ≤ a4 ∧ a4 < b4 ∧ b5 ≤ a5
  · obtain ⟨o1, o2⟩ := hon.mpr hc
    have hr := recF.late ltR_lin (ownB a2 a3) l0 (ownS (l0 ++ [x]) a2 a3) x hs es o1 a4 a5 o2 hlt
    rw [hr]
    obtain ⟨h1, h2, h3, h4, h5⟩ := hc
    rw [if_pos h1, if_pos h2, if_pos h3, if_pos h4, if_pos h5, if_pos rfl]
    rw [← hx]
    show (if ((!b6) == (!b6)) = true then (if b2 = b2 then some true else none) else none) = some true
    rw [if_pos (by simp), if_pos rfl]
  · have hr := recF.late_aside ltR_lin (ownB a2 a3) l0 (ownS (l0 ++ [x]) a2 a3) (ownS l0 a2 a3) x hs ht es et a4 a5 (fun h => hc (hon.mp h))
    rw [hr]
    generalize recF.on (ownS l0 a2 a3) a4 a5 = r
    have e1 : (r.2 == r.2) = true := by simp
    simp only [e1, if_true]
    split <;> first | rfl | skip
    split <;> first | rfl | skip
    split <;> first | rfl | skip
    split <;> first | rfl | skip
    split <;> first | rfl | skip
    rename_i h1 h2 h3 h4 h5
    exact absurd ⟨h1, h2, h3, h4, h5⟩ hc
end Go.Proofs.YthcjocojngochaaGreatDoor.Pure

