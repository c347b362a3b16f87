/- The law FactsAside as a statement over numbers and lists: every input answers true. No Go and no memory in it. -/
import Derived.Test.YthcjocojngochaaGreatDoorFactsHead
import Derived.Test.YthcjocojngochaaGreatDoorXx16
namespace Go.Proofs.YthcjocojngochaaGreatDoor.Pure
open Go.RowKit Go.Proofs.YthcjocojngochaaGreatDoor.X Go.Proofs.YthcjocojngochaaGreatDoorW.PrintWords
set_option linter.unusedVariables false
theorem days_len (l : List Rec) (a1 : Int) (a2 : ByteArray) (v known : Int) (hl : l.length ≤ 400) (q : Int → Bool) : (recF.wh (ownS l a1 a2) q).length ≤ 1000 := by
  have h1 := norm_len (partsS q (recF.cuts (ownS l a1 a2)))
  have h2 := parts_len q (recF.cuts (ownS l a1 a2))
  have h3 := cuts_len (ownS l a1 a2)
  rw [cuts_eq] at h3
  have h4 := own_len l a1 a2
  unfold Fld.wh
  omega
/-- The loop that keeps the own records. -/
theorem aside_loop (l : List Rec) (hl : l.length ≤ 400) (a1 : Int) (a2 : ByteArray) (a3 a4 a5 : Int)
    (hend : ∀ k, 2000 ≤ k → cohousinglaw16_FactsAside.l0 k l a1 a2 a3 a4 a5 true (l.filter (ownB a1 a2)) l (l.length : Int) (l.length : Int) = some true) :
    ∀ (j i k : Nat), i + j = l.length → j + 2000 ≤ k → cohousinglaw16_FactsAside.l0 k l a1 a2 a3 a4 a5 true ((l.take i).filter (ownB a1 a2)) l (l.length : Int) (i : Int) = some true
  | 0, i, k, hi, hk => by
    obtain rfl : i = l.length := by omega
    rw [List.take_length]
    exact hend k (by omega)
  | j + 1, i, k + 1, hi, hk => by
    have hlt : i < l.length := by omega
    have w1 : wrap64 ((i : Int) + 1) = ((i + 1 : Nat) : Int) := by unfold wrap64; omega
    have ih := aside_loop l hl a1 a2 a3 a4 a5 hend j (i + 1) k (by omega) (by omega)
    rw [List.take_succ_eq_append_getElem hlt, List.filter_append] at ih
    rw [cohousinglaw16_FactsAside.l0, if_pos (by omega), if_pos (by omega), if_pos (by omega), rd_rec l i hlt, w1]
    generalize l[i] = x at ih
    by_cases h1 : x.f0 = a1
    · by_cases h2 : x.f1.toList = a2.toList
      · have hx : ownB a1 a2 x = true := by unfold ownB; simp [h1, h2]
        rw [if_pos h1, if_pos h2, if_pos (by have := List.length_filter_le (ownB a1 a2) (l.take i); rw [List.length_take] at this; omega)]
        have e : [x].filter (ownB a1 a2) = [x] := by simp [hx]
        rw [e] at ih
        exact ih
      · have hx : ownB a1 a2 x = false := by unfold ownB; simp [h2]
        rw [if_pos h1, if_neg h2]
        have e : [x].filter (ownB a1 a2) = [] := by simp [hx]
        rw [e, List.append_nil] at ih
        exact ih
    · have hx : ownB a1 a2 x = false := by unfold ownB; simp [h1]
      rw [if_neg h1]
      have e : [x].filter (ownB a1 a2) = [] := by simp [hx]
      rw [e, List.append_nil] at ih
      exact ih
theorem valid_filter (l : List Rec) (p : Rec → Bool) (h : validB l = true) : validB (l.filter p) = true := by
  unfold validB at h ⊢
  simp only [Bool.and_eq_true, decide_eq_true_eq, List.all_eq_true] at h ⊢
  exact ⟨Nat.le_trans (List.length_filter_le _ _) h.1, fun x hx => h.2 x (List.mem_filter.mp hx).1⟩
theorem FactsAside : ∀ (l0 : List S26) (a1 : Int) (a2 : ByteArray) (a3 : Int) (a4 : Int) (a5 : Int), l0.length * 64 ≤ 140737488351232 → (∀ x ∈ l0, (Lit.int .i64 x.f0).wf = true ∧ x.f1.size ≤ maxLen ∧ (Lit.int .i64 x.f2).wf = true ∧ (Lit.int .i64 x.f3.f0).wf = true ∧ (Lit.int .i64 x.f3.f1).wf = true ∧ (Lit.int .i64 x.f4).wf = true ∧ True) → (Lit.int .i64 a1).wf = true → a2.size ≤ 140737488351232 → (Lit.int .i64 a3).wf = true → (Lit.int .i64 a4).wf = true → (Lit.int .i64 a5).wf = true → ∃ k, cohousinglaw16_FactsAside.f k l0 a1 a2 a3 a4 a5 = some true := by
  intro l0 a1 a2 a3 a4 a5 hz hw w1 w2 w3 w4 w5
  refine ⟨3000, ?_⟩
  unfold cohousinglaw16_FactsAside.f
  rw [head_up 3000 (by omega), Option.bind_some, if_pos rfl]
  by_cases hlen : (l0.length : Int) > 400
  · rw [if_pos hlen, cohousinglaw16_FactsAside.j0, if_pos rfl]
  rw [if_neg hlen]
  have hl4 : l0.length ≤ 400 := by omega
  have hV : facts_Valid.f l0 = some (validB l0) := by
    unfold facts_Valid.f
    rw [if_pos (by omega)]
  rw [hV, Option.bind_some, cohousinglaw16_FactsAside.j0]
  cases hv : validB l0
  · rfl
  rw [if_neg (by simp)]
  have hfl : (l0.filter (ownB a1 a2)).length ≤ 400 := Nat.le_trans (List.length_filter_le _ _) hl4
  have hv2 := valid_filter l0 (ownB a1 a2) hv
  have hab : ∀ ds, argB (l0.filter (ownB a1 a2)) a1 a2 ds = argB l0 a1 a2 ds := by
    intro ds
    unfold argB
    rw [hv, hv2]
  have hs : ∀ q k, 1900 ≤ k → cohousingref04_Same.f k (recF.wh (ownS l0 a1 a2) q) (recF.wh (ownS l0 a1 a2) q) = some true := fun q k hk => by
    have := days_len l0 a1 a2 0 0 hl4 q
    exact same_self _ (by omega) k (by omega)
  have hn : ∀ k, 1900 ≤ k → cohousingref04_Same.f k [] [] = some true := fun k hk => same_self _ (by simp) k (by simp; omega)
  refine aside_loop l0 hl4 a1 a2 a3 a4 a5 (fun k hk => ?_) l0.length 0 2999 (by omega) (by omega)
  obtain ⟨k, rfl⟩ : ∃ m, k = m + 1 := ⟨k - 1, by omega⟩
  rw [cohousinglaw16_FactsAside.l0, if_neg (by omega), value_f l0 a1 a2 a4 a5 (by omega), value_f _ a1 a2 a4 a5 (by omega), Option.bind_some, Option.bind_some, hab, own_filter, if_pos rfl, if_pos rfl, if_pos (by simp), if_pos rfl]
  rw [days_f l0 a1 a2 a3 a5 hl4, days_f _ a1 a2 a3 a5 hfl, Option.bind_some, Option.bind_some, hab, own_filter]
  rw [differ_f l0 a1 a2 a4 a5 hl4, differ_f _ a1 a2 a4 a5 hfl, hab, own_filter]
  have hk1 : 1900 ≤ k := by omega
  cases ha : argB l0 a1 a2 [a5] <;> cases hb : argB l0 a1 a2 [a4, a5]
  all_goals
    simp only [if_true, if_false, Bool.false_eq_true, Option.bind_some, hs _ k hk1, hn k hk1]
end Go.Proofs.YthcjocojngochaaGreatDoor.Pure

