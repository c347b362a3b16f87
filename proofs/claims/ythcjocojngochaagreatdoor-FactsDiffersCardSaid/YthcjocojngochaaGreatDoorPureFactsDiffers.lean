/- The law FactsDiffers as a statement over numbers and lists: every input answers true. No Go and no memory in it. -/
import Derived.Test.YthcjocojngochaaGreatDoorFactsHead
import Derived.Test.YthcjocojngochaaGreatDoorXx18
namespace Go.Proofs.YthcjocojngochaaGreatDoor.Pure
open Go.RowKit Go.Proofs.YthcjocojngochaaGreatDoor.X Go.Proofs.YthcjocojngochaaGreatDoorW.PrintWords Go.Proofs.YthcjocojngochaaGreatDoorW.PrintMore
set_option linter.unusedVariables false
theorem whd_set (l : List Rec) (a1 : Int) (a2 : ByteArray) (hl : l.length ≤ 400) (hd : recF.Days (ownS l a1 a2)) (q : Int → Bool) : IsSet (recF.wh (ownS l a1 a2) q) := by
  refine ⟨recF.wh_apart _ hd q, ?_⟩
  have h1 := norm_len (partsS q (recF.cuts (ownS l a1 a2)))
  have h2 := parts_len q (recF.cuts (ownS l a1 a2))
  have h3 := cuts_len (ownS l a1 a2)
  rw [cuts_eq] at h3
  have h4 := own_len l a1 a2
  unfold Fld.wh
  omega
/-- An own record that becomes known between the two days. -/
def betB (a1 : Int) (a2 : ByteArray) (a b : Int) (x : Rec) : Bool := ownB a1 a2 x && (decide (mn a b < x.f4) && decide (x.f4 ≤ mx a b))
def spR (x : Rec) : S24 := ⟨x.f3.f0, x.f3.f1⟩
def betL (a1 : Int) (a2 : ByteArray) (a b : Int) (l : List Rec) : List S24 := (l.filter (betB a1 a2 a b)).map spR
theorem betL_snoc (a1 : Int) (a2 : ByteArray) (a b : Int) (l : List Rec) (x : Rec) : betL a1 a2 a b (l ++ [x]) = if betB a1 a2 a b x = true then betL a1 a2 a b l ++ [spR x] else betL a1 a2 a b l := by
  unfold betL
  cases h : betB a1 a2 a b x <;> simp [List.filter_append, h]
theorem betL_len (a1 : Int) (a2 : ByteArray) (a b : Int) (l : List Rec) : (betL a1 a2 a b l).length ≤ l.length := by
  unfold betL
  rw [List.length_map]
  exact List.length_filter_le _ _
theorem differs_loop (l : List Rec) (hl : l.length ≤ 400) (a1 : Int) (a2 : ByteArray) (a3 a4 : Int) (p q : List S24)
    (hend : ∀ k, 2000 ≤ k → cohousinglaw16_FactsDiffers.l0 k a1 a2 a3 a4 true p q 0 (betL a1 a2 a3 a4 l) l (l.length : Int) (l.length : Int) = some true) :
    ∀ (j i k : Nat), i + j = l.length → j + 2000 ≤ k → cohousinglaw16_FactsDiffers.l0 k a1 a2 a3 a4 true p q 0 (betL a1 a2 a3 a4 (l.take i)) l (l.length : Int) (i : Int) = some true
  | 0, i, k, hi, hk => by
    obtain rfl : i = l.length := by omega
    rw [List.take_length]
    exact hend k (by omega)
  | j + 1, i, k + 1, hi, hk => by
    have hlt : i < l.length := by omega
    have w1 : wrap64 ((i : Int) + 1) = ((i + 1 : Nat) : Int) := by unfold wrap64; omega
    have ih := differs_loop l hl a1 a2 a3 a4 p q hend j (i + 1) k (by omega) (by omega)
    rw [List.take_succ_eq_append_getElem hlt, betL_snoc] at ih
    have hn := betL_len a1 a2 a3 a4 (l.take i)
    rw [List.length_take] at hn
    rw [cohousinglaw16_FactsDiffers.l0, if_pos (by omega), if_pos (by omega), if_pos (by omega), rd_rec l i hlt, w1]
    generalize l[i] = x at ih
    have e : betB a1 a2 a3 a4 x = true ↔ x.f0 = a1 ∧ x.f1.toList = a2.toList ∧ x.f4 > mn a3 a4 ∧ x.f4 ≤ mx a3 a4 := by
      unfold betB ownB
      simp [and_assoc]
    by_cases h1 : x.f0 = a1
    · by_cases h2 : x.f1.toList = a2.toList
      · by_cases h3 : x.f4 > mn a3 a4
        · by_cases h4 : x.f4 ≤ mx a3 a4
          · rw [if_pos (e.2 ⟨h1, h2, h3, h4⟩)] at ih
            rw [if_pos h1, if_pos h2, if_pos h3, if_pos h4, if_pos (by omega)]
            exact ih
          · rw [if_neg (fun h => h4 (e.1 h).2.2.2)] at ih
            rw [if_pos h1, if_pos h2, if_pos h3, if_neg h4]
            exact ih
        · rw [if_neg (fun h => h3 (e.1 h).2.2.1)] at ih
          rw [if_pos h1, if_pos h2, if_neg h3]
          exact ih
      · rw [if_neg (fun h => h2 (e.1 h).2.1)] at ih
        rw [if_pos h1, if_neg h2]
        exact ih
    · rw [if_neg (fun h => h1 (e.1 h).1)] at ih
      rw [if_neg h1]
      exact ih
theorem arg_swap (l : List Rec) (a1 : Int) (a2 : ByteArray) (x y : Int) : argB l a1 a2 [y, x] = argB l a1 a2 [x, y] := by
  unfold argB
  simp only [List.all_cons, List.all_nil, Bool.and_true]
  cases dayB x <;> cases dayB y <;> simp
theorem FactsDiffers : ∀ (l0 : List S26) (a1 : Int) (a2 : ByteArray) (a3 : Int) (a4 : Int), l0.length * 64 ≤ 140737488351232 → (∀ x ∈ l0, (Lit.int .i64 x.f0).wf = true ∧ x.f1.size ≤ maxLen ∧ (Lit.int .i64 x.f2).wf = true ∧ (Lit.int .i64 x.f3.f0).wf = true ∧ (Lit.int .i64 x.f3.f1).wf = true ∧ (Lit.int .i64 x.f4).wf = true ∧ True) → (Lit.int .i64 a1).wf = true → a2.size ≤ 140737488351232 → (Lit.int .i64 a3).wf = true → (Lit.int .i64 a4).wf = true → ∃ k, cohousinglaw16_FactsDiffers.f k l0 a1 a2 a3 a4 = some true := by
  intro l0 a1 a2 a3 a4 hz hw w1 w2 w3 w4
  refine ⟨3000, ?_⟩
  unfold cohousinglaw16_FactsDiffers.f
  rw [head_up 3000 (by omega), Option.bind_some, if_pos rfl]
  by_cases hlen : (l0.length : Int) > 400
  · rw [if_pos hlen]
  rw [if_neg hlen]
  have hl : l0.length ≤ 400 := by omega
  rw [differ_f l0 a1 a2 a3 a4 hl, differ_f l0 a1 a2 a4 a3 hl, arg_swap l0 a1 a2 a3 a4, Option.bind_some, Option.bind_some]
  cases h : argB l0 a1 a2 [a3, a4]
  · simp
  have hd := own_days h
  rw [recF.differ_swap _ a4 a3]
  simp only [if_true]
  have sP := whd_set l0 a1 a2 hl hd (recF.difP (ownS l0 a1 a2) a3 a4)
  have inP := recF.differ_in (ownS l0 a1 a2) hd a3 a4
  generalize recF.wh (ownS l0 a1 a2) (recF.difP (ownS l0 a1 a2) a3 a4) = p at sP inP
  have hv := arg_valid h
  have hX : ∀ s ∈ betL a1 a2 a3 a4 l0, strB s = true := by
    intro s hs
    unfold betL at hs
    obtain ⟨x, hx, rfl⟩ := List.mem_map.1 hs
    have := valid_days hv x (List.mem_filter.1 hx).1
    rw [str_iff]
    exact this
  have hXl := betL_len a1 a2 a3 a4 l0
  obtain ⟨n1, n2⟩ := norm_ok _ hX
  have n3 := norm_len (betL a1 a2 a3 a4 l0)
  have hsw : sw (fun x y => x && !y) p (normL (betL a1 a2 a3 a4 l0)) = [] := by
    obtain ⟨s1, s2⟩ := sweep_fact (fun x y => x && !y) rfl p (normL (betL a1 a2 a3 a4 l0)) sP.1 n1
    refine apart_none _ s1 fun d => (s2 d).trans ?_
    cases e : mem p d with
    | false => rfl
    | true =>
      obtain ⟨x, hx, hk, h1, h2⟩ := inP d e
      have hm := (own_mem l0 a1 a2 x).1 hx
      have hb : betB a1 a2 a3 a4 x = true := by
        unfold betB
        rw [hm.2, Bool.true_and, Bool.and_eq_true, decide_eq_true_iff, decide_eq_true_iff]
        have hk' : (a3 < x.f4 ∧ x.f4 ≤ a4) ∨ (a4 < x.f4 ∧ x.f4 ≤ a3) := hk
        unfold mn mx
        constructor <;> split <;> omega
      have hm2 : mem (betL a1 a2 a3 a4 l0) d = true := (mem_iff _ _).2 ⟨spR x, List.mem_map.2 ⟨x, List.mem_filter.2 ⟨hm.1, hb⟩, rfl⟩, h1, h2⟩
      rw [n2 d, hm2]
      rfl
  refine differs_loop l0 hl a1 a2 a3 a4 p p (fun k hk => ?_) l0.length 0 3000 (by omega) (by omega)
  obtain ⟨k, rfl⟩ : ∃ m, k = m + 1 := ⟨k - 1, by omega⟩
  have hN : normF (betL a1 a2 a3 a4 l0) = (normL (betL a1 a2 a3 a4 l0), 0) := by
    rw [normF_eq, if_pos (List.all_eq_true.2 hX), lim_small (by omega)]
  rw [cohousinglaw16_FactsDiffers.l0, if_neg (by omega), norm_eq _ (by omega), Option.bind_some, hN]
  have sN : IsSet (normL (betL a1 a2 a3 a4 l0)) := ⟨n1, by omega⟩
  have hp := sP.2
  have hW : span_Without.f k p (normL (betL a1 a2 a3 a4 l0)) = some ([], 0) := by
    unfold span_Without.f
    rw [sweepO_eq _ k _ _ (by omega) (by omega) (by omega) (by omega), if_pos ⟨tr_of sP, tr_of sN⟩, hsw, lim_small (by simp)]
  simp only [hW, Option.bind_some, if_true, same_self p (by omega) k (by omega)]
  simp
end Go.Proofs.YthcjocojngochaaGreatDoor.Pure

