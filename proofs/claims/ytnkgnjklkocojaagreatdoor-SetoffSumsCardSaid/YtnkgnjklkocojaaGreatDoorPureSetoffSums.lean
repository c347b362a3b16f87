/- The law SetoffSums as a statement over numbers and lists: every input answers true. No Go and no memory in it. -/
import Derived.Test.YtnkgnjklkocojaaGreatDoorSoPay
import Derived.Test.YtnkgnjklkocojaaGreatDoorSoHead
import Derived.Test.YtnkgnjklkocojaaGreatDoorXx17
namespace Go.Proofs.YtnkgnjklkocojaaGreatDoor.Pure
open Go.RowKit Go.Proofs.YtnkgnjklkocojaaGreatDoor.X Go.Proofs.YtnkgnjklkocojaaGreatDoorW.PrintWords
set_option linter.unusedVariables false
theorem sumO_take : ∀ (l : List S39) (i : Nat), i < l.length → sumO (l.take (i + 1)) = sumO (l.take i) + (l.getD i z39).f3
  | [], i, hi => by simp at hi
  | x :: l, 0, hi => by simp [sumO]
  | x :: l, i + 1, hi => by
    have h := sumO_take l i (by simpa using hi)
    have e : ∀ (a : S39) (b : List S39), sumO (a :: b) = a.f3 + sumO b := fun _ _ => rfl
    simp only [List.take_succ_cons, List.getD_cons_succ, e, h]
    omega
theorem rd_nat (l : List S39) (i : Nat) : rd_T39 l (i : Int) = l.getD i z39 := by simp [rd_T39]
theorem wrap_in (x : Int) (h : -9223372036854775808 ≤ x ∧ x ≤ 9223372036854775807) : wrap64 x = x := by unfold wrap64; omega
theorem wrap_up (i : Nat) (h : i ≤ 1000000) : wrap64 ((i : Int) + 1) = ((i + 1 : Nat) : Int) := by unfold wrap64; omega
theorem sums_loop (l m : List S39) (c left : Int) (hlen : m.length = l.length) (h100 : l.length ≤ 100)
    (hs : ∀ i, i < l.length → (m.getD i z39).f0 = (l.getD i z39).f0 ∧ (m.getD i z39).f1 = (l.getD i z39).f1 ∧ (m.getD i z39).f2 = (l.getD i z39).f2)
    (hlow : ∀ i, i < l.length → 0 ≤ (m.getD i z39).f3 ∧ (m.getD i z39).f3 ≤ (l.getD i z39).f3) (hb : ∀ i, i < l.length → (l.getD i z39).f3 ≤ 1000000000)
    (hsum : sumO l - sumO m + left = c) (hz : left = 0 ∨ sumO m = 0) (h0 : 0 ≤ left ∧ left ≤ 1000000000) :
    ∀ (j i k : Nat) (p o : Int), i + j = m.length → j < k → p = sumO (l.take i) - sumO (m.take i) → o = sumO (m.take i) → 0 ≤ p → p ≤ (i : Int) * 1000000000 → 0 ≤ o → o ≤ (i : Int) * 1000000000 →
      cohousinglaw34_SetoffSums.l0 k l c true left p o m (m.length : Int) (i : Int) = some true := by
  intro j
  induction j with
  | zero =>
    intro i k p o hi hk hp ho p0 p1 o0 o1
    obtain ⟨k, rfl⟩ : ∃ n, k = n + 1 := ⟨k - 1, by omega⟩
    obtain rfl : i = m.length := by omega
    rw [List.take_of_length_le (by omega), List.take_of_length_le (Nat.le_refl _)] at hp
    rw [List.take_of_length_le (Nat.le_refl _)] at ho
    have w1 : wrap64 (p + left) = c := by
      have : p + left = c := by omega
      unfold wrap64
      omega
    rw [cohousinglaw34_SetoffSums.l0, if_neg (by omega), if_pos rfl, if_pos w1]
    by_cases hl : left = 0
    · rw [if_pos hl]
    · rw [if_neg hl, if_pos (by rcases hz with h | h <;> omega)]
  | succ j ih =>
    intro i k p o hi hk hp ho p0 p1 o0 o1
    obtain ⟨k, rfl⟩ : ∃ n, k = n + 1 := ⟨k - 1, by omega⟩
    have il : i < l.length := by omega
    obtain ⟨s0, s1, s2⟩ := hs i il
    obtain ⟨l0, l1⟩ := hlow i il
    have b := hb i il
    have t1 := sumO_take l i il
    have t2 := sumO_take m i (by omega)
    have c1 : (i : Int) < (m.length : Int) := by omega
    have c2 : 0 ≤ (i : Int) := by omega
    have c3 : (i : Int) < (l.length : Int) := by omega
    have q1 : -9223372036854775808 ≤ p + (l.getD i z39).f3 ∧ p + (l.getD i z39).f3 ≤ 9223372036854775807 := by omega
    have q2 : -9223372036854775808 ≤ p + (l.getD i z39).f3 - (m.getD i z39).f3 ∧ p + (l.getD i z39).f3 - (m.getD i z39).f3 ≤ 9223372036854775807 := by omega
    have q3 : -9223372036854775808 ≤ o + (m.getD i z39).f3 ∧ o + (m.getD i z39).f3 ≤ 9223372036854775807 := by omega
    have g := ih (i + 1) k (p + (l.getD i z39).f3 - (m.getD i z39).f3) (o + (m.getD i z39).f3) (by omega) (by omega) (by omega) (by omega) (by omega) (by omega) (by omega) (by omega)
    rw [cohousinglaw34_SetoffSums.l0, if_pos c1, if_pos c2, if_pos c1, if_pos c3, if_pos rfl]
    rw [rd_nat, rd_nat, if_pos l0, if_pos l1, if_pos (by rw [s0, s1, s2]; simp), wrap_in _ q1, wrap_in _ q2, wrap_in _ q3, wrap_up i (by omega)]
    exact g
theorem getD_mem (l : List S39) (i : Nat) (h : i < l.length) : l.getD i z39 ∈ l := by
  rw [List.getD_eq_getElem?_getD, List.getElem?_eq_getElem h, Option.getD_some]
  exact List.getElem_mem _
theorem sumO_zero : ∀ (l : List S39), (∀ i, i < l.length → (l.getD i z39).f3 = 0) → sumO l = 0
  | [], _ => rfl
  | x :: l, h => by
    have h1 := sumO_zero l (fun i hi => by simpa using h (i + 1) (by simpa using hi))
    have h2 : x.f3 = 0 := by simpa using h 0 (by simp)
    show x.f3 + sumO l = 0
    omega
theorem SetoffSums : ∀ (l0 : List S39) (a1 : Int), l0.length * 32 ≤ 140737488351232 → (∀ x ∈ l0, (Lit.int .i64 x.f0).wf = true ∧ (Lit.int .i64 x.f1).wf = true ∧ (Lit.int .i64 x.f2).wf = true ∧ (Lit.int .i64 x.f3).wf = true) → (Lit.int .i64 a1).wf = true → ∃ k, cohousinglaw34_SetoffSums.f k l0 a1 = some true := by
  intro l0 a1 y0 hw0 w1
  refine ⟨120, ?_⟩
  have hh : cohousinglaw34_head.f 120 = some true := LeO_up cohousinglaw34_head.mono 20 100 true head_ok
  unfold cohousinglaw34_SetoffSums.f
  rw [hh, Option.bind_some, if_pos rfl]
  have hin : l0.length < 4398046511104 ∧ l0.all (fun x => inI x.f0) = true := so_in l0 y0 hw0
  unfold setoff_Pay.f
  rw [if_pos hin]
  by_cases hc : vD l0 [] = true ∧ l0.length ≤ 100 ∧ 0 ≤ a1 ∧ a1 ≤ 1000000000
  · rw [if_pos hc, Option.bind_some, if_pos rfl]
    have hd := (valid_iff l0).mp ⟨hc.1, hc.2.1⟩
    have off := pay_off l0 a1 hd hc.2.2.1 hc.2.2.2
    have hm := off.len
    rw [if_pos (by simp only; omega)]
    have hneg : decide ((payF l0 a1).2 < 0) = false := decide_eq_false (by have := off.left; omega)
    simp only [hneg]
    rw [cohousinglaw34_SetoffSums.j0, if_neg (by simp)]
    have hall : ∀ i, i < l0.length → (l0.getD i z39).f3 ≤ 1000000000 := fun i hi => ((dOk_iff _).mp (hd.ok _ (getD_mem l0 i hi))).2.2.2.2
    have e0 : ((0 : Nat) : Int) = 0 := rfl
    have hfin := sums_loop l0 (payF l0 a1).1 a1 (payF l0 a1).2 hm hd.len off.same off.low hall off.sum ?_ ⟨off.left.1, by have := off.left.2; omega⟩ (payF l0 a1).1.length 0 119 0 0 (by omega) (by omega) (by simp [sumO]) (by simp [sumO]) (by omega) (by omega) (by omega) (by omega)
    · rw [e0] at hfin
      exact hfin
    by_cases hl : (payF l0 a1).2 = 0
    · exact Or.inl hl
    · right
      refine sumO_zero _ (fun i hi => ?_)
      rcases off.full i ((ordP_mem l0 i).mpr (by omega)) with h | h
      · exact absurd h hl
      · exact h
  · rw [if_neg hc, Option.bind_some, if_neg (by simp)]
    rfl
end Go.Proofs.YtnkgnjklkocojaaGreatDoor.Pure

