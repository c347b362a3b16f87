/- Two payments, one after the other, leave what their sum leaves. No Go and no memory in it. -/
import Derived.Test.YtnkgnjklkocojaaGreatDoorSoPay
namespace Go.Proofs.YtnkgnjklkocojaaGreatDoor.Pure
open Go.RowKit Go.Proofs.YtnkgnjklkocojaaGreatDoor.X Go.Proofs.YtnkgnjklkocojaaGreatDoorW.PrintWords
set_option linter.unusedVariables false
def pt (u p : Int) : Int := if u < p then u else p
theorem wrapIn (x : Int) (h : -9223372036854775808 ≤ x ∧ x ≤ 9223372036854775807) : wrap64 x = x := by unfold wrap64; omega
def lower (x : S39) (v : Int) : S39 := ⟨x.f0, x.f1, x.f2, v⟩
theorem step_eq (st : List S39 × Int) (i : Nat) (hu : 0 ≤ (st.1.getD i z39).f3 ∧ (st.1.getD i z39).f3 ≤ 1000000000) (hp : 0 ≤ st.2 ∧ st.2 ≤ 1000000000) :
    payStep st i = (st.1.set i (lower (st.1.getD i z39) ((st.1.getD i z39).f3 - pt (st.1.getD i z39).f3 st.2)), st.2 - pt (st.1.getD i z39).f3 st.2) := by
  have h1 : 0 ≤ pt (st.1.getD i z39).f3 st.2 ∧ pt (st.1.getD i z39).f3 st.2 ≤ 1000000000 := by unfold pt; split <;> omega
  have h2 : payStep st i = (st.1.set i (lower (st.1.getD i z39) (wrap64 ((st.1.getD i z39).f3 - pt (st.1.getD i z39).f3 st.2))), wrap64 (st.2 - pt (st.1.getD i z39).f3 st.2)) := rfl
  rw [h2, wrapIn _ (by omega), wrapIn _ (by omega)]
theorem fold_other : ∀ (os : List Nat) (st : List S39 × Int) (j : Nat), j ∉ os → (os.foldl payStep st).1.getD j z39 = st.1.getD j z39
  | [], _, _, _ => rfl
  | i :: os, st, j, h => by
    have h1 : j ≠ i := fun e => h (e ▸ List.mem_cons_self)
    have h2 : j ∉ os := fun hm => h (List.mem_cons_of_mem _ hm)
    rw [List.foldl_cons, fold_other os (payStep st i) j h2]
    exact getD_set_ne _ _ _ _ h1
theorem fold_len : ∀ (os : List Nat) (st : List S39 × Int), (os.foldl payStep st).1.length = st.1.length
  | [], _ => rfl
  | i :: os, st => by
    rw [List.foldl_cons, fold_len os (payStep st i)]
    exact List.length_set
theorem pt_two (u p q : Int) (hu : 0 ≤ u) (hp : 0 ≤ p) (hq : 0 ≤ q) : pt u p + pt (u - pt u p) q = pt u (p + q) := by
  unfold pt
  split <;> split <;> split <;> omega
theorem pt_low (u p : Int) (hu : 0 ≤ u) (hp : 0 ≤ p) : 0 ≤ pt u p ∧ pt u p ≤ u ∧ pt u p ≤ p := by
  unfold pt
  split <;> omega
theorem parts_fold : ∀ (os : List Nat) (l1 l2 l3 : List S39) (p q : Int), os.Nodup → (∀ i ∈ os, i < l1.length) → l2.length = l1.length → l3.length = l1.length →
    (∀ i ∈ os, 0 ≤ (l1.getD i z39).f3 ∧ (l1.getD i z39).f3 ≤ 1000000000) → (∀ i ∈ os, l3.getD i z39 = l1.getD i z39) →
    (∀ i ∈ os, l2.getD i z39 = (os.foldl payStep (l1, p)).1.getD i z39) → 0 ≤ p → 0 ≤ q → p + q ≤ 1000000000 →
    (os.foldl payStep (l3, p + q)).2 = (os.foldl payStep (l1, p)).2 + (os.foldl payStep (l2, q)).2 ∧ ∀ i ∈ os, (os.foldl payStep (l2, q)).1.getD i z39 = (os.foldl payStep (l3, p + q)).1.getD i z39
  | [], l1, l2, l3, p, q, _, _, _, _, _, _, _, _, _, _ => ⟨rfl, by simp⟩
  | i :: os, l1, l2, l3, p, q, hnd, hin, e2, e3, hb, h3, h2, hp, hq, hpq => by
    obtain ⟨hni, hnd'⟩ := List.nodup_cons.mp hnd
    have ii := hin i List.mem_cons_self
    have bi := hb i List.mem_cons_self
    have x3 := h3 i List.mem_cons_self
    have x2 := h2 i List.mem_cons_self
    have s1 := step_eq (l1, p) i bi ⟨hp, by omega⟩
    simp only at s1
    rw [List.foldl_cons, fold_other os _ i hni, s1, getD_set_eq _ _ _ ii] at x2
    have lw := pt_low (l1.getD i z39).f3 p bi.1 hp
    have f2 : (l2.getD i z39).f3 = (l1.getD i z39).f3 - pt (l1.getD i z39).f3 p := by rw [x2]; rfl
    have lw2 := pt_low (l2.getD i z39).f3 q (by omega) hq
    have s2 := step_eq (l2, q) i (by simp only; omega) ⟨hq, by simp only; omega⟩
    simp only at s2
    have s3 := step_eq (l3, p + q) i (by simp only; rw [x3]; exact bi) (by simp only; omega)
    simp only at s3
    rw [x3] at s3
    have two := pt_two (l1.getD i z39).f3 p q bi.1 hp hq
    rw [← f2] at two
    have lw3 := pt_low (l1.getD i z39).f3 (p + q) bi.1 (by omega)
    have er : p + q - pt (l1.getD i z39).f3 (p + q) = (p - pt (l1.getD i z39).f3 p) + (q - pt (l2.getD i z39).f3 q) := by omega
    have ne : ∀ j ∈ os, j ≠ i := fun j hj e => hni (e ▸ hj)
    have ih := parts_fold os (l1.set i (lower (l1.getD i z39) ((l1.getD i z39).f3 - pt (l1.getD i z39).f3 p)))
      (l2.set i (lower (l2.getD i z39) ((l2.getD i z39).f3 - pt (l2.getD i z39).f3 q)))
      (l3.set i (lower (l1.getD i z39) ((l1.getD i z39).f3 - pt (l1.getD i z39).f3 (p + q))))
      (p - pt (l1.getD i z39).f3 p) (q - pt (l2.getD i z39).f3 q) hnd'
      (fun j hj => by rw [List.length_set]; exact hin j (List.mem_cons_of_mem _ hj)) (by simp only [List.length_set]; exact e2) (by simp only [List.length_set]; exact e3)
      (fun j hj => by rw [getD_set_ne _ _ _ _ (ne j hj)]; exact hb j (List.mem_cons_of_mem _ hj))
      (fun j hj => by rw [getD_set_ne _ _ _ _ (ne j hj), getD_set_ne _ _ _ _ (ne j hj)]; exact h3 j (List.mem_cons_of_mem _ hj))
      (fun j hj => by
        rw [getD_set_ne _ _ _ _ (ne j hj)]
        have := h2 j (List.mem_cons_of_mem _ hj)
        rw [List.foldl_cons, s1] at this
        exact this)
      (by omega) (by omega) (by omega)
    rw [← er] at ih
    rw [List.foldl_cons, List.foldl_cons, List.foldl_cons, s1, s2, s3]
    refine ⟨ih.1, fun j hj => ?_⟩
    rcases List.mem_cons.mp hj with rfl | hj
    · rw [fold_other os _ j hni, fold_other os _ j hni]
      simp only
      rw [getD_set_eq _ _ _ (by omega), getD_set_eq _ _ _ (by omega), x2]
      simp only [lower]
      congr 1
      have : (lower (l1.getD j z39) ((l1.getD j z39).f3 - pt (l1.getD j z39).f3 p)).f3 = (l1.getD j z39).f3 - pt (l1.getD j z39).f3 p := rfl
      rw [f2] at two
      omega
    · exact ih.2 j hj
theorem ids_ne (l : List S39) (hnd : (l.map (·.f0)).Nodup) (i j : Nat) (hi : i < l.length) (hj : j < l.length) (hij : i ≠ j) : (l.getD i z39).f0 ≠ (l.getD j z39).f0 := by
  intro e
  have h1 : (l.map (·.f0))[i]'(by simpa using hi) = (l.map (·.f0))[j]'(by simpa using hj) := by
    simpa [List.getD_eq_getElem?_getD, hi, hj] using e
  exact hij ((List.getElem_inj hnd).mp h1)
theorem ordP_bef (l : List S39) (hnd : (l.map (·.f0)).Nodup) : (ordP l).Pairwise (fun i j => Bef (l.getD i z39) (l.getD j z39)) := by
  rw [List.pairwise_iff_getElem]
  intro i j hi hj hij
  have h1 := ordP_sorted l i j hi hj hij
  have hne : (ordP l)[i] ≠ (ordP l)[j] := fun e => by
    have := (List.getElem_inj (ordP_nodup l)).mp e
    omega
  rcases bef_total _ _ (ids_ne l hnd _ _ ((ordP_mem l _).mp (List.getElem_mem hi)) ((ordP_mem l _).mp (List.getElem_mem hj)) hne) with h | h
  · exact h
  · exact absurd h h1
theorem ext_getD {a b : List S39} (hl : a.length = b.length) (h : ∀ i, i < b.length → a.getD i z39 = b.getD i z39) : a = b := by
  refine List.ext_getElem hl (fun i h1 h2 => ?_)
  have := h i h2
  simpa [List.getD_eq_getElem?_getD, h1, h2] using this
/-- Debts with the same names, kinds and days, none of them higher, are debts in the same order. -/
theorem like_debts {l m : List S39} (h : Debts l) (hl : m.length = l.length) (hs : ∀ i, i < l.length → (m.getD i z39).f0 = (l.getD i z39).f0 ∧ (m.getD i z39).f1 = (l.getD i z39).f1 ∧ (m.getD i z39).f2 = (l.getD i z39).f2)
    (hv : ∀ i, i < l.length → 0 ≤ (m.getD i z39).f3 ∧ (m.getD i z39).f3 ≤ (l.getD i z39).f3) : Debts m ∧ ordP m = ordP l := by
  have em : m.map (·.f0) = l.map (·.f0) := by
    refine List.ext_getElem (by simp [hl]) (fun i h1 h2 => ?_)
    have hi : i < l.length := by simpa using h2
    have hi' : i < m.length := by omega
    have := (hs i hi).1
    simpa [List.getD_eq_getElem?_getD, hi, hi'] using this
  have hd : Debts m := by
    refine ⟨fun x hx => ?_, by rw [em]; exact h.nd, by rw [hl]; exact h.len⟩
    obtain ⟨i, hi, rfl⟩ := List.mem_iff_getElem.mp hx
    have e : m.getD i z39 = m[i] := by simp [List.getD_eq_getElem?_getD, hi]
    rw [← e]
    have hi' : i < l.length := by omega
    have hm : l.getD i z39 ∈ l := by rw [List.getD_eq_getElem?_getD, List.getElem?_eq_getElem hi', Option.getD_some]; exact List.getElem_mem _
    have o := (dOk_iff _).mp (h.ok _ hm)
    obtain ⟨s0, s1, s2⟩ := hs i hi'
    have v := hv i hi'
    rw [dOk_iff]
    omega
  refine ⟨hd, ordP_unique m hd.nd (ordP l) (by rw [hl]; exact ordP_perm l) ?_⟩
  refine List.Pairwise.imp_of_mem ?_ (ordP_bef l h.nd)
  intro i j hi hj hb
  obtain ⟨a0, a1, a2⟩ := hs i ((ordP_mem l i).mp hi)
  obtain ⟨b0, b1, b2⟩ := hs j ((ordP_mem l j).mp hj)
  unfold Bef at *
  rw [a0, a1, a2, b0, b1, b2]
  exact hb
theorem parts_pay (l : List S39) (h : Debts l) (one two : Int) (h1 : 0 ≤ one) (h2 : 0 ≤ two) (h3 : one + two ≤ 1000000000) :
    Debts (payF l one).1 ∧ (payF (payF l one).1 two).1 = (payF l (one + two)).1 ∧ (payF l one).2 + (payF (payF l one).1 two).2 = (payF l (one + two)).2 := by
  have off := pay_off l one h h1 (by omega)
  obtain ⟨hd, ho⟩ := like_debts h off.len off.same off.low
  have hm : ∀ i, i < l.length → l.getD i z39 ∈ l := fun i hi => by rw [List.getD_eq_getElem?_getD, List.getElem?_eq_getElem hi, Option.getD_some]; exact List.getElem_mem _
  have pf := parts_fold (ordP l) l (payF l one).1 l one two (ordP_nodup l) (fun i hi => (ordP_mem l i).mp hi) off.len rfl
    (fun i hi => ((dOk_iff _).mp (h.ok _ (hm i ((ordP_mem l i).mp hi)))).2.2.2) (fun _ _ => rfl) (fun _ _ => rfl) h1 h2 h3
  have e2 : payF (payF l one).1 two = (ordP l).foldl payStep ((payF l one).1, two) := by
    have e : payF (payF l one).1 two = (ordP (payF l one).1).foldl payStep ((payF l one).1, two) := rfl
    rw [e, ho]
  have e3 : payF l (one + two) = (ordP l).foldl payStep (l, one + two) := rfl
  rw [e2, e3]
  refine ⟨hd, ext_getD ?_ (fun i hi => ?_), pf.1.symm⟩
  · rw [fold_len, fold_len]
    exact off.len
  · rw [fold_len] at hi
    exact pf.2 i ((ordP_mem l i).mpr hi)
end Go.Proofs.YtnkgnjklkocojaaGreatDoor.Pure

