/- What a payment leaves of each debt, told without steps: what is left behind those before it. No Go and no memory in it. -/
import Derived.Test.YtnkgnjklkocojaaGreatDoorSoParts
namespace Go.Proofs.YtnkgnjklkocojaaGreatDoor.Pure
open Go.RowKit Go.Proofs.YtnkgnjklkocojaaGreatDoor.X Go.Proofs.YtnkgnjklkocojaaGreatDoorW.PrintWords
set_option linter.unusedVariables false
theorem sumO_cons (x : S39) (l : List S39) : sumO (x :: l) = x.f3 + sumO l := rfl
theorem sumO_perm {l m : List S39} (h : l.Perm m) : sumO l = sumO m := by
  induction h with
  | nil => rfl
  | cons x _ ih => rw [sumO_cons, sumO_cons, ih]
  | swap x y l => simp only [sumO_cons]; omega
  | trans _ _ a b => rw [a, b]
theorem sumO_low : ∀ (l : List S39), (∀ x ∈ l, 0 ≤ x.f3) → 0 ≤ sumO l
  | [], _ => Int.le_refl _
  | x :: l, h => by
    have h1 := sumO_low l (fun y hy => h y (List.mem_cons_of_mem _ hy))
    have h2 := h x List.mem_cons_self
    rw [sumO_cons]
    omega
/-- What is not below nought. -/
def pos (x : Int) : Int := if x < 0 then 0 else x
theorem pos_two (c u s : Int) (hc : 0 ≤ c) (hs : 0 ≤ s) : pos (c - pt c u - s) = pos (c - (u + s)) ∨ u < 0 := by
  unfold pos pt
  split <;> split <;> split <;> omega
instance (x y : S39) : Decidable (Bef x y) := by unfold Bef; exact inferInstance
theorem bef_no {x y : S39} (h : Bef x y) : ¬ Bef y x := by unfold Bef at *; omega
theorem bef_self (x : S39) : ¬ Bef x x := by unfold Bef; omega
/-- What is open of all debts before one. -/
def ahead (l : List S39) (x : S39) : Int := sumO (l.filter (fun y => decide (Bef y x)))
/-- What a payment leaves of one debt. -/
def paidOne (l : List S39) (c : Int) (x : S39) : S39 := lower x (x.f3 - pt x.f3 (pos (c - ahead l x)))
def at_ (l : List S39) (os : List Nat) : List S39 := os.map (fun i => l.getD i z39)
theorem at_set (l : List S39) (os : List Nat) (i : Nat) (y : S39) (h : i ∉ os) : at_ (l.set i y) os = at_ l os := by
  refine List.map_congr_left (fun j hj => ?_)
  exact getD_set_ne _ _ _ _ (fun e => h (e ▸ hj))
theorem fold_closed : ∀ (os : List Nat) (l : List S39) (c : Int), os.Nodup → (∀ i ∈ os, i < l.length) → (∀ i ∈ os, 0 ≤ (l.getD i z39).f3 ∧ (l.getD i z39).f3 ≤ 1000000000) → 0 ≤ c → c ≤ 1000000000 →
    (os.foldl payStep (l, c)).2 = pos (c - sumO (at_ l os)) ∧
    ∀ a i b, os = a ++ i :: b → (os.foldl payStep (l, c)).1.getD i z39 = lower (l.getD i z39) ((l.getD i z39).f3 - pt (l.getD i z39).f3 (pos (c - sumO (at_ l a))))
  | [], l, c, _, _, _, h0, _ => by
    refine ⟨?_, fun a i b e => by simp at e⟩
    show c = pos (c - 0)
    unfold pos
    split <;> omega
  | i :: os, l, c, hnd, hin, hb, h0, h1 => by
    obtain ⟨hni, hnd'⟩ := List.nodup_cons.mp hnd
    have ii := hin i List.mem_cons_self
    have bi := hb i List.mem_cons_self
    have s1 := step_eq (l, c) i bi ⟨h0, h1⟩
    simp only at s1
    have lw := pt_low (l.getD i z39).f3 c bi.1 h0
    have ih := fold_closed os (l.set i (lower (l.getD i z39) ((l.getD i z39).f3 - pt (l.getD i z39).f3 c))) (c - pt (l.getD i z39).f3 c) hnd'
      (fun j hj => by rw [List.length_set]; exact hin j (List.mem_cons_of_mem _ hj))
      (fun j hj => by rw [getD_set_ne _ _ _ _ (show j ≠ i from fun e => hni (e ▸ hj))]; exact hb j (List.mem_cons_of_mem _ hj)) (by omega) (by omega)
    rw [at_set _ _ _ _ hni] at ih
    have hs : ∀ a : List Nat, (∀ j ∈ a, j ∈ i :: os) → 0 ≤ sumO (at_ l a) := fun a ha => sumO_low _ (fun x hx => by
      obtain ⟨j, hj, rfl⟩ := List.mem_map.mp hx
      exact (hb j (ha j hj)).1)
    have key : ∀ s, 0 ≤ s → pos (c - pt (l.getD i z39).f3 c - s) = pos (c - ((l.getD i z39).f3 + s)) := by
      intro s hs
      unfold pos pt
      split <;> split <;> split <;> omega
    rw [List.foldl_cons, s1]
    refine ⟨?_, fun a j b e => ?_⟩
    · rw [ih.1, key _ (hs os (fun j hj => List.mem_cons_of_mem _ hj))]
      rfl
    · cases a with
      | nil =>
        simp only [List.nil_append, List.cons.injEq] at e
        obtain ⟨rfl, rfl⟩ := e
        rw [fold_other _ _ _ hni, getD_set_eq _ _ _ ii]
        have e0 : pos (c - sumO (at_ l [])) = c := by
          show pos (c - 0) = c
          unfold pos
          split <;> omega
        rw [e0]
      | cons i' a =>
        simp only [List.cons_append, List.cons.injEq] at e
        obtain ⟨rfl, e⟩ := e
        have hj : j ∈ os := by rw [e]; simp
        have hia : i ∉ a := fun hm => hni (by rw [e]; exact List.mem_append_left _ hm)
        rw [ih.2 a j b e, getD_set_ne _ _ _ _ (show j ≠ i from fun e => hni (e ▸ hj)), at_set _ _ _ _ hia, key _ (hs a (fun k hk => List.mem_cons_of_mem _ (by rw [e]; exact List.mem_append_left _ hk)))]
        rfl
theorem at_range (l : List S39) : at_ l (List.range l.length) = l := by
  refine List.ext_getElem (by simp [at_]) (fun i h1 h2 => ?_)
  simp [at_, List.getD_eq_getElem?_getD, h2]
theorem at_order (l : List S39) : (at_ l (ordP l)).Perm l := by
  have h := (ordP_perm l).map (fun i => l.getD i z39)
  have e := at_range l
  unfold at_ at e
  rw [e] at h
  exact h
theorem ahead_perm {l m : List S39} (h : l.Perm m) (x : S39) : ahead l x = ahead m x := sumO_perm (h.filter _)
theorem ahead_order (l : List S39) (hnd : (l.map (·.f0)).Nodup) (a : List Nat) (i : Nat) (b : List Nat) (e : ordP l = a ++ i :: b) : sumO (at_ l a) = ahead l (l.getD i z39) := by
  rw [← ahead_perm (at_order l), e]
  have hp := ordP_bef l hnd
  rw [e, List.pairwise_append] at hp
  obtain ⟨_, hib, hai⟩ := hp
  have hib := (List.pairwise_cons.mp hib).1
  have e2 : at_ l (a ++ i :: b) = at_ l a ++ l.getD i z39 :: at_ l b := by simp [at_]
  unfold ahead
  rw [e2, List.filter_append, List.filter_cons_of_neg (by simpa using bef_self _)]
  have f1 : (at_ l a).filter (fun y => decide (Bef y (l.getD i z39))) = at_ l a := by
    refine List.filter_eq_self.mpr (fun x hx => ?_)
    obtain ⟨j, hj, rfl⟩ := List.mem_map.mp hx
    exact decide_eq_true (hai j hj i List.mem_cons_self)
  have f2 : (at_ l b).filter (fun y => decide (Bef y (l.getD i z39))) = [] := by
    refine List.filter_eq_nil_iff.mpr (fun x hx => ?_)
    obtain ⟨j, hj, rfl⟩ := List.mem_map.mp hx
    simpa using bef_no (hib j hj)
  rw [f1, f2, List.append_nil]
theorem pay_closed (l : List S39) (h : Debts l) (c : Int) (h0 : 0 ≤ c) (h1 : c ≤ 1000000000) : payF l c = (l.map (paidOne l c), pos (c - sumO l)) := by
  have hm : ∀ i, i < l.length → l.getD i z39 ∈ l := fun i hi => by rw [List.getD_eq_getElem?_getD, List.getElem?_eq_getElem hi, Option.getD_some]; exact List.getElem_mem _
  have f := fold_closed (ordP l) l c (ordP_nodup l) (fun i hi => (ordP_mem l i).mp hi) (fun i hi => ((dOk_iff _).mp (h.ok _ (hm i ((ordP_mem l i).mp hi)))).2.2.2) h0 h1
  have e : payF l c = (ordP l).foldl payStep (l, c) := rfl
  rw [e]
  refine Prod.ext (ext_getD ?_ (fun i hi => ?_)) ?_
  · rw [fold_len, List.length_map]
  · rw [List.length_map] at hi
    obtain ⟨a, b, eo⟩ := List.append_of_mem ((ordP_mem l i).mpr hi)
    have g := f.2 a i b eo
    rw [ahead_order l h.nd a i b eo] at g
    rw [g]
    have : (l.map (paidOne l c)).getD i z39 = paidOne l c (l.getD i z39) := by
      simp [List.getD_eq_getElem?_getD, hi]
    rw [this]
    rfl
  · show ((ordP l).foldl payStep (l, c)).2 = _
    rw [f.1, sumO_perm (at_order l)]
/-- Debts in another order are reduced in the same way. -/
theorem pay_perm {l m : List S39} (hp : m.Perm l) (h : Debts l) (c : Int) (h0 : 0 ≤ c) (h1 : c ≤ 1000000000) : Debts m ∧ payF m c = (m.map (paidOne l c), (payF l c).2) := by
  have hm : Debts m := ⟨fun x hx => h.ok x (hp.mem_iff.mp hx), (hp.map _).nodup_iff.mpr h.nd, by rw [hp.length_eq]; exact h.len⟩
  refine ⟨hm, ?_⟩
  rw [pay_closed m hm c h0 h1, pay_closed l h c h0 h1, sumO_perm hp]
  refine Prod.ext (List.map_congr_left (fun x _ => ?_)) rfl
  unfold paidOne
  rw [ahead_perm hp]
end Go.Proofs.YtnkgnjklkocojaaGreatDoor.Pure

