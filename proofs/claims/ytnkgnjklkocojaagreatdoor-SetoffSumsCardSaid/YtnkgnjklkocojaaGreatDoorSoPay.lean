/- What a payment does to debts. No Go and no memory in it. -/
import Derived.Test.YtnkgnjklkocojaaGreatDoorXx3
namespace Go.Proofs.YtnkgnjklkocojaaGreatDoor.Pure
open Go.RowKit Go.Proofs.YtnkgnjklkocojaaGreatDoor.X Go.Proofs.YtnkgnjklkocojaaGreatDoorW.PrintWords
set_option linter.unusedVariables false

/-! ### the order -/
theorem ordP_perm (l : List S39) : (ordP l).Perm (List.range l.length) := by
  by_cases hpos : 0 < l.length
  · letI inh : Inhabited (Fin l.length) := ⟨⟨0, hpos⟩⟩
    have h := Go.Sort.pdq_sorts (ltOf (cfP l)) (swoP l) (List.finRange l.length).toArray 0 l.length (Lib.bitLen l.length) true true (Nat.zero_le _) (by simp) (Or.inl rfl)
    have hs : sortP l = Go.Sort.pdq (ltOf (cfP l)) (List.finRange l.length).toArray 0 l.length (Lib.bitLen l.length) true true := by
      unfold sortP
      rw [dif_pos hpos]
    rw [← hs] at h
    have hp := h.1.2.2
    have e1 : ((sortP l).extract 0 l.length).toList = (sortP l).toList := by
      rw [Array.toList_extract]
      simp only [List.extract_eq_take_drop, Nat.sub_zero, List.drop_zero]
      exact List.take_of_length_le (by rw [Array.length_toList, sortP_size l hpos]; exact Nat.le_refl _)
    have e2 : ((List.finRange l.length).toArray.extract 0 l.length).toList = List.finRange l.length := by
      rw [Array.toList_extract]
      simp only [List.extract_eq_take_drop, Nat.sub_zero, List.drop_zero]
      exact List.take_of_length_le (by simp)
    rw [e1, e2] at hp
    have := hp.map Fin.val
    unfold ordP
    refine this.trans (List.Perm.of_eq ?_)
    apply List.ext_getElem
    · simp
    · intro i h1 h2
      simp
  · have h0 : l.length = 0 := by omega
    have : ordP l = [] := by
      unfold ordP sortP
      rw [dif_neg hpos]
      rfl
    rw [this, h0]
    exact List.Perm.refl _
theorem ordP_nodup (l : List S39) : (ordP l).Nodup := (ordP_perm l).nodup_iff.mpr List.nodup_range
theorem ordP_mem (l : List S39) (i : Nat) : i ∈ ordP l ↔ i < l.length := by rw [(ordP_perm l).mem_iff, List.mem_range]
/-- Of two debts, the one before the other in the law's order stands before it. -/
def Bef (x y : S39) : Prop := x.f1 < y.f1 ∨ (x.f1 = y.f1 ∧ (x.f2 < y.f2 ∨ (x.f2 = y.f2 ∧ x.f0 < y.f0)))
theorem ordP_sorted (l : List S39) : ∀ i j (hi : i < (ordP l).length) (hj : j < (ordP l).length), i < j → ¬ Bef (l.getD ((ordP l)[j]) z39) (l.getD ((ordP l)[i]) z39) := by
  intro i j hi hj hij hb
  by_cases hpos : 0 < l.length
  · letI inh : Inhabited (Fin l.length) := ⟨⟨0, hpos⟩⟩
    have h := Go.Sort.pdq_sorts (ltOf (cfP l)) (swoP l) (List.finRange l.length).toArray 0 l.length (Lib.bitLen l.length) true true (Nat.zero_le _) (by simp) (Or.inl rfl)
    have hs : sortP l = Go.Sort.pdq (ltOf (cfP l)) (List.finRange l.length).toArray 0 l.length (Lib.bitLen l.length) true true := by
      unfold sortP
      rw [dif_pos hpos]
    rw [← hs] at h
    have hsz := sortP_size l hpos
    have hj2 : j < l.length := by have := hj; unfold ordP at this; simpa [hsz] using this
    have h2 := h.2 i j (Nat.zero_le _) hij hj2
    rw [getElem!_pos (sortP l) j (by omega), getElem!_pos (sortP l) i (by omega)] at h2
    have ei : (ordP l)[i] = ((sortP l)[i]'(by omega)).val := by simp only [ordP, List.getElem_map, Array.getElem_toList]
    have ej : (ordP l)[j] = ((sortP l)[j]'(by omega)).val := by simp only [ordP, List.getElem_map, Array.getElem_toList]
    rw [ei, ej] at hb
    rw [Bool.eq_false_iff] at h2
    refine h2 ((ltP l _ _).mpr ((cmpD_lt _ _).mpr ?_))
    unfold Bef at hb
    simpa [List.getD_eq_getElem?_getD] using hb
  · have : (ordP l).length = 0 := by
      unfold ordP sortP
      rw [dif_neg hpos]
      rfl
    omega
/-! ### the debts -/
theorem dOk_iff (x : S39) : dOk x = true ↔ (1 ≤ x.f0 ∧ x.f0 ≤ 1000000) ∧ (1 ≤ x.f1 ∧ x.f1 ≤ 4) ∧ (0 ≤ x.f2 ∧ x.f2 ≤ 36524) ∧ (0 ≤ x.f3 ∧ x.f3 ≤ 1000000000) := by
  unfold dOk
  simp [and_assoc]
theorem vD_iff : ∀ (l : List S39) (seen : List Int), vD l seen = true ↔ (∀ x ∈ l, dOk x = true) ∧ (l.map (·.f0)).Nodup ∧ ∀ x ∈ l, x.f0 ∉ seen
  | [], seen => by simp [vD]
  | x :: l, seen => by
    rw [vD]
    by_cases h : seen.contains x.f0 = true ∨ dOk x = false
    · rw [if_pos h]
      constructor
      · intro h1; cases h1
      · rintro ⟨h1, _, h3⟩
        rcases h with h | h
        · exact absurd (List.contains_iff_mem.mp h) (h3 x List.mem_cons_self)
        · have := h1 x List.mem_cons_self
          rw [h] at this
          cases this
    · rw [if_neg h, vD_iff l (seen ++ [x.f0])]
      have h1 : x.f0 ∉ seen := fun hm => h (Or.inl (List.contains_iff_mem.mpr hm))
      have h2 : dOk x = true := by
        cases e : dOk x with
        | true => rfl
        | false => exact absurd (Or.inr e) h
      rw [List.map_cons, List.nodup_cons]
      constructor
      · rintro ⟨a, b, c⟩
        refine ⟨fun y hy => ?_, ⟨fun hm => ?_, b⟩, fun y hy => ?_⟩
        · rcases List.mem_cons.mp hy with rfl | hy
          · exact h2
          · exact a y hy
        · obtain ⟨y, hy, e⟩ := List.mem_map.mp hm
          exact c y hy (by rw [e]; simp)
        · rcases List.mem_cons.mp hy with rfl | hy
          · exact h1
          · exact fun hm => c y hy (List.mem_append_left _ hm)
      · rintro ⟨a, ⟨b1, b2⟩, c⟩
        refine ⟨fun y hy => a y (List.mem_cons_of_mem _ hy), b2, fun y hy hm => ?_⟩
        rcases List.mem_append.mp hm with hm | hm
        · exact c y (List.mem_cons_of_mem _ hy) hm
        · exact b1 (List.mem_map.mpr ⟨y, hy, List.mem_singleton.mp hm⟩)
/-- Debts that are well-formed. -/
structure Debts (l : List S39) : Prop where
  ok : ∀ x ∈ l, dOk x = true
  nd : (l.map (·.f0)).Nodup
  len : l.length ≤ 100
theorem valid_iff (l : List S39) : (vD l [] = true ∧ l.length ≤ 100) ↔ Debts l := by
  rw [vD_iff]
  constructor
  · rintro ⟨⟨a, b, _⟩, c⟩; exact ⟨a, b, c⟩
  · rintro ⟨a, b, c⟩; exact ⟨⟨a, b, by simp⟩, c⟩
/-! ### a payment, debt by debt -/
/-- What is open of all. -/
def sumO (l : List S39) : Int := (l.map (·.f3)).foldr (· + ·) 0
theorem sumO_set : ∀ (l : List S39) (i : Nat) (hi : i < l.length) (y : S39), sumO (l.set i y) = sumO l - (l.getD i z39).f3 + y.f3
  | [], i, hi, y => by simp at hi
  | x :: l, 0, hi, y => by
    simp [sumO]
    omega
  | x :: l, i + 1, hi, y => by
    have ih := sumO_set l i (by simpa using hi) y
    have e : sumO ((x :: l).set (i + 1) y) = x.f3 + sumO (l.set i y) := rfl
    have e2 : sumO (x :: l) = x.f3 + sumO l := rfl
    have e3 : (x :: l).getD (i + 1) z39 = l.getD i z39 := rfl
    rw [e, e2, e3, ih]
    omega
/-- What holds while a payment is set off: the debts in done are settled, or nothing is left. -/
structure Off (l : List S39) (c : Int) (done : List Nat) (st : List S39 × Int) : Prop where
  len : st.1.length = l.length
  same : ∀ i, i < l.length → (st.1.getD i z39).f0 = (l.getD i z39).f0 ∧ (st.1.getD i z39).f1 = (l.getD i z39).f1 ∧ (st.1.getD i z39).f2 = (l.getD i z39).f2
  low : ∀ i, i < l.length → 0 ≤ (st.1.getD i z39).f3 ∧ (st.1.getD i z39).f3 ≤ (l.getD i z39).f3
  todo : ∀ i, i < l.length → i ∉ done → st.1.getD i z39 = l.getD i z39
  left : 0 ≤ st.2 ∧ st.2 ≤ c
  sum : sumO l - sumO st.1 + st.2 = c
  full : ∀ i ∈ done, st.2 = 0 ∨ (st.1.getD i z39).f3 = 0
theorem getD_set_ne (l : List S39) (i j : Nat) (y : S39) (h : j ≠ i) : (l.set i y).getD j z39 = l.getD j z39 := by
  rw [List.getD_eq_getElem?_getD, List.getD_eq_getElem?_getD, List.getElem?_set_ne (Ne.symm h)]
theorem getD_set_eq (l : List S39) (i : Nat) (y : S39) (h : i < l.length) : (l.set i y).getD i z39 = y := by
  rw [List.getD_eq_getElem?_getD, List.getElem?_set_self h]
  rfl
theorem off_step {l : List S39} {c : Int} {done : List Nat} {st : List S39 × Int} (h : Off l c done st) (i : Nat) (hi : i < l.length) (hn : i ∉ done) (hc : c ≤ 1000000000) (hb : (l.getD i z39).f3 ≤ 1000000000) : Off l c (done ++ [i]) (payStep st i) := by
  have hi1 : i < st.1.length := by rw [h.len]; exact hi
  have hlow := h.low i hi
  have hleft := h.left
  have hsame := h.same i hi
  have htodo := h.todo i hi hn
  generalize hx : st.1.getD i z39 = x at hlow hsame htodo
  obtain ⟨p, hp⟩ : ∃ p : Int, p = if x.f3 < st.2 then x.f3 else st.2 := ⟨_, rfl⟩
  have hp1 : 0 ≤ p ∧ p ≤ x.f3 ∧ p ≤ st.2 ∧ (p = x.f3 ∨ p = st.2) := by rw [hp]; split <;> omega
  have w1 : wrap64 (x.f3 - p) = x.f3 - p := by unfold wrap64; omega
  have w2 : wrap64 (st.2 - p) = st.2 - p := by clear w1; unfold wrap64; omega
  have e : payStep st i = (st.1.set i ⟨x.f0, x.f1, x.f2, x.f3 - p⟩, st.2 - p) := by
    unfold payStep
    simp only [hx, ← hp, w1, w2]
  rw [e]
  clear e w1 w2 hp
  refine ⟨by simp [h.len], fun j hj => ?_, fun j hj => ?_, fun j hj hn' => ?_, by simp only; omega, ?_, fun j hj => ?_⟩
  · by_cases hji : j = i
    · subst hji
      simp only [getD_set_eq _ _ _ hi1]
      exact hsame
    · simp only [getD_set_ne _ _ _ _ hji]
      exact h.same j hj
  · by_cases hji : j = i
    · subst hji
      simp only [getD_set_eq _ _ _ hi1]
      omega
    · simp only [getD_set_ne _ _ _ _ hji]
      exact h.low j hj
  · have hji : j ≠ i := fun e => hn' (by rw [e]; simp)
    simp only [getD_set_ne _ _ _ _ hji]
    exact h.todo j hj (fun hm => hn' (List.mem_append_left _ hm))
  · have hs := sumO_set st.1 i hi1 ⟨x.f0, x.f1, x.f2, x.f3 - p⟩
    rw [hx] at hs
    have := h.sum
    simp only at hs ⊢
    omega
  · rcases List.mem_append.mp hj with hj | hj
    · have hji : j ≠ i := fun e => hn (e ▸ hj)
      simp only [getD_set_ne _ _ _ _ hji]
      rcases h.full j hj with h1 | h1
      · left; omega
      · right; exact h1
    · have hji := List.mem_singleton.mp hj
      subst hji
      simp only [getD_set_eq _ _ _ hi1]
      omega
theorem off_fold (l : List S39) (c : Int) (hc : c ≤ 1000000000) (hb : ∀ x ∈ l, dOk x = true) : ∀ (os done : List Nat) (st : List S39 × Int), Off l c done st → (∀ i ∈ os, i < l.length) → (done ++ os).Nodup → Off l c (done ++ os) (os.foldl payStep st)
  | [], done, st, h, _, _ => by simpa using h
  | i :: os, done, st, h, h1, h2 => by
    have hi := h1 i List.mem_cons_self
    have hn : i ∉ done := fun hm => by
      have := List.nodup_append.mp h2
      exact this.2.2 i hm i List.mem_cons_self rfl
    have hbi : (l.getD i z39).f3 ≤ 1000000000 := by
      have hm : l.getD i z39 ∈ l := by rw [List.getD_eq_getElem?_getD, List.getElem?_eq_getElem hi, Option.getD_some]; exact List.getElem_mem _
      exact ((dOk_iff _).mp (hb _ hm)).2.2.2.2
    have e : done ++ i :: os = (done ++ [i]) ++ os := by simp
    rw [e, List.foldl_cons]
    rw [e] at h2
    exact off_fold l c hc hb os (done ++ [i]) _ (off_step h i hi hn hc hbi) (fun j hj => h1 j (List.mem_cons_of_mem _ hj)) h2
theorem off_start (l : List S39) (c : Int) (hc : 0 ≤ c) (hb : ∀ x ∈ l, dOk x = true) : Off l c [] (l, c) := by
  refine ⟨rfl, fun _ _ => ⟨rfl, rfl, rfl⟩, fun i hi => ⟨?_, Int.le_refl _⟩, fun _ _ _ => rfl, ⟨hc, Int.le_refl _⟩, by simp only; omega, by simp⟩
  have hm : l.getD i z39 ∈ l := by rw [List.getD_eq_getElem?_getD, List.getElem?_eq_getElem hi, Option.getD_some]; exact List.getElem_mem _
  exact ((dOk_iff _).mp (hb _ hm)).2.2.2.1
/-- What a payment leaves. -/
theorem pay_off (l : List S39) (c : Int) (h : Debts l) (h0 : 0 ≤ c) (h1 : c ≤ 1000000000) : Off l c (ordP l) (payF l c) := by
  have := off_fold l c h1 h.ok (ordP l) [] (l, c) (off_start l c h0 h.ok) (fun i hi => (ordP_mem l i).mp hi) (by simpa using ordP_nodup l)
  simpa [payF] using this
theorem bef_total (x y : S39) (h : x.f0 ≠ y.f0) : Bef x y ∨ Bef y x := by
  unfold Bef
  omega
theorem bef_irrefl (x : S39) : ¬ Bef x x := by unfold Bef; omega
theorem bef_trans {x y z : S39} (h1 : Bef x y) (h2 : Bef y z) : Bef x z := by
  unfold Bef at *
  omega
/-- The order is the one that is sorted. -/
theorem ordP_unique (l : List S39) (hnd : (l.map (·.f0)).Nodup) (os : List Nat) (hp : os.Perm (List.range l.length)) (hs : os.Pairwise (fun i j => Bef (l.getD i z39) (l.getD j z39))) : ordP l = os := by
  have ids : ∀ i j, i < l.length → j < l.length → i ≠ j → (l.getD i z39).f0 ≠ (l.getD j z39).f0 := by
    intro i j hi hj hij e
    have h1 : (l.map (·.f0))[i]'(by simpa using hi) = (l.map (·.f0))[j]'(by simpa using hj) := by
      simpa [List.getD_eq_getElem?_getD, hi, hj] using e
    exact hij ((List.getElem_inj hnd).mp h1)
  have hso : (ordP l).Pairwise (fun i j => Bef (l.getD i z39) (l.getD j z39)) := by
    rw [List.pairwise_iff_getElem]
    intro i j hi hj hij
    have h1 := ordP_sorted l i j hi hj hij
    have hne : (ordP l)[i] ≠ (ordP l)[j] := fun e => by
      have := (List.getElem_inj (ordP_nodup l)).mp e
      omega
    rcases bef_total _ _ (ids _ _ ((ordP_mem l _).mp (List.getElem_mem hi)) ((ordP_mem l _).mp (List.getElem_mem hj)) hne) with h | h
    · exact h
    · exact absurd h h1
  refine List.Perm.eq_of_pairwise (le := fun i j => Bef (l.getD i z39) (l.getD j z39)) (fun a b _ _ h1 h2 => absurd (bef_trans h1 h2) (bef_irrefl _)) hso hs ((ordP_perm l).trans hp.symm)
end Go.Proofs.YtnkgnjklkocojaaGreatDoor.Pure

