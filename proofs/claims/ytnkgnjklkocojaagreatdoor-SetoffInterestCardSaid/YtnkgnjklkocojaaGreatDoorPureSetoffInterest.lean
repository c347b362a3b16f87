/- The law SetoffInterest as a statement over numbers and lists: every input answers true. No Go and no memory in it. -/
import Derived.Test.YtnkgnjklkocojaaGreatDoorXx3
import Derived.Test.YtnkgnjklkocojaaGreatDoorXx8
import Derived.Test.YtnkgnjklkocojaaGreatDoorXx5
import Derived.Test.YtnkgnjklkocojaaGreatDoorXx16
import Derived.Test.YtnkgnjklkocojaaGreatDoorXx9
import Derived.Test.YtnkgnjklkocojaaGreatDoorXx17
import Derived.Test.YtnkgnjklkocojaaGreatDoorXx19
/- What a payment does to debts. No Go and no memory in it. -/
namespace Go.Proofs.YtnkgnjklkocojaaGreatDoor.Pure
open Go.RowKit Go.Proofs.YtnkgnjklkocojaaGreatDoor.X Go.Proofs.YtnkgnjklkocojaaGreatDoorW.PrintWords
set_option linter.unusedVariables false

/-! ### the order -/
theorem ordP_perm (l : List S39) : (ordP l).Perm (List.range l.length) := by
  by_cases hpos : 0 < l.length
  · letI inh : Inhabited (Fin l.length) := ⟨⟨0, hpos⟩⟩
    have h := Go.Sort.pdq_sorts (ltOf (cfP l)) (swoP l) (List.finRange l.length).toArray 0 l.length (Lib.bitLen l.length) true true (Nat.zero_le _) (by simp) (Or.inl rfl)
    have hs : sortP l = Go.Sort.pdq (ltOf (cfP l)) (List.finRange l.length).toArray 0 l.length (Lib.bitLen l.length) true true := by
      unfold sortP
      rw [dif_pos hpos]
    rw [← hs] at h
    have hp := h.1.2.2
    have e1 : ((sortP l).extract 0 l.length).toList = (sortP l).toList := by
      rw [Array.toList_extract]
      simp only [List.extract_eq_take_drop, Nat.sub_zero, List.drop_zero]
      exact List.take_of_length_le (by rw [Array.length_toList, sortP_size l hpos]; exact Nat.le_refl _)
    have e2 : ((List.finRange l.length).toArray.extract 0 l.length).toList = List.finRange l.length := by
      rw [Array.toList_extract]
      simp only [List.extract_eq_take_drop, Nat.sub_zero, List.drop_zero]
      exact List.take_of_length_le (by simp)
    rw [e1, e2] at hp
    have := hp.map Fin.val
    unfold ordP
    refine this.trans (List.Perm.of_eq ?_)
    apply List.ext_getElem
    · simp
    · intro i h1 h2
      simp
  · have h0 : l.length = 0 := by omega
    have : ordP l = [] := by
      unfold ordP sortP
      rw [dif_neg hpos]
      rfl
    rw [this, h0]
    exact List.Perm.refl _
theorem ordP_nodup (l : List S39) : (ordP l).Nodup := (ordP_perm l).nodup_iff.mpr List.nodup_range
theorem ordP_mem (l : List S39) (i : Nat) : i ∈ ordP l ↔ i < l.length := by rw [(ordP_perm l).mem_iff, List.mem_range]
/-- Of two debts, the one before the other in the law's order stands before it. -/
def Bef (x y : S39) : Prop := x.f1 < y.f1 ∨ (x.f1 = y.f1 ∧ (x.f2 < y.f2 ∨ (x.f2 = y.f2 ∧ x.f0 < y.f0)))
theorem ordP_sorted (l : List S39) : ∀ i j (hi : i < (ordP l).length) (hj : j < (ordP l).length), i < j → ¬ Bef (l.getD ((ordP l)[j]) z39) (l.getD ((ordP l)[i]) z39) := by
  intro i j hi hj hij hb
  by_cases hpos : 0 < l.length
  · letI inh : Inhabited (Fin l.length) := ⟨⟨0, hpos⟩⟩
    have h := Go.Sort.pdq_sorts (ltOf (cfP l)) (swoP l) (List.finRange l.length).toArray 0 l.length (Lib.bitLen l.length) true true (Nat.zero_le _) (by simp) (Or.inl rfl)
    have hs : sortP l = Go.Sort.pdq (ltOf (cfP l)) (List.finRange l.length).toArray 0 l.length (Lib.bitLen l.length) true true := by
      unfold sortP
      rw [dif_pos hpos]
    rw [← hs] at h
    have hsz := sortP_size l hpos
    have hj2 : j < l.length := by have := hj; unfold ordP at this; simpa [hsz] using this
    have h2 := h.2 i j (Nat.zero_le _) hij hj2
    rw [getElem!_pos (sortP l) j (by omega), getElem!_pos (sortP l) i (by omega)] at h2
    have ei : (ordP l)[i] = ((sortP l)[i]'(by omega)).val := by simp only [ordP, List.getElem_map, Array.getElem_toList]
    have ej : (ordP l)[j] = ((sortP l)[j]'(by omega)).val := by simp only [ordP, List.getElem_map, Array.getElem_toList]
    rw [ei, ej] at hb
    rw [Bool.eq_false_iff] at h2
    refine h2 ((ltP l _ _).mpr ((cmpD_lt _ _).mpr ?_))
    unfold Bef at hb
    simpa [List.getD_eq_getElem?_getD] using hb
  · have : (ordP l).length = 0 := by
      unfold ordP sortP
      rw [dif_neg hpos]
      rfl
    omega
/-! ### the debts -/
theorem dOk_iff (x : S39) : dOk x = true ↔ (1 ≤ x.f0 ∧ x.f0 ≤ 1000000) ∧ (1 ≤ x.f1 ∧ x.f1 ≤ 4) ∧ (0 ≤ x.f2 ∧ x.f2 ≤ 36524) ∧ (0 ≤ x.f3 ∧ x.f3 ≤ 1000000000) := by
  unfold dOk
  simp [and_assoc]
theorem vD_iff : ∀ (l : List S39) (seen : List Int), vD l seen = true ↔ (∀ x ∈ l, dOk x = true) ∧ (l.map (·.f0)).Nodup ∧ ∀ x ∈ l, x.f0 ∉ seen
  | [], seen => by simp [vD]
  | x :: l, seen => by
    rw [vD]
    by_cases h : seen.contains x.f0 = true ∨ dOk x = false
    · rw [if_pos h]
      constructor
      · intro h1; cases h1
      · rintro ⟨h1, _, h3⟩
        rcases h with h | h
        · exact absurd (List.contains_iff_mem.mp h) (h3 x List.mem_cons_self)
        · have := h1 x List.mem_cons_self
          rw [h] at this
          cases this
    · rw [if_neg h, vD_iff l (seen ++ [x.f0])]
      have h1 : x.f0 ∉ seen := fun hm => h (Or.inl (List.contains_iff_mem.mpr hm))
      have h2 : dOk x = true := by
        cases e : dOk x with
        | true => rfl
        | false => exact absurd (Or.inr e) h
      rw [List.map_cons, List.nodup_cons]
      constructor
      · rintro ⟨a, b, c⟩
        refine ⟨fun y hy => ?_, ⟨fun hm => ?_, b⟩, fun y hy => ?_⟩
        · rcases List.mem_cons.mp hy with rfl | hy
          · exact h2
          · exact a y hy
        · obtain ⟨y, hy, e⟩ := List.mem_map.mp hm
          exact c y hy (by rw [e]; simp)
        · rcases List.mem_cons.mp hy with rfl | hy
          · exact h1
          · exact fun hm => c y hy (List.mem_append_left _ hm)
      · rintro ⟨a, ⟨b1, b2⟩, c⟩
        refine ⟨fun y hy => a y (List.mem_cons_of_mem _ hy), b2, fun y hy hm => ?_⟩
        rcases List.mem_append.mp hm with hm | hm
        · exact c y (List.mem_cons_of_mem _ hy) hm
        · exact b1 (List.mem_map.mpr ⟨y, hy, List.mem_singleton.mp hm⟩)
/-- Debts that are well-formed. -/
structure Debts (l : List S39) : Prop where
  ok : ∀ x ∈ l, dOk x = true
  nd : (l.map (·.f0)).Nodup
  len : l.length ≤ 100
theorem valid_iff (l : List S39) : (vD l [] = true ∧ l.length ≤ 100) ↔ Debts l := by
  rw [vD_iff]
  constructor
  · rintro ⟨⟨a, b, _⟩, c⟩; exact ⟨a, b, c⟩
  · rintro ⟨a, b, c⟩; exact ⟨⟨a, b, by simp⟩, c⟩
/-! ### a payment, debt by debt -/
/-- What is open of all. -/
def sumO (l : List S39) : Int := (l.map (·.f3)).foldr (· + ·) 0
theorem sumO_set : ∀ (l : List S39) (i : Nat) (hi : i < l.length) (y : S39), sumO (l.set i y) = sumO l - (l.getD i z39).f3 + y.f3
  | [], i, hi, y => by simp at hi
  | x :: l, 0, hi, y => by
    simp [sumO]
    omega
  | x :: l, i + 1, hi, y => by
    have ih := sumO_set l i (by simpa using hi) y
    have e : sumO ((x :: l).set (i + 1) y) = x.f3 + sumO (l.set i y) := rfl
    have e2 : sumO (x :: l) = x.f3 + sumO l := rfl
    have e3 : (x :: l).getD (i + 1) z39 = l.getD i z39 := rfl
    rw [e, e2, e3, ih]
    omega
/-- What holds while a payment is set off: the debts in done are settled, or nothing is left. -/
structure Off (l : List S39) (c : Int) (done : List Nat) (st : List S39 × Int) : Prop where
  len : st.1.length = l.length
  same : ∀ i, i < l.length → (st.1.getD i z39).f0 = (l.getD i z39).f0 ∧ (st.1.getD i z39).f1 = (l.getD i z39).f1 ∧ (st.1.getD i z39).f2 = (l.getD i z39).f2
  low : ∀ i, i < l.length → 0 ≤ (st.1.getD i z39).f3 ∧ (st.1.getD i z39).f3 ≤ (l.getD i z39).f3
  todo : ∀ i, i < l.length → i ∉ done → st.1.getD i z39 = l.getD i z39
  left : 0 ≤ st.2 ∧ st.2 ≤ c
  sum : sumO l - sumO st.1 + st.2 = c
  full : ∀ i ∈ done, st.2 = 0 ∨ (st.1.getD i z39).f3 = 0
theorem getD_set_ne (l : List S39) (i j : Nat) (y : S39) (h : j ≠ i) : (l.set i y).getD j z39 = l.getD j z39 := by
  rw [List.getD_eq_getElem?_getD, List.getD_eq_getElem?_getD, List.getElem?_set_ne (Ne.symm h)]
theorem getD_set_eq (l : List S39) (i : Nat) (y : S39) (h : i < l.length) : (l.set i y).getD i z39 = y := by
  rw [List.getD_eq_getElem?_getD, List.getElem?_set_self h]
  rfl
theorem off_step {l : List S39} {c : Int} {done : List Nat} {st : List S39 × Int} (h : Off l c done st) (i : Nat) (hi : i < l.length) (hn : i ∉ done) (hc : c ≤ 1000000000) (hb : (l.getD i z39).f3 ≤ 1000000000) : Off l c (done ++ [i]) (payStep st i) := by
  have hi1 : i < st.1.length := by rw [h.len]; exact hi
  have hlow := h.low i hi
  have hleft := h.left
  have hsame := h.same i hi
  have htodo := h.todo i hi hn
  generalize hx : st.1.getD i z39 = x at hlow hsame htodo
  obtain ⟨p, hp⟩ : ∃ p : Int, p = if x.f3 < st.2 then x.f3 else st.2 := ⟨_, rfl⟩
  have hp1 : 0 ≤ p ∧ p ≤ x.f3 ∧ p ≤ st.2 ∧ (p = x.f3 ∨ p = st.2) := by rw [hp]; split <;> omega
  have w1 : wrap64 (x.f3 - p) = x.f3 - p := by unfold wrap64; omega
  have w2 : wrap64 (st.2 - p) = st.2 - p := by clear w1; unfold wrap64; omega
  have e : payStep st i = (st.1.set i ⟨x.f0, x.f1, x.f2, x.f3 - p⟩, st.2 - p) := by
    unfold payStep
    simp only [hx, ← hp, w1, w2]
  rw [e]
  clear e w1 w2 hp
  refine ⟨by simp [h.len], fun j hj => ?_, fun j hj => ?_, fun j hj hn' => ?_, by simp only; omega, ?_, fun j hj => ?_⟩
  · by_cases hji : j = i
    · subst hji
      simp only [getD_set_eq _ _ _ hi1]
      exact hsame
    · simp only [getD_set_ne _ _ _ _ hji]
      exact h.same j hj
  · by_cases hji : j = i
    · subst hji
      simp only [getD_set_eq _ _ _ hi1]
      omega
    · simp only [getD_set_ne _ _ _ _ hji]
      exact h.low j hj
  · have hji : j ≠ i := fun e => hn' (by rw [e]; simp)
    simp only [getD_set_ne _ _ _ _ hji]
    exact h.todo j hj (fun hm => hn' (List.mem_append_left _ hm))
  · have hs := sumO_set st.1 i hi1 ⟨x.f0, x.f1, x.f2, x.f3 - p⟩
    rw [hx] at hs
    have := h.sum
    simp only at hs ⊢
    omega
  · rcases List.mem_append.mp hj with hj | hj
    · have hji : j ≠ i := fun e => hn (e ▸ hj)
      simp only [getD_set_ne _ _ _ _ hji]
      rcases h.full j hj with h1 | h1
      · left; omega
      · right; exact h1
    · have hji := List.mem_singleton.mp hj
      subst hji
      simp only [getD_set_eq _ _ _ hi1]
      omega
theorem off_fold (l : List S39) (c : Int) (hc : c ≤ 1000000000) (hb : ∀ x ∈ l, dOk x = true) : ∀ (os done : List Nat) (st : List S39 × Int), Off l c done st → (∀ i ∈ os, i < l.length) → (done ++ os).Nodup → Off l c (done ++ os) (os.foldl payStep st)
  | [], done, st, h, _, _ => by simpa using h
  | i :: os, done, st, h, h1, h2 => by
    have hi := h1 i List.mem_cons_self
    have hn : i ∉ done := fun hm => by
      have := List.nodup_append.mp h2
      exact this.2.2 i hm i List.mem_cons_self rfl
    have hbi : (l.getD i z39).f3 ≤ 1000000000 := by
      have hm : l.getD i z39 ∈ l := by rw [List.getD_eq_getElem?_getD, List.getElem?_eq_getElem hi, Option.getD_some]; exact List.getElem_mem _
      exact ((dOk_iff _).mp (hb _ hm)).2.2.2.2
    have e : done ++ i :: os = (done ++ [i]) ++ os := by simp
    rw [e, List.foldl_cons]
    rw [e] at h2
    exact off_fold l c hc hb os (done ++ [i]) _ (off_step h i hi hn hc hbi) (fun j hj => h1 j (List.mem_cons_of_mem _ hj)) h2
theorem off_start (l : List S39) (c : Int) (hc : 0 ≤ c) (hb : ∀ x ∈ l, dOk x = true) : Off l c [] (l, c) := by
  refine ⟨rfl, fun _ _ => ⟨rfl, rfl, rfl⟩, fun i hi => ⟨?_, Int.le_refl _⟩, fun _ _ _ => rfl, ⟨hc, Int.le_refl _⟩, by simp only; omega, by simp⟩
  have hm : l.getD i z39 ∈ l := by rw [List.getD_eq_getElem?_getD, List.getElem?_eq_getElem hi, Option.getD_some]; exact List.getElem_mem _
  exact ((dOk_iff _).mp (hb _ hm)).2.2.2.1
/-- What a payment leaves. -/
theorem pay_off (l : List S39) (c : Int) (h : Debts l) (h0 : 0 ≤ c) (h1 : c ≤ 1000000000) : Off l c (ordP l) (payF l c) := by
  have := off_fold l c h1 h.ok (ordP l) [] (l, c) (off_start l c h0 h.ok) (fun i hi => (ordP_mem l i).mp hi) (by simpa using ordP_nodup l)
  simpa [payF] using this
theorem bef_total (x y : S39) (h : x.f0 ≠ y.f0) : Bef x y ∨ Bef y x := by
  unfold Bef
  omega
theorem bef_irrefl (x : S39) : ¬ Bef x x := by unfold Bef; omega
theorem bef_trans {x y z : S39} (h1 : Bef x y) (h2 : Bef y z) : Bef x z := by
  unfold Bef at *
  omega
/-- The order is the one that is sorted. -/
theorem ordP_unique (l : List S39) (hnd : (l.map (·.f0)).Nodup) (os : List Nat) (hp : os.Perm (List.range l.length)) (hs : os.Pairwise (fun i j => Bef (l.getD i z39) (l.getD j z39))) : ordP l = os := by
  have ids : ∀ i j, i < l.length → j < l.length → i ≠ j → (l.getD i z39).f0 ≠ (l.getD j z39).f0 := by
    intro i j hi hj hij e
    have h1 : (l.map (·.f0))[i]'(by simpa using hi) = (l.map (·.f0))[j]'(by simpa using hj) := by
      simpa [List.getD_eq_getElem?_getD, hi, hj] using e
    exact hij ((List.getElem_inj hnd).mp h1)
  have hso : (ordP l).Pairwise (fun i j => Bef (l.getD i z39) (l.getD j z39)) := by
    rw [List.pairwise_iff_getElem]
    intro i j hi hj hij
    have h1 := ordP_sorted l i j hi hj hij
    have hne : (ordP l)[i] ≠ (ordP l)[j] := fun e => by
      have := (List.getElem_inj (ordP_nodup l)).mp e
      omega
    rcases bef_total _ _ (ids _ _ ((ordP_mem l _).mp (List.getElem_mem hi)) ((ordP_mem l _).mp (List.getElem_mem hj)) hne) with h | h
    · exact h
    · exact absurd h h1
  refine List.Perm.eq_of_pairwise (le := fun i j => Bef (l.getD i z39) (l.getD j z39)) (fun a b _ _ h1 h2 => absurd (bef_trans h1 h2) (bef_irrefl _)) hso hs ((ordP_perm l).trans hp.symm)
end Go.Proofs.YtnkgnjklkocojaaGreatDoor.Pure

/- Two payments, one after the other, leave what their sum leaves. No Go and no memory in it. -/
namespace Go.Proofs.YtnkgnjklkocojaaGreatDoor.Pure
open Go.RowKit Go.Proofs.YtnkgnjklkocojaaGreatDoor.X Go.Proofs.YtnkgnjklkocojaaGreatDoorW.PrintWords
set_option linter.unusedVariables false
def pt (u p : Int) : Int := if u < p then u else p
theorem wrapIn (x : Int) (h : -9223372036854775808 ≤ x ∧ x ≤ 9223372036854775807) : wrap64 x = x := by unfold wrap64; omega
def lower (x : S39) (v : Int) : S39 := ⟨x.f0, x.f1, x.f2, v⟩
theorem step_eq (st : List S39 × Int) (i : Nat) (hu : 0 ≤ (st.1.getD i z39).f3 ∧ (st.1.getD i z39).f3 ≤ 1000000000) (hp : 0 ≤ st.2 ∧ st.2 ≤ 1000000000) :
    payStep st i = (st.1.set i (lower (st.1.getD i z39) ((st.1.getD i z39).f3 - pt (st.1.getD i z39).f3 st.2)), st.2 - pt (st.1.getD i z39).f3 st.2) := by
  have h1 : 0 ≤ pt (st.1.getD i z39).f3 st.2 ∧ pt (st.1.getD i z39).f3 st.2 ≤ 1000000000 := by unfold pt; split <;> omega
  have h2 : payStep st i = (st.1.set i (lower (st.1.getD i z39) (wrap64 ((st.1.getD i z39).f3 - pt (st.1.getD i z39).f3 st.2))), wrap64 (st.2 - pt (st.1.getD i z39).f3 st.2)) := rfl
  rw [h2, wrapIn _ (by omega), wrapIn _ (by omega)]
theorem fold_other : ∀ (os : List Nat) (st : List S39 × Int) (j : Nat), j ∉ os → (os.foldl payStep st).1.getD j z39 = st.1.getD j z39
  | [], _, _, _ => rfl
  | i :: os, st, j, h => by
    have h1 : j ≠ i := fun e => h (e ▸ List.mem_cons_self)
    have h2 : j ∉ os := fun hm => h (List.mem_cons_of_mem _ hm)
    rw [List.foldl_cons, fold_other os (payStep st i) j h2]
    exact getD_set_ne _ _ _ _ h1
theorem fold_len : ∀ (os : List Nat) (st : List S39 × Int), (os.foldl payStep st).1.length = st.1.length
  | [], _ => rfl
  | i :: os, st => by
    rw [List.foldl_cons, fold_len os (payStep st i)]
    exact List.length_set
theorem pt_low (u p : Int) (hu : 0 ≤ u) (hp : 0 ≤ p) : 0 ≤ pt u p ∧ pt u p ≤ u ∧ pt u p ≤ p := by
  unfold pt
  split <;> omega
theorem ids_ne (l : List S39) (hnd : (l.map (·.f0)).Nodup) (i j : Nat) (hi : i < l.length) (hj : j < l.length) (hij : i ≠ j) : (l.getD i z39).f0 ≠ (l.getD j z39).f0 := by
  intro e
  have h1 : (l.map (·.f0))[i]'(by simpa using hi) = (l.map (·.f0))[j]'(by simpa using hj) := by
    simpa [List.getD_eq_getElem?_getD, hi, hj] using e
  exact hij ((List.getElem_inj hnd).mp h1)
theorem ordP_bef (l : List S39) (hnd : (l.map (·.f0)).Nodup) : (ordP l).Pairwise (fun i j => Bef (l.getD i z39) (l.getD j z39)) := by
  rw [List.pairwise_iff_getElem]
  intro i j hi hj hij
  have h1 := ordP_sorted l i j hi hj hij
  have hne : (ordP l)[i] ≠ (ordP l)[j] := fun e => by
    have := (List.getElem_inj (ordP_nodup l)).mp e
    omega
  rcases bef_total _ _ (ids_ne l hnd _ _ ((ordP_mem l _).mp (List.getElem_mem hi)) ((ordP_mem l _).mp (List.getElem_mem hj)) hne) with h | h
  · exact h
  · exact absurd h h1
theorem ext_getD {a b : List S39} (hl : a.length = b.length) (h : ∀ i, i < b.length → a.getD i z39 = b.getD i z39) : a = b := by
  refine List.ext_getElem hl (fun i h1 h2 => ?_)
  have := h i h2
  simpa [List.getD_eq_getElem?_getD, h1, h2] using this
/-- Debts with the same names, kinds and days, none of them higher, are debts in the same order. -/
theorem like_debts {l m : List S39} (h : Debts l) (hl : m.length = l.length) (hs : ∀ i, i < l.length → (m.getD i z39).f0 = (l.getD i z39).f0 ∧ (m.getD i z39).f1 = (l.getD i z39).f1 ∧ (m.getD i z39).f2 = (l.getD i z39).f2)
    (hv : ∀ i, i < l.length → 0 ≤ (m.getD i z39).f3 ∧ (m.getD i z39).f3 ≤ (l.getD i z39).f3) : Debts m ∧ ordP m = ordP l := by
  have em : m.map (·.f0) = l.map (·.f0) := by
    refine List.ext_getElem (by simp [hl]) (fun i h1 h2 => ?_)
    have hi : i < l.length := by simpa using h2
    have hi' : i < m.length := by omega
    have := (hs i hi).1
    simpa [List.getD_eq_getElem?_getD, hi, hi'] using this
  have hd : Debts m := by
    refine ⟨fun x hx => ?_, by rw [em]; exact h.nd, by rw [hl]; exact h.len⟩
    obtain ⟨i, hi, rfl⟩ := List.mem_iff_getElem.mp hx
    have e : m.getD i z39 = m[i] := by simp [List.getD_eq_getElem?_getD, hi]
    rw [← e]
    have hi' : i < l.length := by omega
    have hm : l.getD i z39 ∈ l := by rw [List.getD_eq_getElem?_getD, List.getElem?_eq_getElem hi', Option.getD_some]; exact List.getElem_mem _
    have o := (dOk_iff _).mp (h.ok _ hm)
    obtain ⟨s0, s1, s2⟩ := hs i hi'
    have v := hv i hi'
    rw [dOk_iff]
    omega
  refine ⟨hd, ordP_unique m hd.nd (ordP l) (by rw [hl]; exact ordP_perm l) ?_⟩
  refine List.Pairwise.imp_of_mem ?_ (ordP_bef l h.nd)
  intro i j hi hj hb
  obtain ⟨a0, a1, a2⟩ := hs i ((ordP_mem l i).mp hi)
  obtain ⟨b0, b1, b2⟩ := hs j ((ordP_mem l j).mp hj)
  unfold Bef at *
  rw [a0, a1, a2, b0, b1, b2]
  exact hb
end Go.Proofs.YtnkgnjklkocojaaGreatDoor.Pure

/- Lists of stretches as sets of days. No Go and no memory in it. -/
namespace Go.Proofs.YtnkgnjklkocojaaGreatDoor.Pure
open Go.RowKit Go.Proofs.YtnkgnjklkocojaaGreatDoor.X Go.Proofs.YtnkgnjklkocojaaGreatDoorW.PrintWords

/-- A day belongs to a list of stretches. -/
def mem (l : List S24) (d : Int) : Bool := l.any (dayIn d)
theorem str_iff (s : S24) : strB s = true ↔ 0 ≤ s.f0 ∧ s.f0 < s.f1 ∧ s.f1 ≤ 36525 := by
  unfold strB
  simp
theorem in_iff (d : Int) (s : S24) : dayIn d s = true ↔ s.f0 ≤ d ∧ d < s.f1 := by
  unfold dayIn
  simp
theorem mem_iff (l : List S24) (d : Int) : mem l d = true ↔ ∃ s ∈ l, s.f0 ≤ d ∧ d < s.f1 := by
  unfold mem
  rw [List.any_eq_true]
  simp only [in_iff]
theorem mem_append (l m : List S24) (d : Int) : mem (l ++ m) d = (mem l d || mem m d) := by
  unfold mem
  rw [List.any_append]
theorem mem_cons (s : S24) (l : List S24) (d : Int) : mem (s :: l) d = (dayIn d s || mem l d) := rfl
/-- Stretches in order, and apart. -/
structure Apart (l : List S24) : Prop where
  str : ∀ s ∈ l, strB s = true
  pw : l.Pairwise (fun a b => a.f1 < b.f0)
theorem Apart.nil : Apart [] := ⟨by simp, List.Pairwise.nil⟩
theorem Apart.tail {s : S24} {l : List S24} (h : Apart (s :: l)) : Apart l := ⟨fun x hx => h.str x (List.mem_cons_of_mem _ hx), (List.pairwise_cons.mp h.pw).2⟩
theorem Apart.head {s : S24} {l : List S24} (h : Apart (s :: l)) : (0 ≤ s.f0 ∧ s.f0 < s.f1 ∧ s.f1 ≤ 36525) ∧ ∀ t ∈ l, s.f1 < t.f0 := ⟨(str_iff s).mp (h.str s List.mem_cons_self), (List.pairwise_cons.mp h.pw).1⟩
theorem Apart.low {s : S24} {l : List S24} (h : Apart (s :: l)) (d : Int) (hd : mem (s :: l) d = true) : s.f0 ≤ d := by
  obtain ⟨t, ht, h1, _⟩ := (mem_iff _ _).mp hd
  rcases List.mem_cons.mp ht with rfl | ht
  · exact h1
  · have := h.head.2 t ht
    have := h.head.1
    omega
theorem Apart.own {s : S24} {l : List S24} (h : Apart (s :: l)) : mem (s :: l) s.f0 = true := (mem_iff _ _).mpr ⟨s, List.mem_cons_self, Int.le_refl _, h.head.1.2.1⟩
theorem Apart.gap {s : S24} {l : List S24} (h : Apart (s :: l)) (d : Int) (h1 : mem l d = true) : s.f1 < d := by
  obtain ⟨t, ht, h2, _⟩ := (mem_iff _ _).mp h1
  have := h.head.2 t ht
  omega
/-! ### add -/
theorem addF_nil (s : S24) : addF [] s = [s] := rfl
theorem addF_snoc (o : List S24) (t s : S24) : addF (o ++ [t]) s = if t.f1 ≥ s.f0 then o ++ [⟨t.f0, mx t.f1 s.f1⟩] else o ++ [t] ++ [s] := by
  have hl : (o ++ [t]).length = o.length + 1 := by simp
  have hr : rd_T24 (o ++ [t]) (((o ++ [t]).length : Int) - 1) = t := by
    rw [hl, show ((o.length + 1 : Nat) : Int) - 1 = (o.length : Int) by omega, rd30_nat _ _ (by simp)]
    simp
  unfold addF
  rw [hr]
  by_cases h : t.f1 ≥ s.f0
  · rw [if_pos ⟨by rw [hl]; omega, h⟩, if_pos h, hl]
    simp
  · rw [if_neg (fun e => h e.2), if_neg h]
theorem add_ok (out : List S24) (s : S24) (h : Apart out) (hs : strB s = true) (hl : ∀ t ∈ out, t.f0 ≤ s.f0) :
    Apart (addF out s) ∧ (∀ d, mem (addF out s) d = (mem out d || dayIn d s)) ∧ (∀ t ∈ addF out s, t.f0 ≤ s.f0) := by
  have hs' := (str_iff s).mp hs
  rcases List.eq_nil_or_concat out with rfl | ⟨o, t, rfl⟩
  · rw [addF_nil]
    refine ⟨⟨by intro x hx; rw [List.mem_singleton.mp hx]; exact hs, by simp⟩, fun d => by simp [mem], ?_⟩
    intro x hx
    rw [List.mem_singleton.mp hx]
    exact Int.le_refl _
  · rw [List.concat_eq_append] at h hl ⊢
    rw [addF_snoc]
    obtain ⟨p1, p2, p3⟩ := List.pairwise_append.mp h.pw
    have ht := (str_iff t).mp (h.str t (by simp))
    have htl := hl t (by simp)
    by_cases hj : t.f1 ≥ s.f0
    · rw [if_pos hj]
      have hm : mx t.f1 s.f1 = t.f1 ∧ s.f1 ≤ t.f1 ∨ mx t.f1 s.f1 = s.f1 ∧ t.f1 < s.f1 := by
        unfold mx
        split <;> omega
      refine ⟨⟨?_, ?_⟩, fun d => ?_, ?_⟩
      · intro x hx
        rcases List.mem_append.mp hx with hx | hx
        · exact h.str x (List.mem_append_left _ hx)
        · rw [List.mem_singleton.mp hx, str_iff]
          simp only
          omega
      · refine List.pairwise_append.mpr ⟨p1, by simp, ?_⟩
        intro a ha b hb
        rw [List.mem_singleton.mp hb]
        exact p3 a ha t (by simp)
      · rw [mem_append, mem_append]
        have e1 : mem [(⟨t.f0, mx t.f1 s.f1⟩ : S24)] d = (mem [t] d || dayIn d s) := by
          rw [Bool.eq_iff_iff, Bool.or_eq_true, mem_iff, mem_iff, in_iff]
          simp only [List.mem_singleton, exists_eq_left]
          omega
        rw [e1, Bool.or_assoc]
      · intro x hx
        rcases List.mem_append.mp hx with hx | hx
        · exact hl x (List.mem_append_left _ hx)
        · rw [List.mem_singleton.mp hx]
          exact htl
    · rw [if_neg hj]
      refine ⟨⟨?_, ?_⟩, fun d => ?_, ?_⟩
      · intro x hx
        rcases List.mem_append.mp hx with hx | hx
        · exact h.str x hx
        · rw [List.mem_singleton.mp hx]; exact hs
      · refine List.pairwise_append.mpr ⟨h.pw, by simp, ?_⟩
        intro a ha b hb
        rw [List.mem_singleton.mp hb]
        rcases List.mem_append.mp ha with ha | ha
        · have := p3 a ha t (by simp)
          omega
        · rw [List.mem_singleton.mp ha]; omega
      · rw [mem_append]
        simp [mem]
      · intro x hx
        rcases List.mem_append.mp hx with hx | hx
        · exact hl x hx
        · rw [List.mem_singleton.mp hx]; exact Int.le_refl _
theorem fold_ok : ∀ (l out : List S24), Apart out → (∀ s ∈ l, strB s = true) → l.Pairwise (fun a b => a.f0 ≤ b.f0) → (∀ t ∈ out, ∀ s ∈ l, t.f0 ≤ s.f0) →
    Apart (l.foldl addF out) ∧ ∀ d, mem (l.foldl addF out) d = (mem out d || mem l d)
  | [], out, h, _, _, _ => ⟨h, fun d => by simp [mem]⟩
  | s :: l, out, h, hs, hp, ho => by
    obtain ⟨a1, a2, a3⟩ := add_ok out s h (hs s List.mem_cons_self) (fun t ht => ho t ht s List.mem_cons_self)
    obtain ⟨q1, q2⟩ := List.pairwise_cons.mp hp
    obtain ⟨b1, b2⟩ := fold_ok l (addF out s) a1 (fun x hx => hs x (List.mem_cons_of_mem _ hx)) q2 (fun t ht x hx => Int.le_trans (a3 t ht) (q1 x hx))
    refine ⟨b1, fun d => ?_⟩
    rw [List.foldl_cons, b2, a2, mem_cons, Bool.or_assoc]
/-! ### Normal -/
theorem sorted30_perm (l : List S24) : (sorted30 l).Perm l ∧ (sorted30 l).Pairwise (fun a b => a.f0 ≤ b.f0) := by
  have h := Go.Sort.pdq_sorts (ltOf cf30) swo30 l.toArray 0 l.toArray.size (Lib.bitLen l.toArray.size) true true (Nat.zero_le _) (Nat.le_refl _) (Or.inl rfl)
  generalize hp : Go.Sort.pdq (ltOf cf30) l.toArray 0 l.toArray.size (Lib.bitLen l.toArray.size) true true = p at h
  have e : sorted30 l = p.toList := by unfold sorted30; rw [hp]
  obtain ⟨⟨hsz, _, hperm⟩, hsrt⟩ := h
  rw [e]
  constructor
  · have e1 : p.extract 0 l.toArray.size = p := by rw [← hsz]; simp
    have e2 : l.toArray.extract 0 l.toArray.size = l.toArray := by simp
    rw [e1, e2] at hperm
    simpa using hperm
  · rw [List.pairwise_iff_getElem]
    intro i j hi hj hij
    have := hsrt i j (Nat.zero_le _) hij (by rw [← hsz]; simpa using hj)
    rw [lt30] at this
    have h1 := of_decide_eq_false this
    rw [getElem!_pos p j (by simpa using hj), getElem!_pos p i (by simpa using hi)] at h1
    simp only [Array.getElem_toList]
    omega
theorem mem_perm {l m : List S24} (h : l.Perm m) (d : Int) : mem l d = mem m d := by
  rw [Bool.eq_iff_iff, mem_iff, mem_iff]
  constructor
  · rintro ⟨s, hs, h1⟩; exact ⟨s, h.mem_iff.mp hs, h1⟩
  · rintro ⟨s, hs, h1⟩; exact ⟨s, h.mem_iff.mpr hs, h1⟩
/-- The stretches with the same days that are in order and apart. -/
def normL (l : List S24) : List S24 := (sorted30 l).foldl addF []
theorem norm_ok (l : List S24) (h : ∀ s ∈ l, strB s = true) : Apart (normL l) ∧ ∀ d, mem (normL l) d = mem l d := by
  obtain ⟨hp, hs⟩ := sorted30_perm l
  obtain ⟨a, b⟩ := fold_ok (sorted30 l) [] Apart.nil (fun s hs' => h s (hp.mem_iff.mp hs')) hs (by simp)
  refine ⟨a, fun d => ?_⟩
  show mem ((sorted30 l).foldl addF []) d = _
  rw [b, mem_perm hp]
  simp [mem]
theorem normF_eq (l : List S24) : normF l = if l.all strB then limF (normL l) else ([], 1) := rfl
end Go.Proofs.YtnkgnjklkocojaaGreatDoor.Pure

/- A sweep over the ends of two sets: the days that are kept. No Go and no memory in it. -/
namespace Go.Proofs.YtnkgnjklkocojaaGreatDoor.Pure
open Go.RowKit Go.Proofs.YtnkgnjklkocojaaGreatDoor.X Go.Proofs.YtnkgnjklkocojaaGreatDoorW.PrintWords

/-! ### the ends -/
theorem upto_ok (d : Array Int) (hm : ∀ i j, i ≤ j → j < d.size → d[i]! ≤ d[j]!) : ∀ m, m ≤ d.size →
    (Lib.compactUpTo d m).Pairwise (· < ·) ∧ (∀ x ∈ Lib.compactUpTo d m, ∃ j, j < m ∧ x = d[j]!) ∧ (∀ j, j < m → d[j]! ∈ Lib.compactUpTo d m)
  | 0, _ => ⟨by simp [Lib.compactUpTo], by simp [Lib.compactUpTo], fun j h => absurd h (by omega)⟩
  | m + 1, h => by
    obtain ⟨p1, p2, p3⟩ := upto_ok d hm m (by omega)
    rw [Lib.compactUpTo_succ]
    cases hk : Lib.keeps d m with
    | true =>
      rw [if_pos rfl]
      refine ⟨List.pairwise_append.mpr ⟨p1, by simp, ?_⟩, ?_, ?_⟩
      · intro a ha b hb
        rw [List.mem_singleton.mp hb]
        obtain ⟨j, hj, rfl⟩ := p2 a ha
        have h1 := hm j (m - 1) (by omega) (by omega)
        have h2 := hm (m - 1) m (by omega) (by omega)
        have h3 : m = 0 ∨ d[m]! ≠ d[m - 1]! := of_decide_eq_true hk
        rcases h3 with h3 | h3
        · omega
        · omega
      · intro x hx
        rcases List.mem_append.mp hx with hx | hx
        · obtain ⟨j, hj, e⟩ := p2 x hx
          exact ⟨j, by omega, e⟩
        · exact ⟨m, by omega, List.mem_singleton.mp hx⟩
      · intro j hj
        rcases Nat.lt_or_ge j m with h1 | h1
        · exact List.mem_append_left _ (p3 j h1)
        · have : j = m := by omega
          subst this
          exact List.mem_append_right _ (by simp)
    | false =>
      rw [if_neg (by decide), List.append_nil]
      have h3 : ¬ (m = 0 ∨ d[m]! ≠ d[m - 1]!) := of_decide_eq_false hk
      refine ⟨p1, fun x hx => ?_, fun j hj => ?_⟩
      · obtain ⟨j, hj, e⟩ := p2 x hx
        exact ⟨j, by omega, e⟩
      · rcases Nat.lt_or_ge j m with h1 | h1
        · exact p3 j h1
        · have : j = m := by omega
          subst this
          have h4 : j ≠ 0 := fun e => h3 (Or.inl e)
          have h5 : d[j]! = d[j - 1]! := Classical.byContradiction fun e => h3 (Or.inr e)
          rw [h5]
          exact p3 (j - 1) (by omega)
theorem compact_ok (zs : List Int) (h : zs.Pairwise (· ≤ ·)) : (Lib.compact zs).Pairwise (· < ·) ∧ ∀ x, x ∈ Lib.compact zs ↔ x ∈ zs := by
  have hm : ∀ i j, i ≤ j → j < zs.toArray.size → zs.toArray[i]! ≤ zs.toArray[j]! := by
    intro i j hij hj
    rcases Nat.lt_or_ge i j with h1 | h1
    · rw [getElem!_pos _ i (by omega), getElem!_pos _ j hj]
      simp only [List.getElem_toArray]
      exact List.pairwise_iff_getElem.mp h i j _ _ h1
    · have : i = j := by omega
      subst this
      exact Int.le_refl _
  obtain ⟨p1, p2, p3⟩ := upto_ok zs.toArray hm zs.length (by simp)
  refine ⟨p1, fun x => ⟨fun hx => ?_, fun hx => ?_⟩⟩
  · obtain ⟨j, hj, rfl⟩ := p2 x hx
    rw [getElem!_pos _ j (by simpa using hj)]
    simp
  · obtain ⟨j, hj, rfl⟩ := List.mem_iff_getElem.mp hx
    have := p3 j hj
    rw [getElem!_pos _ j (by simpa using hj)] at this
    rw [List.getElem_toArray] at this
    exact this
theorem flZ_mem (l : List S24) (x : Int) : x ∈ flZ l ↔ ∃ s ∈ l, x = s.f0 ∨ x = s.f1 := by
  unfold flZ
  rw [List.mem_flatMap]
  simp
theorem ends_fact (a b : List S24) : (endsF a b).Pairwise (· < ·) ∧ ∀ x, x ∈ endsF a b ↔ ((∃ s ∈ a, x = s.f0 ∨ x = s.f1) ∨ ∃ s ∈ b, x = s.f0 ∨ x = s.f1) := by
  have hs : (sorted (flZ a ++ flZ b)).Pairwise (· ≤ ·) := by
    have := List.pairwise_mergeSort (le := fun x y : Int => decide (x ≤ y)) (fun a b c h1 h2 => by simp only [decide_eq_true_eq] at *; omega) (fun a b => by simp only [Bool.or_eq_true, decide_eq_true_eq]; omega) (flZ a ++ flZ b)
    exact this.imp (fun h => of_decide_eq_true h)
  obtain ⟨p1, p2⟩ := compact_ok _ hs
  refine ⟨p1, fun x => ?_⟩
  show x ∈ Lib.compact (sorted (flZ a ++ flZ b)) ↔ _
  rw [p2]
  unfold sorted
  rw [List.mem_mergeSort, List.mem_append, flZ_mem, flZ_mem]
/-! ### the walk over a set -/
theorem Apart.past {l : List S24} (h : Apart l) (d : Int) : Apart (pastD l d) := by
  unfold pastD
  have hs := List.dropWhile_sublist (fun s : S24 => decide (s.f1 ≤ d)) (l := l)
  exact ⟨fun s hs' => h.str s (hs.subset hs'), h.pw.sublist hs⟩
theorem mem_past : ∀ (l : List S24) (d x : Int), d ≤ x → mem (pastD l d) x = mem l x
  | [], _, _, _ => rfl
  | s :: l, d, x, h => by
    unfold pastD
    rw [List.dropWhile_cons]
    by_cases hs : s.f1 ≤ d
    · rw [if_pos (decide_eq_true hs), mem_cons]
      have ih := mem_past l d x h
      unfold pastD at ih
      rw [ih]
      have : dayIn x s = false := by
        cases hd : dayIn x s with
        | false => rfl
        | true => have := (in_iff x s).mp hd; omega
      rw [this, Bool.false_or]
    · rw [if_neg (by simpa using hs)]
theorem past_head (l : List S24) (d : Int) (s : S24) (r : List S24) (h : pastD l d = s :: r) : ¬ s.f1 ≤ d := by
  unfold pastD at h
  intro hn
  have := List.head_dropWhile_not (fun s : S24 => decide (s.f1 ≤ d)) (l := l) (by rw [h]; simp)
  simp only [h, List.head_cons] at this
  rw [decide_eq_true hn] at this
  exact absurd this (by simp)
theorem in_past {l : List S24} (h : Apart l) (d : Int) : inD l d = mem l d := by
  rw [← mem_past l d d (Int.le_refl _)]
  have hp := h.past d
  have hh := past_head l d
  unfold inD
  generalize pastD l d = p at hp hh
  cases p with
  | nil => rfl
  | cons s r =>
    have h1 := hh s r rfl
    show decide (s.f0 ≤ d) = mem (s :: r) d
    rw [Bool.eq_iff_iff, decide_eq_true_eq]
    constructor
    · intro h2
      exact (mem_iff _ _).mpr ⟨s, List.mem_cons_self, h2, by omega⟩
    · exact hp.low d
/-- The stretches between the ends that are kept. -/
def segs (kf : Bool → Bool → Bool) (ma mb : Int → Bool) : List Int → List S24
  | d :: e :: r => if kf (ma d) (mb d) then ⟨d, e⟩ :: segs kf ma mb (e :: r) else segs kf ma mb (e :: r)
  | _ => []
theorem sweep_segs (kf : Bool → Bool → Bool) (ma mb : Int → Bool) : ∀ (zs : List Int) (ra rb out : List S24), zs.Pairwise (· < ·) → Apart ra → Apart rb →
    (∀ d ∈ zs, mem ra d = ma d) → (∀ d ∈ zs, mem rb d = mb d) → sweepL kf zs ra rb out = (segs kf ma mb zs).foldl addF out
  | [], _, _, _, _, _, _, _, _ => by simp [sweepL, segs]
  | [_], _, _, _, _, _, _, _, _ => by simp [sweepL, segs]
  | d :: e :: r, ra, rb, out, hz, ha, hb, h1, h2 => by
    obtain ⟨q1, q2⟩ := List.pairwise_cons.mp hz
    rw [sweepL, segs, in_past ha, in_past hb, h1 d List.mem_cons_self, h2 d List.mem_cons_self]
    rw [sweep_segs kf ma mb (e :: r) (pastD ra d) (pastD rb d) _ q2 (ha.past d) (hb.past d)
      (fun x hx => by rw [mem_past _ _ _ (Int.le_of_lt (q1 x hx)), h1 x (List.mem_cons_of_mem _ hx)])
      (fun x hx => by rw [mem_past _ _ _ (Int.le_of_lt (q1 x hx)), h2 x (List.mem_cons_of_mem _ hx)])]
    split <;> rfl
theorem segs_fact (kf : Bool → Bool → Bool) (ma mb : Int → Bool) : ∀ (zs : List Int), zs.Pairwise (· < ·) →
    (∀ s ∈ segs kf ma mb zs, s.f0 < s.f1 ∧ s.f0 ∈ zs ∧ s.f1 ∈ zs) ∧ (segs kf ma mb zs).Pairwise (fun a b => a.f0 ≤ b.f0) ∧ (∀ d r, zs = d :: r → ∀ s ∈ segs kf ma mb zs, d ≤ s.f0)
  | [], _ => by simp [segs]
  | [_], _ => by simp [segs]
  | d :: e :: r, hz => by
    obtain ⟨q1, q2⟩ := List.pairwise_cons.mp hz
    obtain ⟨a1, a2, a3⟩ := segs_fact kf ma mb (e :: r) q2
    have hde := q1 e List.mem_cons_self
    have b1 : ∀ s ∈ segs kf ma mb (e :: r), s.f0 < s.f1 ∧ s.f0 ∈ d :: e :: r ∧ s.f1 ∈ d :: e :: r := fun s hs => ⟨(a1 s hs).1, List.mem_cons_of_mem _ (a1 s hs).2.1, List.mem_cons_of_mem _ (a1 s hs).2.2⟩
    have b3 : ∀ s ∈ segs kf ma mb (e :: r), d ≤ s.f0 := fun s hs => by have := a3 e r rfl s hs; omega
    rw [segs]
    split
    · refine ⟨?_, List.pairwise_cons.mpr ⟨b3, a2⟩, ?_⟩
      · intro s hs
        rcases List.mem_cons.mp hs with rfl | hs
        · exact ⟨hde, List.mem_cons_self, List.mem_cons_of_mem _ List.mem_cons_self⟩
        · exact b1 s hs
      · intro d' r' e' s hs
        injection e' with e1 _
        subst e1
        rcases List.mem_cons.mp hs with rfl | hs
        · exact Int.le_refl _
        · exact b3 s hs
    · refine ⟨b1, a2, ?_⟩
      intro d' r' e' s hs
      injection e' with e1 _
      subst e1
      exact b3 s hs
theorem mem_none (l : List S24) (x : Int) (h : ∀ s ∈ l, ¬ (s.f0 ≤ x ∧ x < s.f1)) : mem l x = false := by
  cases hm : mem l x with
  | false => rfl
  | true =>
    obtain ⟨s, hs, h1⟩ := (mem_iff _ _).mp hm
    exact absurd h1 (h s hs)
theorem mem_same (l : List S24) (d x : Int) (h : ∀ s ∈ l, (s.f0 ≤ d ∧ d < s.f1) ↔ (s.f0 ≤ x ∧ x < s.f1)) : mem l d = mem l x := by
  rw [Bool.eq_iff_iff, mem_iff, mem_iff]
  constructor
  · rintro ⟨s, hs, h1⟩; exact ⟨s, hs, (h s hs).mp h1⟩
  · rintro ⟨s, hs, h1⟩; exact ⟨s, hs, (h s hs).mpr h1⟩
/-- Every end of l that does not come before d is one of zs. -/
def Ends (l : List S24) (d : Int) (zs : List Int) : Prop := ∀ s ∈ l, (d ≤ s.f0 → s.f0 ∈ zs) ∧ (d ≤ s.f1 → s.f1 ∈ zs)
theorem Ends.tail {l : List S24} {d e : Int} {r : List Int} (h : Ends l d (d :: e :: r)) (hde : d < e) : Ends l e (e :: r) := by
  intro s hs
  refine ⟨fun h1 => ?_, fun h1 => ?_⟩
  · rcases List.mem_cons.mp ((h s hs).1 (by omega)) with h2 | h2
    · omega
    · exact h2
  · rcases List.mem_cons.mp ((h s hs).2 (by omega)) with h2 | h2
    · omega
    · exact h2
theorem Ends.flat {l : List S24} {d e : Int} {r : List Int} (h : Ends l d (d :: e :: r)) (hz : (d :: e :: r).Pairwise (· < ·)) (x : Int) (h1 : d ≤ x) (h2 : x < e) : mem l d = mem l x := by
  obtain ⟨q1, q2⟩ := List.pairwise_cons.mp hz
  obtain ⟨q3, _⟩ := List.pairwise_cons.mp q2
  have low : ∀ y ∈ d :: e :: r, d < y → e ≤ y := by
    intro y hy hdy
    rcases List.mem_cons.mp hy with rfl | hy
    · omega
    · rcases List.mem_cons.mp hy with rfl | hy
      · exact Int.le_refl _
      · have := q3 y hy; omega
  refine mem_same _ _ _ fun s hs => ?_
  obtain ⟨k0, k1⟩ := h s hs
  constructor
  · intro hd
    have := low s.f1 (k1 (by omega)) (by omega)
    omega
  · intro hx
    refine ⟨?_, by omega⟩
    rcases Int.lt_or_le d s.f0 with h3 | h3
    · have := low s.f0 (k0 (by omega)) h3
      omega
    · exact h3
theorem Ends.last {l : List S24} {d : Int} (h : Ends l d [d]) (x : Int) (h1 : d ≤ x) : mem l x = false := by
  refine mem_none _ _ fun s hs hx => ?_
  have := (h s hs).2 (by omega)
  have := List.mem_singleton.mp this
  omega
theorem segs_mem (kf : Bool → Bool → Bool) (h0 : kf false false = false) (a b : List S24) : ∀ (r : List Int) (d : Int), (d :: r).Pairwise (· < ·) → Ends a d (d :: r) → Ends b d (d :: r) → ∀ x,
    mem (segs kf (mem a) (mem b) (d :: r)) x = (decide (d ≤ x) && kf (mem a x) (mem b x))
  | [], d, _, ha, hb, x => by
    by_cases h : d ≤ x
    · rw [ha.last x h, hb.last x h, h0, Bool.and_false]; rfl
    · rw [decide_eq_false h]; rfl
  | e :: r, d, hz, ha, hb, x => by
    obtain ⟨q1, q2⟩ := List.pairwise_cons.mp hz
    have hde := q1 e List.mem_cons_self
    have ih := segs_mem kf h0 a b r e q2 (ha.tail hde) (hb.tail hde) x
    have main : mem (segs kf (mem a) (mem b) (d :: e :: r)) x = ((kf (mem a d) (mem b d) && (decide (d ≤ x) && decide (x < e))) || mem (segs kf (mem a) (mem b) (e :: r)) x) := by
      rw [segs]
      cases hk : kf (mem a d) (mem b d) with
      | true => rw [if_pos rfl, mem_cons, Bool.true_and]; rfl
      | false => rw [if_neg (by decide)]; rfl
    rw [main, ih]
    rcases Int.lt_or_le x d with h1 | h1
    · rw [decide_eq_false (show ¬ d ≤ x by omega), decide_eq_false (show ¬ e ≤ x by omega)]
      simp
    · rcases Int.lt_or_le x e with h2 | h2
      · rw [decide_eq_true h1, decide_eq_true h2, decide_eq_false (show ¬ e ≤ x by omega), ha.flat hz x h1 h2, hb.flat hz x h1 h2]
        simp
      · rw [decide_eq_true h1, decide_eq_true h2, decide_eq_false (show ¬ x < e by omega)]
        simp
/-- What a sweep gives: in order and apart, with the days that are kept; each stretch begins where one of the kept ones begins. -/
theorem sweep_fact (kf : Bool → Bool → Bool) (h0 : kf false false = false) (a b : List S24) (ha : Apart a) (hb : Apart b) :
    Apart (sweepL kf (endsF a b) a b []) ∧ ∀ x, mem (sweepL kf (endsF a b) a b []) x = kf (mem a x) (mem b x) := by
  obtain ⟨e1, e2⟩ := ends_fact a b
  rw [sweep_segs kf (mem a) (mem b) (endsF a b) a b [] e1 ha hb (fun _ _ => rfl) (fun _ _ => rfl)]
  have hr : ∀ x ∈ endsF a b, 0 ≤ x ∧ x ≤ 36525 := by
    intro x hx
    rcases (e2 x).mp hx with ⟨s, hs, h⟩ | ⟨s, hs, h⟩
    · have := (str_iff s).mp (ha.str s hs); omega
    · have := (str_iff s).mp (hb.str s hs); omega
  obtain ⟨f1, f2, _⟩ := segs_fact kf (mem a) (mem b) (endsF a b) e1
  obtain ⟨g1, g2⟩ := fold_ok (segs kf (mem a) (mem b) (endsF a b)) [] Apart.nil
    (fun s hs => by have h := f1 s hs; have h1 := hr _ h.2.1; have h2 := hr _ h.2.2; rw [str_iff]; omega) f2 (by simp)
  refine ⟨g1, fun x => ?_⟩
  rw [g2]
  have ea : ∀ d, Ends a d (endsF a b) := fun d s hs => ⟨fun _ => (e2 _).mpr (Or.inl ⟨s, hs, Or.inl rfl⟩), fun _ => (e2 _).mpr (Or.inl ⟨s, hs, Or.inr rfl⟩)⟩
  have eb : ∀ d, Ends b d (endsF a b) := fun d s hs => ⟨fun _ => (e2 _).mpr (Or.inr ⟨s, hs, Or.inl rfl⟩), fun _ => (e2 _).mpr (Or.inr ⟨s, hs, Or.inr rfl⟩)⟩
  show (false || _) = _
  rw [Bool.false_or]
  generalize endsF a b = zs at *
  cases zs with
  | nil =>
    have : ∀ l : List S24, (∀ d, Ends l d []) → mem l x = false := fun l hl => mem_none _ _ fun s hs hx => by have := (hl s.f0 s hs).1 (Int.le_refl _); simp at this
    rw [this a ea, this b eb, h0]; rfl
  | cons d r =>
    rw [segs_mem kf h0 a b r d e1 (ea d) (eb d) x]
    by_cases h : d ≤ x
    · rw [decide_eq_true h, Bool.true_and]
    · have low : ∀ y ∈ d :: r, d ≤ y := by
        intro y hy
        rcases List.mem_cons.mp hy with rfl | hy
        · exact Int.le_refl _
        · exact Int.le_of_lt ((List.pairwise_cons.mp e1).1 y hy)
      have : ∀ l : List S24, (∀ d', Ends l d' (d :: r)) → mem l x = false := fun l hl => mem_none _ _ fun s hs hx => by have := low _ ((hl s.f0 s hs).1 (Int.le_refl _)); omega
      rw [decide_eq_false h, this a ea, this b eb, h0]; rfl
end Go.Proofs.YtnkgnjklkocojaaGreatDoor.Pure

/- What the functions of span answer, over sets of days. No Go and no memory in it. -/
namespace Go.Proofs.YtnkgnjklkocojaaGreatDoor.Pure
open Go.RowKit Go.Proofs.YtnkgnjklkocojaaGreatDoor.X Go.Proofs.YtnkgnjklkocojaaGreatDoorW.PrintWords

/-- The truth of a statement. -/
noncomputable def tr (p : Prop) : Bool := @decide p (Classical.propDecidable p)
theorem tr_iff (p : Prop) : tr p = true ↔ p := by unfold tr; exact @decide_eq_true_iff p (Classical.propDecidable p)
theorem tr_of {p : Prop} (h : p) : tr p = true := (tr_iff p).mpr h
theorem tr_not {p : Prop} (h : ¬ p) : tr p = false := by
  cases e : tr p with
  | false => rfl
  | true => exact absurd ((tr_iff p).mp e) h
theorem tr_eq {p : Prop} {b : Bool} (h : b = true ↔ p) : b = tr p := by
  rw [Bool.eq_iff_iff, tr_iff]; exact h
/-- A set: in order, apart, and not too long. -/
def IsSet (l : List S24) : Prop := Apart l ∧ l.length ≤ 1000
theorem chain_apart (l : List S24) (hs : ∀ n, n < l.length → strB (rd_T24 l (n : Int)) = true) (hc : ∀ n, 0 < n → n < l.length → (rd_T24 l ((n : Int) - 1)).f1 < (rd_T24 l (n : Int)).f0) : Apart l := by
  refine ⟨fun s hs' => ?_, ?_⟩
  · obtain ⟨j, hj, rfl⟩ := List.mem_iff_getElem.mp hs'
    rw [← rd30_nat l j hj]
    exact hs j hj
  · rw [List.pairwise_iff_getElem]
    intro i j hi hj hij
    rw [← rd30_nat l i hi, ← rd30_nat l j hj]
    induction j with
    | zero => omega
    | succ j ih =>
      have h1 := hc (j + 1) (by omega) hj
      rw [show ((j + 1 : Nat) : Int) - 1 = (j : Int) by omega] at h1
      rcases Nat.lt_or_ge i j with h2 | h2
      · have h3 := ih (by omega) h2
        have h4 := (str_iff _).mp (hs j (by omega))
        omega
      · have : i = j := by omega
        subst this
        exact h1
theorem apart_chain {l : List S24} (h : Apart l) : (∀ n, n < l.length → strB (rd_T24 l (n : Int)) = true) ∧ ∀ n, 0 < n → n < l.length → (rd_T24 l ((n : Int) - 1)).f1 < (rd_T24 l (n : Int)).f0 := by
  refine ⟨fun n hn => ?_, fun n h0 hn => ?_⟩
  · rw [rd30_nat l n hn]
    exact h.str _ (List.getElem_mem hn)
  · rw [show (n : Int) - 1 = ((n - 1 : Nat) : Int) by omega, rd30_nat l n hn, rd30_nat l (n - 1) (by omega)]
    exact List.pairwise_iff_getElem.mp h.pw _ _ _ _ (by omega)
theorem valid_l (l : List S24) (hl : l.length ≤ 8796093022208) : ∀ (j i k : Nat), i + j = l.length → j < k →
    ∃ b, span_Valid.l0 k l (l.length : Int) (i : Int) = some b ∧ (b = true ↔ ((∀ n, i ≤ n → n < l.length → strB (rd_T24 l (n : Int)) = true) ∧ ∀ n, 0 < n → i ≤ n → n < l.length → (rd_T24 l ((n : Int) - 1)).f1 < (rd_T24 l (n : Int)).f0) ∧ l.length ≤ 1000)
  | 0, i, k + 1, hi, _ => by
    rw [span_Valid.l0, if_neg (by omega)]
    refine ⟨_, rfl, ?_⟩
    rw [decide_eq_true_eq]
    constructor
    · intro h
      exact ⟨⟨fun n h1 h2 => absurd h2 (by omega), fun n _ h1 h2 => absurd h2 (by omega)⟩, by omega⟩
    · rintro ⟨_, h⟩
      omega
  | j + 1, i, k + 1, hi, hk => by
    obtain ⟨b, e, hb⟩ := valid_l l hl j (i + 1) k (by omega) (by omega)
    rw [span_Valid.l0, if_pos (by omega), if_pos (by omega), if_pos (by omega), stretch_f, Option.bind_some]
    have w1 : wrap64 ((i : Int) + 1) = ((i + 1 : Nat) : Int) := by unfold wrap64; omega
    have hst : strB ⟨(rd_T24 l (i : Int)).f0, (rd_T24 l (i : Int)).f1⟩ = strB (rd_T24 l (i : Int)) := rfl
    rw [hst]
    by_cases hs : strB (rd_T24 l (i : Int)) = true
    · rw [if_pos hs, w1, e]
      by_cases h0 : 0 < i
      · have w2 : wrap64 ((i : Int) - 1) = (i : Int) - 1 := by unfold wrap64; omega
        rw [if_pos (by omega), w2, if_pos (by omega), if_pos (by omega)]
        by_cases hc : (rd_T24 l ((i : Int) - 1)).f1 ≥ (rd_T24 l (i : Int)).f0
        · rw [if_pos hc]
          refine ⟨_, rfl, ?_⟩
          constructor
          · intro h; exact absurd h (by simp)
          · rintro ⟨⟨_, h⟩, _⟩
            have := h i h0 (Nat.le_refl _) (by omega)
            omega
        · rw [if_neg hc]
          refine ⟨_, rfl, hb.trans ?_⟩
          constructor
          · rintro ⟨⟨h1, h2⟩, h3⟩
            refine ⟨⟨fun n hn => ?_, fun n h4 hn => ?_⟩, h3⟩
            · rcases Nat.lt_or_ge i n with h5 | h5
              · exact h1 n h5
              · have : n = i := by omega
                subst this; exact fun _ => hs
            · rcases Nat.lt_or_ge i n with h5 | h5
              · exact h2 n h4 h5
              · have : n = i := by omega
                subst this; intro _; omega
          · rintro ⟨⟨h1, h2⟩, h3⟩
            exact ⟨⟨fun n hn => h1 n (by omega), fun n h4 hn => h2 n h4 (by omega)⟩, h3⟩
      · have : i = 0 := by omega
        subst this
        rw [if_neg (by omega)]
        refine ⟨_, rfl, hb.trans ?_⟩
        constructor
        · rintro ⟨⟨h1, h2⟩, h3⟩
          refine ⟨⟨fun n hn => ?_, fun n h4 hn => h2 n h4 (by omega)⟩, h3⟩
          rcases Nat.lt_or_ge 0 n with h5 | h5
          · exact h1 n h5
          · have : n = 0 := by omega
            subst this; exact fun _ => hs
        · rintro ⟨⟨h1, h2⟩, h3⟩
          exact ⟨⟨fun n hn => h1 n (by omega), fun n h4 hn => h2 n h4 (by omega)⟩, h3⟩
    · rw [if_neg hs]
      refine ⟨_, rfl, ?_⟩
      constructor
      · intro h; exact absurd h (by simp)
      · rintro ⟨⟨h, _⟩, _⟩
        exact absurd (h i (Nat.le_refl _) (by omega)) hs
theorem valid_eq (l : List S24) (k : Nat) (hl : l.length ≤ 8796093022208) (hk : l.length < k) : span_Valid.f k l = some (tr (IsSet l)) := by
  obtain ⟨b, e, hb⟩ := valid_l l hl l.length 0 k (by omega) hk
  unfold span_Valid.f
  rw [show (0 : Int) = ((0 : Nat) : Int) from rfl, e]
  congr 1
  refine tr_eq (hb.trans ?_)
  constructor
  · rintro ⟨⟨h1, h2⟩, h3⟩
    exact ⟨chain_apart l (fun n => h1 n (Nat.zero_le _)) (fun n h => h2 n h (Nat.zero_le _)), h3⟩
  · rintro ⟨h1, h3⟩
    have := apart_chain h1
    exact ⟨⟨fun n _ => this.1 n, fun n h _ => this.2 n h⟩, h3⟩
/-- What a sweep over two sets gives. -/
def sw (kf : Bool → Bool → Bool) (a b : List S24) : List S24 := sweepL kf (endsF a b) a b []
theorem sweepO_eq (kf : Bool → Bool → Bool) (k : Nat) (a b : List S24) (ha : a.length ≤ 8796093022208) (hb : b.length ≤ 8796093022208) (ka : a.length < k) (kb : b.length < k) :
    sweepO kf k a b = some (if tr (IsSet a) = true ∧ tr (IsSet b) = true then limF (sw kf a b) else ([], 1)) := by
  unfold sweepO
  rw [valid_eq a k ha ka, Option.bind_some, valid_eq b k hb kb, Option.bind_some]
  cases tr (IsSet a) <;> cases tr (IsSet b) <;> simp [sw]
theorem lim_small {l : List S24} (h : l.length ≤ 1000) : limF l = (l, 0) := by
  unfold limF
  rw [if_neg (by omega)]
theorem norm_eq (l : List S24) (h : l.length < 8796093022208) : span_Normal.f l = some (normF l) := by
  unfold span_Normal.f
  rw [if_pos h]
end Go.Proofs.YtnkgnjklkocojaaGreatDoor.Pure

/- The law's own example of setoff. No Go and no memory in it. -/
namespace Go.Proofs.YtnkgnjklkocojaaGreatDoor.Pure
open Go.RowKit Go.Proofs.YtnkgnjklkocojaaGreatDoor.X Go.Proofs.YtnkgnjklkocojaaGreatDoorW.PrintWords
set_option linter.unusedVariables false
theorem ordP_head : ordP hdD = [1, 0, 2] := by
  refine ordP_unique hdD (by decide) [1, 0, 2] (by decide) ?_
  simp [hdD, Bef]
theorem head_pay1 : setoff_Pay.f hdD 100 = some (hdL, 0, 0) := by
  have hv : vD hdD [] = true := by decide
  have hp : payF hdD 100 = (hdL, 0) := by unfold payF; rw [ordP_head]; kernel_rfl
  unfold setoff_Pay.f
  rw [if_pos ⟨by decide, by decide⟩, if_pos ⟨hv, by decide, by decide, by decide⟩, hp]
theorem head_pay2 : setoff_Pay.f hdD (-1) = some ([], 0, 1) := by
  unfold setoff_Pay.f
  rw [if_pos ⟨by decide, by decide⟩, if_neg (by intro h; exact absurd h.2.2.1 (by decide))]
theorem head_arrears : setoff_Arrears.f 20 hdD 11 = some (530, 0) := by kernel_rfl
theorem head_meet : span_Meet.f 18 [⟨100, 465⟩] [] = some ([], 0) := by
  have h1 : span_Valid.f 18 [⟨100, 465⟩] = some true := by kernel_rfl
  have h2 : span_Valid.f 18 [] = some true := by kernel_rfl
  have h3 : sorted [100, 465] = [100, 465] := by
    unfold sorted
    exact List.mergeSort_of_pairwise (by simp)
  have h4 : endsF [⟨100, 465⟩] [] = [100, 465] := by
    have e : endsF [⟨100, 465⟩] [] = Lib.compact (sorted [100, 465]) := rfl
    have e2 : Lib.compact ([100, 465] : List Int) = [100, 465] := by kernel_rfl
    rw [e, h3, e2]
  unfold span_Meet.f sweepO
  rw [h1, Option.bind_some, if_pos rfl, h2, Option.bind_some, if_pos rfl, h4]
  show _ = _
  kernel_rfl
theorem head_interest : setoff_Interest.f 20 hdD 1000 100 465 [] = some (50, 0) := by
  have e1 : setoff_Interest.f 20 hdD 1000 100 465 [] = setoff_Interest.l0 (18 + 1) hdD 1000 [] [] 0 0 100 465 := by kernel_rfl
  have hN : span_Normal.f [] = some ([], 0) := by kernel_rfl
  rw [e1, setoff_Interest.l0, if_neg (by decide), hN, Option.bind_some, if_pos rfl, head_meet]
  show _ = _
  kernel_rfl
theorem head_plan : setoff_Plan.f 20 hdD 40 3 = some (hdP, 0) := by kernel_rfl
theorem head_plan1 : setoff_Plan.f 20 hdD 10 3 = some ([], 4) := by kernel_rfl
theorem head_ok : cohousinglaw34_head.f 20 = some true := by
  unfold cohousinglaw34_head.f
  rw [if_pos ⟨head_pay1, head_arrears, head_interest, head_plan, head_plan1, head_pay2⟩]
theorem so_in (l : List S39) (y : l.length * 32 ≤ 140737488351232) (hw : ∀ x ∈ l, (Lit.int .i64 x.f0).wf = true ∧ (Lit.int .i64 x.f1).wf = true ∧ (Lit.int .i64 x.f2).wf = true ∧ (Lit.int .i64 x.f3).wf = true) : l.length < 4398046511104 ∧ l.all (fun x => inI x.f0) = true := by
  refine ⟨by omega, List.all_eq_true.mpr (fun x hx => inI_iff.mpr ?_)⟩
  simpa [Lit.wf, IntKind.min, IntKind.max, IntKind.signed, IntKind.bits] using (hw x hx).1
theorem LeO_up {α : Type} {f : Nat → Option α} (h : ∀ k, LeO (f k) (f (k + 1))) (k : Nat) : ∀ (j : Nat) (r : α), f k = some r → f (k + j) = some r
  | 0, _, e => e
  | j + 1, r, e => h _ _ (LeO_up h k j r e)
end Go.Proofs.YtnkgnjklkocojaaGreatDoor.Pure

/- What the law's parts compute on debts, in plain words. No Go and no memory in it. -/
namespace Go.Proofs.YtnkgnjklkocojaaGreatDoor.Pure
open Go.RowKit Go.Proofs.YtnkgnjklkocojaaGreatDoor.X Go.Proofs.YtnkgnjklkocojaaGreatDoorW.PrintWords
set_option linter.unusedVariables false
theorem in_debts {l : List S39} (h : Debts l) : l.length < 4398046511104 ∧ l.all (fun x => inI x.f0) = true :=
  ⟨by have := h.len; omega, List.all_eq_true.mpr (fun x hx => inI_iff.mpr (by have := (dOk_iff x).mp (h.ok x hx); omega))⟩
theorem pay_f {l : List S39} (h : Debts l) (c : Int) (h0 : 0 ≤ c) (h1 : c ≤ 1000000000) : setoff_Pay.f l c = some ((payF l c).1, (payF l c).2, 0) := by
  unfold setoff_Pay.f
  rw [if_pos (in_debts h), if_pos ⟨((valid_iff l).mpr h).1, h.len, h0, h1⟩]
theorem head_true (k : Nat) : cohousinglaw34_head.f (20 + k) = some true := LeO_up cohousinglaw34_head.mono 20 k true head_ok
end Go.Proofs.YtnkgnjklkocojaaGreatDoor.Pure

/- What a payment leaves of each debt, told without steps: what is left behind those before it. No Go and no memory in it. -/
namespace Go.Proofs.YtnkgnjklkocojaaGreatDoor.Pure
open Go.RowKit Go.Proofs.YtnkgnjklkocojaaGreatDoor.X Go.Proofs.YtnkgnjklkocojaaGreatDoorW.PrintWords
set_option linter.unusedVariables false
theorem sumO_cons (x : S39) (l : List S39) : sumO (x :: l) = x.f3 + sumO l := rfl
theorem sumO_perm {l m : List S39} (h : l.Perm m) : sumO l = sumO m := by
  induction h with
  | nil => rfl
  | cons x _ ih => rw [sumO_cons, sumO_cons, ih]
  | swap x y l => simp only [sumO_cons]; omega
  | trans _ _ a b => rw [a, b]
theorem sumO_low : ∀ (l : List S39), (∀ x ∈ l, 0 ≤ x.f3) → 0 ≤ sumO l
  | [], _ => Int.le_refl _
  | x :: l, h => by
    have h1 := sumO_low l (fun y hy => h y (List.mem_cons_of_mem _ hy))
    have h2 := h x List.mem_cons_self
    rw [sumO_cons]
    omega
/-- What is not below nought. -/
def pos (x : Int) : Int := if x < 0 then 0 else x
instance (x y : S39) : Decidable (Bef x y) := by unfold Bef; exact inferInstance
theorem bef_no {x y : S39} (h : Bef x y) : ¬ Bef y x := by unfold Bef at *; omega
theorem bef_self (x : S39) : ¬ Bef x x := by unfold Bef; omega
/-- What is open of all debts before one. -/
def ahead (l : List S39) (x : S39) : Int := sumO (l.filter (fun y => decide (Bef y x)))
/-- What a payment leaves of one debt. -/
def paidOne (l : List S39) (c : Int) (x : S39) : S39 := lower x (x.f3 - pt x.f3 (pos (c - ahead l x)))
def at_ (l : List S39) (os : List Nat) : List S39 := os.map (fun i => l.getD i z39)
theorem at_set (l : List S39) (os : List Nat) (i : Nat) (y : S39) (h : i ∉ os) : at_ (l.set i y) os = at_ l os := by
  refine List.map_congr_left (fun j hj => ?_)
  exact getD_set_ne _ _ _ _ (fun e => h (e ▸ hj))
theorem fold_closed : ∀ (os : List Nat) (l : List S39) (c : Int), os.Nodup → (∀ i ∈ os, i < l.length) → (∀ i ∈ os, 0 ≤ (l.getD i z39).f3 ∧ (l.getD i z39).f3 ≤ 1000000000) → 0 ≤ c → c ≤ 1000000000 →
    (os.foldl payStep (l, c)).2 = pos (c - sumO (at_ l os)) ∧
    ∀ a i b, os = a ++ i :: b → (os.foldl payStep (l, c)).1.getD i z39 = lower (l.getD i z39) ((l.getD i z39).f3 - pt (l.getD i z39).f3 (pos (c - sumO (at_ l a))))
  | [], l, c, _, _, _, h0, _ => by
    refine ⟨?_, fun a i b e => by simp at e⟩
    show c = pos (c - 0)
    unfold pos
    split <;> omega
  | i :: os, l, c, hnd, hin, hb, h0, h1 => by
    obtain ⟨hni, hnd'⟩ := List.nodup_cons.mp hnd
    have ii := hin i List.mem_cons_self
    have bi := hb i List.mem_cons_self
    have s1 := step_eq (l, c) i bi ⟨h0, h1⟩
    simp only at s1
    have lw := pt_low (l.getD i z39).f3 c bi.1 h0
    have ih := fold_closed os (l.set i (lower (l.getD i z39) ((l.getD i z39).f3 - pt (l.getD i z39).f3 c))) (c - pt (l.getD i z39).f3 c) hnd'
      (fun j hj => by rw [List.length_set]; exact hin j (List.mem_cons_of_mem _ hj))
      (fun j hj => by rw [getD_set_ne _ _ _ _ (show j ≠ i from fun e => hni (e ▸ hj))]; exact hb j (List.mem_cons_of_mem _ hj)) (by omega) (by omega)
    rw [at_set _ _ _ _ hni] at ih
    have hs : ∀ a : List Nat, (∀ j ∈ a, j ∈ i :: os) → 0 ≤ sumO (at_ l a) := fun a ha => sumO_low _ (fun x hx => by
      obtain ⟨j, hj, rfl⟩ := List.mem_map.mp hx
      exact (hb j (ha j hj)).1)
    have key : ∀ s, 0 ≤ s → pos (c - pt (l.getD i z39).f3 c - s) = pos (c - ((l.getD i z39).f3 + s)) := by
      intro s hs
      unfold pos pt
      split <;> split <;> split <;> omega
    rw [List.foldl_cons, s1]
    refine ⟨?_, fun a j b e => ?_⟩
    · rw [ih.1, key _ (hs os (fun j hj => List.mem_cons_of_mem _ hj))]
      rfl
    · cases a with
      | nil =>
        simp only [List.nil_append, List.cons.injEq] at e
        obtain ⟨rfl, rfl⟩ := e
        rw [fold_other _ _ _ hni, getD_set_eq _ _ _ ii]
        have e0 : pos (c - sumO (at_ l [])) = c := by
          show pos (c - 0) = c
          unfold pos
          split <;> omega
        rw [e0]
      | cons i' a =>
        simp only [List.cons_append, List.cons.injEq] at e
        obtain ⟨rfl, e⟩ := e
        have hj : j ∈ os := by rw [e]; simp
        have hia : i ∉ a := fun hm => hni (by rw [e]; exact List.mem_append_left _ hm)
        rw [ih.2 a j b e, getD_set_ne _ _ _ _ (show j ≠ i from fun e => hni (e ▸ hj)), at_set _ _ _ _ hia, key _ (hs a (fun k hk => List.mem_cons_of_mem _ (by rw [e]; exact List.mem_append_left _ hk)))]
        rfl
theorem at_range (l : List S39) : at_ l (List.range l.length) = l := by
  refine List.ext_getElem (by simp [at_]) (fun i h1 h2 => ?_)
  simp [at_, List.getD_eq_getElem?_getD, h2]
theorem at_order (l : List S39) : (at_ l (ordP l)).Perm l := by
  have h := (ordP_perm l).map (fun i => l.getD i z39)
  have e := at_range l
  unfold at_ at e
  rw [e] at h
  exact h
theorem ahead_perm {l m : List S39} (h : l.Perm m) (x : S39) : ahead l x = ahead m x := sumO_perm (h.filter _)
theorem ahead_order (l : List S39) (hnd : (l.map (·.f0)).Nodup) (a : List Nat) (i : Nat) (b : List Nat) (e : ordP l = a ++ i :: b) : sumO (at_ l a) = ahead l (l.getD i z39) := by
  rw [← ahead_perm (at_order l), e]
  have hp := ordP_bef l hnd
  rw [e, List.pairwise_append] at hp
  obtain ⟨_, hib, hai⟩ := hp
  have hib := (List.pairwise_cons.mp hib).1
  have e2 : at_ l (a ++ i :: b) = at_ l a ++ l.getD i z39 :: at_ l b := by simp [at_]
  unfold ahead
  rw [e2, List.filter_append, List.filter_cons_of_neg (by simpa using bef_self _)]
  have f1 : (at_ l a).filter (fun y => decide (Bef y (l.getD i z39))) = at_ l a := by
    refine List.filter_eq_self.mpr (fun x hx => ?_)
    obtain ⟨j, hj, rfl⟩ := List.mem_map.mp hx
    exact decide_eq_true (hai j hj i List.mem_cons_self)
  have f2 : (at_ l b).filter (fun y => decide (Bef y (l.getD i z39))) = [] := by
    refine List.filter_eq_nil_iff.mpr (fun x hx => ?_)
    obtain ⟨j, hj, rfl⟩ := List.mem_map.mp hx
    simpa using bef_no (hib j hj)
  rw [f1, f2, List.append_nil]
theorem pay_closed (l : List S39) (h : Debts l) (c : Int) (h0 : 0 ≤ c) (h1 : c ≤ 1000000000) : payF l c = (l.map (paidOne l c), pos (c - sumO l)) := by
  have hm : ∀ i, i < l.length → l.getD i z39 ∈ l := fun i hi => by rw [List.getD_eq_getElem?_getD, List.getElem?_eq_getElem hi, Option.getD_some]; exact List.getElem_mem _
  have f := fold_closed (ordP l) l c (ordP_nodup l) (fun i hi => (ordP_mem l i).mp hi) (fun i hi => ((dOk_iff _).mp (h.ok _ (hm i ((ordP_mem l i).mp hi)))).2.2.2) h0 h1
  have e : payF l c = (ordP l).foldl payStep (l, c) := rfl
  rw [e]
  refine Prod.ext (ext_getD ?_ (fun i hi => ?_)) ?_
  · rw [fold_len, List.length_map]
  · rw [List.length_map] at hi
    obtain ⟨a, b, eo⟩ := List.append_of_mem ((ordP_mem l i).mpr hi)
    have g := f.2 a i b eo
    rw [ahead_order l h.nd a i b eo] at g
    rw [g]
    have : (l.map (paidOne l c)).getD i z39 = paidOne l c (l.getD i z39) := by
      simp [List.getD_eq_getElem?_getD, hi]
    rw [this]
    rfl
  · show ((ordP l).foldl payStep (l, c)).2 = _
    rw [f.1, sumO_perm (at_order l)]
end Go.Proofs.YtnkgnjklkocojaaGreatDoor.Pure

/- Sets of days: how many stretches and days they have. No Go and no memory in it. -/
namespace Go.Proofs.YtnkgnjklkocojaaGreatDoor.Pure
open Go.RowKit Go.Proofs.YtnkgnjklkocojaaGreatDoor.X Go.Proofs.YtnkgnjklkocojaaGreatDoorW.PrintWords
theorem sw_ap (kf : Bool → Bool → Bool) (h0 : kf false false = false) (a b : List S24) (ha : Apart a) (hb : Apart b) : Apart (sw kf a b) ∧ ∀ d, mem (sw kf a b) d = kf (mem a d) (mem b d) := sweep_fact kf h0 a b ha hb
theorem nodup_sub : ∀ (l m : List Int), l.Nodup → (∀ x ∈ l, x ∈ m) → l.length ≤ m.length
  | [], _, _, _ => Nat.zero_le _
  | x :: l, m, h, hs => by
    obtain ⟨h1, h2⟩ := List.nodup_cons.mp h
    have hx := hs x List.mem_cons_self
    have ih := nodup_sub l (m.erase x) h2 (fun y hy => (List.mem_erase_of_ne (fun e => h1 (by rw [← e]; exact hy))).mpr (hs y (List.mem_cons_of_mem _ hy)))
    rw [List.length_erase_of_mem hx] at ih
    have : 0 < m.length := List.length_pos_of_mem hx
    rw [List.length_cons]
    omega
theorem Apart.pre : ∀ {l : List S24}, Apart l → ∀ s ∈ l, mem l (s.f0 - 1) = false
  | [], _, s, hs => by simp at hs
  | t :: l, h, s, hs => by
    cases hm : mem (t :: l) (s.f0 - 1) with
    | false => rfl
    | true =>
      exfalso
      rcases List.mem_cons.mp hs with rfl | hs
      · have := h.low _ hm
        omega
      · have ih := h.tail.pre s hs
        rw [mem_cons, ih, Bool.or_false] at hm
        have h1 := (in_iff _ _).mp hm
        have h2 := h.head.2 s hs
        omega
theorem Apart.at_ {l : List S24} (h : Apart l) (s : S24) (hs : s ∈ l) : mem l s.f0 = true :=
  (mem_iff _ _).mpr ⟨s, hs, Int.le_refl _, ((str_iff s).mp (h.str s hs)).2.1⟩
theorem on_at (l : List S24) (x : Int) (h1 : mem l x = true) (h2 : mem l (x - 1) = false) : x ∈ l.map (·.f0) := by
  obtain ⟨s, hs, h3, h4⟩ := (mem_iff _ _).mp h1
  refine List.mem_map.mpr ⟨s, hs, ?_⟩
  apply Classical.byContradiction
  intro h5
  have : mem l (x - 1) = true := (mem_iff _ _).mpr ⟨s, hs, by omega, by omega⟩
  rw [h2] at this
  exact absurd this (by simp)
theorem Apart.nodup {l : List S24} (h : Apart l) : (l.map (·.f0)).Nodup := by
  unfold List.Nodup
  rw [List.pairwise_map]
  refine List.Pairwise.imp_of_mem ?_ h.pw
  intro a b ha hb hab
  have := (str_iff a).mp (h.str a ha)
  omega
theorem count_le (m a b : List S24) (hm : Apart m) (z : List Int) (hz : z.length = b.length)
    (h : ∀ x, mem m x = true → mem m (x - 1) = false → x ∈ a.map (·.f0) ++ z) : m.length ≤ a.length + b.length := by
  have := nodup_sub (m.map (·.f0)) (a.map (·.f0) ++ z) hm.nodup (fun x hx => by
    obtain ⟨s, hs, rfl⟩ := List.mem_map.mp hx
    exact h _ (hm.at_ s hs) (hm.pre s hs))
  rw [List.length_map, List.length_append, List.length_map, hz] at this
  exact this
theorem and_len (a b : List S24) (ha : Apart a) (hb : Apart b) : (sw (fun x y => x && y) a b).length ≤ a.length + b.length := by
  obtain ⟨h1, h2⟩ := sw_ap (fun x y => x && y) rfl a b ha hb
  refine count_le _ a b h1 (b.map (·.f0)) (by simp) fun x hx hy => ?_
  rw [h2] at hx hy
  obtain ⟨hx1, hx2⟩ := (Bool.and_eq_true _ _).mp hx
  cases h3 : mem a (x - 1) with
  | false => exact List.mem_append_left _ (on_at a x hx1 h3)
  | true =>
    rw [h3] at hy
    exact List.mem_append_right _ (on_at b x hx2 hy)
/-- How many days. -/
def sumL : List S24 → Int
  | [] => 0
  | s :: l => s.f1 - s.f0 + sumL l
theorem sum_l (l : List S24) (h : IsSet l) : ∀ (j i k : Nat) (x : Int), i + j = l.length → j < k → 0 ≤ x → x ≤ 36525 * (i : Int) → span_Count.l0 k x l (l.length : Int) (i : Int) = some (x + sumL (l.drop i), 0)
  | 0, i, k + 1, x, hi, _, _, _ => by rw [span_Count.l0, if_neg (by omega), List.drop_eq_nil_of_le (by omega), sumL, Int.add_zero]
  | j + 1, i, k + 1, x, hi, hk, h0, h1 => by
    have hl := h.2
    have w1 : wrap64 ((i : Int) + 1) = ((i + 1 : Nat) : Int) := by unfold wrap64; omega
    have hs := (str_iff _).mp ((apart_chain h.1).1 i (by omega))
    have w2 : wrap64 ((rd_T24 l (i : Int)).f1 - (rd_T24 l (i : Int)).f0) = (rd_T24 l (i : Int)).f1 - (rd_T24 l (i : Int)).f0 := by clear w1; unfold wrap64; omega
    have w3 : wrap64 (x + ((rd_T24 l (i : Int)).f1 - (rd_T24 l (i : Int)).f0)) = x + ((rd_T24 l (i : Int)).f1 - (rd_T24 l (i : Int)).f0) := by clear w1 w2; unfold wrap64; omega
    rw [span_Count.l0, if_pos (by clear w1 w2 w3; omega), if_pos (by clear w1 w2 w3; omega), if_pos (by clear w1 w2 w3; omega), w1, w2, w3, sum_l l h j (i + 1) k _ (by clear w1 w2 w3; omega) (by clear w1 w2 w3; omega) (by clear w1 w2 w3; omega) (by clear w1 w2 w3; omega), drop_one l i (by clear w1 w2 w3; omega), sumL, Int.add_assoc]
theorem sum_eq (l : List S24) (k : Nat) (hk : l.length < k) (h : IsSet l) : span_Count.f k l = some (sumL l, 0) := by
  have := h.2
  unfold span_Count.f
  rw [valid_eq l k (by omega) hk, Option.bind_some, tr_of h, if_pos rfl]
  have := sum_l l h l.length 0 k 0 (by omega) hk (by omega) (by omega)
  rw [Int.zero_add] at this
  exact this
theorem count_in (a b : Nat) (hab : a ≤ b) : ∀ n, b ≤ n → (List.range n).countP (fun d => decide (a ≤ d) && decide (d < b)) = b - a
  | 0, h => by
    have : b = 0 := by omega
    subst this
    simp
  | n + 1, h => by
    rw [List.range_succ, List.countP_append, List.countP_singleton]
    rcases Nat.lt_or_ge n b with h1 | h1
    · have hb : b = n + 1 := by omega
      have low : (List.range n).countP (fun d => decide (a ≤ d) && decide (d < b)) = n - a := by
        rcases Nat.lt_or_ge n a with h2 | h2
        · have : (List.range n).countP (fun d => decide (a ≤ d) && decide (d < b)) = 0 := by
            rw [List.countP_eq_zero]
            intro d hd
            have := List.mem_range.mp hd
            simp
            omega
          omega
        · have e : (List.range n).countP (fun d => decide (a ≤ d) && decide (d < b)) = (List.range n).countP (fun d => decide (a ≤ d) && decide (d < n)) := by
            refine List.countP_congr fun d hd => ?_
            have := List.mem_range.mp hd
            simp
            omega
          rw [e, count_in a n h2 n (Nat.le_refl _)]
      rw [low]
      by_cases h3 : a ≤ n
      · rw [if_pos (by simp; omega)]; omega
      · rw [if_neg (by simp; omega)]; omega
    · rw [count_in a b hab n h1, if_neg (by simp; omega)]
      omega
/-- The days of the calendar that a set has. -/
def daysN (l : List S24) : Nat := (List.range 36525).countP (fun d : Nat => mem l (d : Int))
theorem sum_days : ∀ (l : List S24), Apart l → sumL l = (daysN l : Int)
  | [], _ => by
    have : daysN [] = 0 := by
      unfold daysN
      rw [List.countP_eq_zero]
      intro d _
      simp [mem]
    rw [this]; rfl
  | s :: l, h => by
    have hs := h.head.1
    have ih := sum_days l h.tail
    have e : daysN (s :: l) = (List.range 36525).countP (fun d => decide (s.f0.toNat ≤ d) && decide (d < s.f1.toNat)) + daysN l := by
      unfold daysN
      have : ∀ m : List Nat, m.countP (fun d : Nat => mem (s :: l) (d : Int)) = m.countP (fun d => decide (s.f0.toNat ≤ d) && decide (d < s.f1.toNat)) + m.countP (fun d : Nat => mem l (d : Int)) := by
        intro m
        induction m with
        | nil => rfl
        | cons d m ihm =>
          rw [List.countP_cons, List.countP_cons, List.countP_cons, ihm]
          have hd : dayIn (d : Int) s = (decide (s.f0.toNat ≤ d) && decide (d < s.f1.toNat)) := by
            rw [Bool.eq_iff_iff, in_iff, Bool.and_eq_true, decide_eq_true_eq, decide_eq_true_eq]
            omega
          rw [mem_cons, hd]
          have h4 : (decide (s.f0.toNat ≤ d) && decide (d < s.f1.toNat)) = true → mem l (d : Int) = false := by
            intro h1
            cases h3 : mem l (d : Int) with
            | false => rfl
            | true =>
              have := h.gap _ h3
              simp at h1
              omega
          clear hd ihm
          revert h4
          generalize (decide (s.f0.toNat ≤ d) && decide (d < s.f1.toNat)) = b1
          generalize mem l (d : Int) = b2
          intro h4
          cases b1 <;> cases b2 <;> simp at h4 ⊢ <;> omega
      exact this _
    rw [e, count_in s.f0.toNat s.f1.toNat (by omega) 36525 (by omega), sumL, ih]
    omega
theorem days_of (l : List S24) (p : Int → Bool) (h : ∀ d, mem l d = p d) : daysN l = (List.range 36525).countP (fun d : Nat => p (d : Int)) := by
  unfold daysN
  congr 1
  funext d
  exact h _
end Go.Proofs.YtnkgnjklkocojaaGreatDoor.Pure

/- What interest on arrears is: in closed form, over numbers and lists. No Go and no memory in it. -/
namespace Go.Proofs.YtnkgnjklkocojaaGreatDoor.Pure
open Go.RowKit Go.Proofs.YtnkgnjklkocojaaGreatDoor.X Go.Proofs.YtnkgnjklkocojaaGreatDoorW.PrintWords
set_option linter.unusedVariables false
theorem rdDebt (l : List S39) (i : Nat) (h : i < l.length) : rd_T39 l (i : Int) = l[i] := by simp [rd_T39, List.getD_eq_getElem?_getD, h]
theorem rdPause (l : List S46) (i : Nat) (h : i < l.length) : rd_T46 l (i : Int) = l[i] := by simp [rd_T46, List.getD_eq_getElem?_getD, h]
theorem upI (i : Nat) (h : i ≤ 1000000) : wrap64 ((i : Int) + 1) = ((i + 1 : Nat) : Int) := by unfold wrap64; omega
theorem betw (n a b : Int) : setoff_between.f n a b = some (decide (a ≤ n ∧ n ≤ b)) := by
  unfold setoff_between.f
  split
  · rename_i h
    congr 1
    exact decide_eq_decide.mpr ⟨fun q => ⟨h, q⟩, fun q => q.2⟩
  · rename_i h
    congr 1
    exact (decide_eq_false (fun q => h q.1)).symm
theorem in_debts0 {l : List S39} (h : Debts l) : l.length < 4398046511104 ∧ l.all (fun x => inI x.f0) = true :=
  ⟨by have := h.len; omega, List.all_eq_true.mpr (fun x hx => inI_iff.mpr (by have := (dOk_iff x).mp (h.ok x hx); omega))⟩
/-- What is open of the arrears of charges before a day. -/
def arr (l : List S39) (d : Int) : Int := sumO (l.filter (lateB d [3]))
theorem open_loop (l : List S39) (hl : l.length ≤ 100) (hb : ∀ x ∈ l, 0 ≤ x.f3 ∧ x.f3 ≤ 1000000000) : ∀ (j i k : Nat) (s : Int), i + j = l.length → j < k → 0 ≤ s → s ≤ (i : Int) * 1000000000 →
    setoff_open.l0 k s l (l.length : Int) (i : Int) = some (s + sumO (l.drop i), decide (s + sumO (l.drop i) ≤ 1000000000)) := by
  intro j
  induction j with
  | zero =>
    intro i k s hi hk h0 h1
    obtain ⟨k, rfl⟩ : ∃ n, k = n + 1 := ⟨k - 1, by omega⟩
    rw [setoff_open.l0, if_neg (by omega), List.drop_of_length_le (by omega)]
    show some (s, decide (s ≤ 1000000000)) = some (s + 0, decide (s + 0 ≤ 1000000000))
    rw [Int.add_zero]
  | succ j ih =>
    intro i k s hi hk h0 h1
    obtain ⟨k, rfl⟩ : ∃ n, k = n + 1 := ⟨k - 1, by omega⟩
    have hil : i < l.length := by omega
    have b := hb l[i] (List.getElem_mem hil)
    rw [setoff_open.l0, if_pos (by omega), if_pos (by omega), if_pos (by omega), rdDebt l i hil, wrapIn (s + l[i].f3) (by omega), upI i (by omega), ih (i + 1) k _ (by omega) (by omega) (by omega) (by omega), List.drop_eq_getElem_cons hil, sumO_cons, Int.add_assoc]
theorem open_f (l : List S39) (hl : l.length ≤ 100) (hb : ∀ x ∈ l, 0 ≤ x.f3 ∧ x.f3 ≤ 1000000000) (k : Nat) (hk : l.length < k) : setoff_open.f k l = some (sumO l, decide (sumO l ≤ 1000000000)) := by
  unfold setoff_open.f
  have := open_loop l hl hb l.length 0 k 0 (by omega) hk (Int.le_refl _) (by omega)
  rw [List.drop_zero, Int.zero_add] at this
  exact this
/-- Interest on an amount: the product is the rate times the days. -/
def intQ (c x : Int) : Int := (2 * (c * x) + 3650000) / 7300000
theorem intQ_mono {c c' x x' : Int} (hc : c ≤ c') (hx : x ≤ x') (h0 : 0 ≤ c) (h1 : 0 ≤ x) : intQ c x ≤ intQ c' x' := by
  have h : c * x ≤ c' * x' := Int.mul_le_mul hc hx h1 (by omega)
  unfold intQ
  exact Int.ediv_le_ediv (by decide) (by omega)
theorem intQ_low {c x : Int} (h0 : 0 ≤ c) (h1 : 0 ≤ x) : 0 ≤ intQ c x := by
  have := Int.mul_nonneg h0 h1
  unfold intQ
  exact Int.ediv_nonneg (by omega) (by decide)
theorem intQ_zero (c : Int) : intQ c 0 = 0 := by
  unfold intQ
  rw [Int.mul_zero]
  decide
theorem amt_v (a : Int) : money_amount_valid.f a = some (decide (-1000000000 ≤ a ∧ a ≤ 1000000000)) := by
  unfold money_amount_valid.f
  split
  · rename_i h
    congr 1
    exact decide_eq_decide.mpr ⟨fun q => ⟨h, q⟩, fun q => q.2⟩
  · rename_i h
    congr 1
    exact (decide_eq_false (fun q => h q.1)).symm
theorem size_n (n : Nat) (h : n ≤ 1000000000) : rational_size.f (n : Int) = some (n : Int) := by
  unfold rational_size.f
  rw [if_neg (by omega)]
  congr 1
  simp only [IntKind.wrap_u64]
  omega
theorem rat_valid (n d : Nat) (hn : n ≤ 1000000000) (hd : 1 ≤ d) (hd1 : d ≤ 1000000000) (hg : Nat.gcd n d = 1) : rational_Valid.f (n : Int) (d : Int) = some true := by
  unfold rational_Valid.f
  rw [if_pos (by omega), if_pos (by omega), if_pos (by omega), if_pos (by omega), size_n n hn, size_n d hd1, Option.bind_some, Option.bind_some]
  unfold rational_common.f
  rw [if_pos (by omega), Option.bind_some]
  have : (Int.gcd (n : Int) (d : Int) : Int) = 1 := by
    show ((Nat.gcd n d : Nat) : Int) = 1
    rw [hg]
    rfl
  rw [this]
  rfl
theorem wrN (x : Int) (n : Nat) (e : x = n) (h : n ≤ 9223372036854775807) : wrap64 x = (n : Int) := by rw [wrapIn x (by omega), e]
/-- The amount times the reduced fraction, rounded. -/
theorem scale_n (k c n d : Nat) (hk : 0 < k) (hc : c ≤ 1000000000) (hn : n ≤ 400000000) (hd : 1 ≤ d) (hd1 : d ≤ 3650000) (hg : Nat.gcd n d = 1) :
    money_Scale.f k (c : Int) (n : Int) (d : Int) = some (if (2 * (c * n) + d) / (2 * d) ≤ 1000000000 then ((((2 * (c * n) + d) / (2 * d) : Nat) : Int), 0) else (0, 3)) := by
  obtain ⟨k, rfl⟩ : ∃ m, k = m + 1 := ⟨k - 1, by omega⟩
  unfold money_Scale.f
  rw [amt_v, Option.bind_some, decide_eq_true (by omega), if_pos rfl, rat_valid n d (by omega) hd (by omega) hg, Option.bind_some, money_Scale.j0, if_neg (by decide)]
  have hp : c * n ≤ 1000000000 * 400000000 := Nat.mul_le_mul hc hn
  have e1 : (c : Int) * (n : Int) = ((c * n : Nat) : Int) := by rw [Int.natCast_mul]
  rw [e1]
  generalize c * n = p at hp
  rw [wrN (p : Int) p rfl (by omega), if_neg (by omega), wrN (2 * (d : Int)) (2 * d) (by omega) (by omega), if_neg (by omega), wrN (2 * (p : Int)) (2 * p) (by omega) (by omega), wrN (((2 * p : Nat) : Int) + (d : Int)) (2 * p + d) (by omega) (by omega), ← Int.ofNat_tdiv]
  have hq : (2 * p + d) / (2 * d) ≤ 2 * p + d := Nat.div_le_self _ _
  generalize (2 * p + d) / (2 * d) = q at hq
  rw [wrN (q : Int) q rfl (by omega), amt_v, Option.bind_some]
  by_cases hle : q ≤ 1000000000
  · rw [decide_eq_true (by omega), if_pos rfl, if_pos hle]
  · rw [decide_eq_false (by omega), if_neg (by decide), if_neg hle]
theorem make_n (x : Nat) (hx : x ≤ 400000000) : rational_Make.f (x : Int) 3650000 = some (((x / Nat.gcd x 3650000 : Nat) : Int), ((3650000 / Nat.gcd x 3650000 : Nat) : Int), 0) := by
  have e1 : ((x : Int)).natAbs = x := Int.natAbs_natCast x
  have e2 : ((3650000 : Int)).natAbs = 3650000 := rfl
  have b1 : x / Nat.gcd x 3650000 ≤ x := Nat.div_le_self _ _
  have b2 : 3650000 / Nat.gcd x 3650000 ≤ 3650000 := Nat.div_le_self _ _
  unfold rational_Make.f
  rw [if_pos (by unfold inI64; omega)]
  unfold ratMk
  rw [if_neg (by decide), e1, e2, if_neg (by omega)]
  have hneg : (decide ((x : Int) < 0) != decide ((3650000 : Int) < 0)) = false := by rw [decide_eq_false (show ¬ (x : Int) < 0 by omega)]; rfl
  rw [hneg, if_neg (by decide)]
theorem made_scale (k c x : Nat) (hk : 0 < k) (hc : c ≤ 1000000000) (hx : x ≤ 400000000) :
    ((rational_Make.f (x : Int) 3650000).bind fun bt180 => ((money_Scale.f k (c : Int) bt180.1 bt180.2.1).bind fun bt184 => some (bt184.1, bt184.2))) = some (if intQ c x ≤ 1000000000 then (intQ c x, 0) else (0, 3)) := by
  rw [make_n x hx, Option.bind_some]
  dsimp only
  have hg0 : 0 < Nat.gcd x 3650000 := Nat.gcd_pos_of_pos_right _ (by decide)
  have b1 : x / Nat.gcd x 3650000 ≤ x := Nat.div_le_self _ _
  have b2 : 3650000 / Nat.gcd x 3650000 ≤ 3650000 := Nat.div_le_self _ _
  have hd : Nat.gcd x 3650000 ∣ 3650000 := Nat.gcd_dvd_right _ _
  have hn : Nat.gcd x 3650000 ∣ x := Nat.gcd_dvd_left _ _
  have b3 : 1 ≤ 3650000 / Nat.gcd x 3650000 := Nat.div_pos (Nat.le_of_dvd (by decide) hd) hg0
  rw [scale_n k c _ _ hk hc (by omega) b3 b2 (by rw [Nat.gcd_div hn hd]; exact Nat.div_self hg0), Option.bind_some]
  have hq : (((2 * (c * (x / Nat.gcd x 3650000)) + 3650000 / Nat.gcd x 3650000) / (2 * (3650000 / Nat.gcd x 3650000)) : Nat) : Int) = intQ c x := by
    obtain ⟨p, hp⟩ := hn
    obtain ⟨q, hq⟩ := hd
    generalize Nat.gcd x 3650000 = g at *
    have ep : x / g = p := by rw [hp]; exact Nat.mul_div_cancel_left _ hg0
    have eq : 3650000 / g = q := by rw [hq]; exact Nat.mul_div_cancel_left _ hg0
    rw [ep, eq]
    have e1 : (2 * (c * p) + q) / (2 * q) = ((2 * (c * p) + q) * g) / (2 * q * g) := (Nat.mul_div_mul_right _ _ hg0).symm
    have e2 : (2 * (c * p) + q) * g = 2 * (c * x) + 3650000 := by rw [hp, hq, Nat.add_mul, Nat.mul_assoc, Nat.mul_assoc, Nat.mul_comm p g, Nat.mul_comm q g]
    have e3 : 2 * q * g = 7300000 := by rw [Nat.mul_assoc, Nat.mul_comm q g, ← hq]
    rw [e1, e2, e3]
    unfold intQ
    rw [Int.natCast_ediv, Int.natCast_add, Int.natCast_mul, Int.natCast_mul]
    rfl
  have hq2 : (2 * (c * (x / Nat.gcd x 3650000)) + 3650000 / Nat.gcd x 3650000) / (2 * (3650000 / Nat.gcd x 3650000)) ≤ 1000000000 ↔ intQ c x ≤ 1000000000 := by omega
  rw [hq]
  by_cases h : intQ c x ≤ 1000000000
  · rw [if_pos (hq2.mpr h), if_pos h]
  · rw [if_neg (fun q => h (hq2.mp q)), if_neg h]
/-! ### the days that pauses take away -/
/-- How many days of a stretch belong to pauses. -/
def cov (a b : Int) (o : List S24) : Int := ((List.range 36525).countP (fun d : Nat => (decide (a ≤ (d : Int)) && decide ((d : Int) < b)) && mem o (d : Int)) : Nat)
theorem one_set (a b : Int) (h : strB ⟨a, b⟩ = true) : IsSet [⟨a, b⟩] := ⟨⟨by intro s hs; rw [List.mem_singleton.mp hs]; exact h, by simp⟩, by simp⟩
theorem one_not (a b : Int) (h : ¬ strB ⟨a, b⟩ = true) : ¬ IsSet [⟨a, b⟩] := fun q => h (q.1.str _ (by simp))
theorem addF_len (out : List S24) (s : S24) : (addF out s).length ≤ out.length + 1 := by
  rcases List.eq_nil_or_concat out with rfl | ⟨o, t, rfl⟩
  · rw [addF_nil]; simp
  · rw [List.concat_eq_append, addF_snoc]
    split <;> simp
theorem fold_l : ∀ (l out : List S24), (l.foldl addF out).length ≤ out.length + l.length
  | [], out => by simp
  | s :: l, out => by
    have := fold_l l (addF out s)
    have := addF_len out s
    rw [List.foldl_cons, List.length_cons]
    omega
theorem normL_len (l : List S24) : (normL l).length ≤ l.length := by
  have := fold_l (sorted30 l) []
  have e := (sorted30_perm l).1.length_eq
  unfold normL
  simp only [List.length_nil] at this
  omega
theorem norm_yes (o : List S24) (ho : o.length ≤ 1000) (h : o.all strB = true) : normF o = (normL o, 0) ∧ IsSet (normL o) ∧ ∀ d, mem (normL o) d = mem o d := by
  have hl := normL_len o
  obtain ⟨a1, a2⟩ := norm_ok o (List.all_eq_true.mp h)
  refine ⟨?_, ⟨a1, by omega⟩, a2⟩
  rw [normF_eq, if_pos h]
  exact lim_small (by omega)
theorem norm_no (o : List S24) (h : ¬ o.all strB = true) : normF o = ([], 1) := by
  rw [normF_eq, if_neg h]
theorem meet_f (k : Nat) (hk : 2000 < k) (a b : Int) (o : List S24) (hs : strB ⟨a, b⟩ = true) (ho : o.length ≤ 900) (h : o.all strB = true) : ∃ m, span_Meet.f k [⟨a, b⟩] (normL o) = some (m, 0) ∧ span_Count.f k m = some (cov a b o, 0) := by
  obtain ⟨_, hn, hm⟩ := norm_yes o (by omega) h
  have h1 := one_set a b hs
  have hl := normL_len o
  obtain ⟨ap, am⟩ := sw_ap (fun x y => x && y) rfl [⟨a, b⟩] (normL o) h1.1 hn.1
  have hlen := and_len [⟨a, b⟩] (normL o) h1.1 hn.1
  generalize hw : sw (fun x y => x && y) [⟨a, b⟩] (normL o) = m at ap am hlen
  have hlen1 : m.length ≤ 901 := by
    have : ([⟨a, b⟩] : List S24).length = 1 := rfl
    omega
  refine ⟨m, ?_, ?_⟩
  · unfold span_Meet.f
    rw [sweepO_eq _ k _ _ (by simp) (by omega) (by simp; omega) (by omega), if_pos ⟨tr_of h1, tr_of hn⟩, hw, lim_small (by omega)]
  · rw [sum_eq m k (by omega) ⟨ap, by omega⟩, sum_days m ap, days_of m (fun d => (decide (a ≤ d) && decide (d < b)) && mem o d)]
    · rfl
    · intro d
      rw [am, hm]
      simp [mem, dayIn]
theorem cov_mono (a b : Int) (o o' : List S24) (h : ∀ d, mem o d = true → mem o' d = true) : cov a b o ≤ cov a b o' := by
  unfold cov
  have : (List.range 36525).countP (fun d : Nat => (decide (a ≤ (d : Int)) && decide ((d : Int) < b)) && mem o (d : Int)) ≤ (List.range 36525).countP (fun d : Nat => (decide (a ≤ (d : Int)) && decide ((d : Int) < b)) && mem o' (d : Int)) := by
    refine List.countP_mono_left (fun d _ hd => ?_)
    rw [Bool.and_eq_true] at hd ⊢
    exact ⟨hd.1, h _ hd.2⟩
  omega
theorem cov_bound (a b : Int) (o : List S24) (hs : strB ⟨a, b⟩ = true) : 0 ≤ cov a b o ∧ cov a b o ≤ b - a := by
  obtain ⟨h0, h1, h2⟩ := (str_iff _).mp hs
  simp only at h0 h1 h2
  refine ⟨by unfold cov; omega, ?_⟩
  have e := count_in a.toNat b.toNat (by omega) 36525 (by omega)
  have : (List.range 36525).countP (fun d : Nat => (decide (a ≤ (d : Int)) && decide ((d : Int) < b)) && mem o (d : Int)) ≤ (List.range 36525).countP (fun d => decide (a.toNat ≤ d) && decide (d < b.toNat)) := by
    refine List.countP_mono_left (fun d _ hd => ?_)
    simp at hd ⊢
    omega
  unfold cov
  omega
theorem cov_full (a b : Int) (o : List S24) (hs : strB ⟨a, b⟩ = true) (h : ∀ d, a ≤ d → d < b → mem o d = true) : cov a b o = b - a := by
  obtain ⟨h0, h1, h2⟩ := (str_iff _).mp hs
  simp only at h0 h1 h2
  have e := count_in a.toNat b.toNat (by omega) 36525 (by omega)
  have : (List.range 36525).countP (fun d : Nat => (decide (a ≤ (d : Int)) && decide ((d : Int) < b)) && mem o (d : Int)) = (List.range 36525).countP (fun d => decide (a.toNat ≤ d) && decide (d < b.toNat)) := by
    refine List.countP_congr (fun d _ => ?_)
    constructor
    · intro hd
      simp at hd ⊢
      omega
    · intro hd
      simp at hd ⊢
      exact ⟨by omega, h _ (by omega) (by omega)⟩
  unfold cov
  omega
/-! ### the whole -/
def kindOk (p : S46) : Bool := decide (1 ≤ p.f0 ∧ p.f0 ≤ 2)
/-- What is asked of the arguments. -/
structure Right (l : List S39) (rate a b : Int) (ps : List S46) : Prop where
  deb : Debts l
  rate0 : 0 ≤ rate
  rate1 : rate ≤ 10000
  str : strB ⟨a, b⟩ = true
  kinds : ps.all kindOk = true
  offs : (ps.map (·.f1)).all strB = true
/-- The answer. -/
def resI (c x : Int) : Int × Int := if c ≤ 1000000000 then (if intQ c x ≤ 1000000000 then (intQ c x, 0) else (0, 3)) else (0, 3)
theorem arr_low {l : List S39} (h : Debts l) (d : Int) : 0 ≤ arr l d := by
  refine sumO_low _ (fun x hx => ?_)
  exact ((dOk_iff x).mp (h.ok x (List.mem_filter.mp hx).1)).2.2.2.1
theorem int_end (k : Nat) (hk : 2000 < k) (l : List S39) (rate a b : Int) (o : List S24) (hd : Debts l) (h0 : 0 ≤ rate) (h1 : rate ≤ 10000) (hs : strB ⟨a, b⟩ = true) (ho : o.length ≤ 900) :
    ((span_Normal.f o).bind fun bt156 => (if bt156.2 = 0 then ((span_Meet.f k (([(⟨a, b⟩ : S24)] : List (S24))) bt156.1).bind fun bt163 => ((span_Count.f k bt163.1).bind fun bt167 => ((setoff_late.f l a (([3] : List Int))).bind fun bt172 => ((setoff_open.f k bt172.1).bind fun bt178 => (if bt178.2 = true then ((rational_Make.f (wrap64 (rate * (wrap64 ((wrap64 (b - a)) - bt167.1)))) 3650000).bind fun bt180 => ((money_Scale.f k bt178.1 bt180.1 bt180.2.1).bind fun bt184 => (some (bt184.1, bt184.2)))) else (some (0, 3))))))) else (some (0, 1))))
      = some (if o.all strB = true then resI (arr l a) (rate * (b - a - cov a b o)) else (0, 1)) := by
  rw [norm_eq o (by omega), Option.bind_some]
  by_cases h : o.all strB = true
  · rw [(norm_yes o (by omega) h).1, if_pos rfl, if_pos h]
    dsimp only
    obtain ⟨m, e1, e2⟩ := meet_f k hk a b o hs ho h
    rw [e1, Option.bind_some]
    dsimp only
    rw [e2, Option.bind_some]
    dsimp only
    unfold setoff_late.f
    have hl := hd.len
    rw [if_pos ⟨by omega, by simp⟩, Option.bind_some]
    dsimp only
    have hb : ∀ x ∈ l.filter (lateB a [3]), 0 ≤ x.f3 ∧ x.f3 ≤ 1000000000 := fun x hx => ((dOk_iff x).mp (hd.ok x (List.mem_filter.mp hx).1)).2.2.2
    have hfl := List.length_filter_le (lateB a [3]) l
    rw [open_f _ (by omega) hb k (by omega), Option.bind_some]
    dsimp only
    have al := arr_low hd a
    obtain ⟨q0, q1, q2⟩ := (str_iff _).mp hs
    simp only at q0 q1 q2
    obtain ⟨c0, c1⟩ := cov_bound a b o hs
    have hx0 : 0 ≤ rate * (b - a - cov a b o) := Int.mul_nonneg h0 (by omega)
    have hx1 : rate * (b - a - cov a b o) ≤ 10000 * 36525 := Int.mul_le_mul h1 (by omega) (by omega) (by omega)
    have w : wrap64 (rate * (wrap64 ((wrap64 (b - a)) - cov a b o))) = rate * (b - a - cov a b o) := by
      rw [wrapIn (b - a) (by omega), wrapIn (b - a - cov a b o) (by omega), wrapIn (rate * (b - a - cov a b o)) (by omega)]
    rw [w]
    clear w
    generalize rate * (b - a - cov a b o) = X at hx0 hx1
    have ea : sumO (l.filter (lateB a [3])) = arr l a := rfl
    rw [ea]
    generalize arr l a = C at al
    unfold resI
    by_cases hc : C ≤ 1000000000
    · rw [decide_eq_true hc, if_pos rfl, if_pos hc]
      obtain ⟨c, rfl⟩ := Int.eq_ofNat_of_zero_le al
      obtain ⟨x, rfl⟩ := Int.eq_ofNat_of_zero_le hx0
      exact made_scale k c x (by omega) (by omega) (by omega)
    · rw [decide_eq_false hc, if_neg (by decide), if_neg hc]
  · rw [norm_no o h, if_neg (by decide), if_neg h]
theorem int_loop (l : List S39) (rate a b : Int) (ps : List S46) (hps : ps.length ≤ 900) (hd : Debts l) (h0 : 0 ≤ rate) (h1 : rate ≤ 10000) (hs : strB ⟨a, b⟩ = true) : ∀ (j i k : Nat), i + j = ps.length → j + 2001 < k →
    setoff_Interest.l0 k l rate ((ps.take i).map (·.f1)) ps (ps.length : Int) (i : Int) a b = some (if (ps.drop i).all kindOk = true then (if (ps.map (·.f1)).all strB = true then resI (arr l a) (rate * (b - a - cov a b (ps.map (·.f1)))) else (0, 1)) else (0, 1)) := by
  intro j
  induction j with
  | zero =>
    intro i k hi hk
    obtain ⟨k, rfl⟩ : ∃ n, k = n + 1 := ⟨k - 1, by omega⟩
    rw [setoff_Interest.l0, if_neg (by omega), List.take_of_length_le (show ps.length ≤ i by omega), int_end k (by omega) l rate a b _ hd h0 h1 hs (by simpa using hps), List.drop_of_length_le (show ps.length ≤ i by omega), if_pos (show ([] : List S46).all kindOk = true from rfl)]
  | succ j ih =>
    intro i k hi hk
    obtain ⟨k, rfl⟩ : ∃ n, k = n + 1 := ⟨k - 1, by omega⟩
    have hil : i < ps.length := by omega
    rw [setoff_Interest.l0, if_pos (by omega), if_pos (by omega), if_pos (by omega), rdPause ps i hil, betw, Option.bind_some, List.drop_eq_getElem_cons hil, List.all_cons]
    by_cases hk1 : 1 ≤ ps[i].f0 ∧ ps[i].f0 ≤ 2
    · have e : (ps.take i).map (·.f1) ++ [(⟨ps[i].f1.f0, ps[i].f1.f1⟩ : S24)] = (ps.take (i + 1)).map (·.f1) := by
        rw [List.take_succ_eq_append_getElem hil, List.map_append]
        rfl
      have ek : kindOk ps[i] = true := decide_eq_true hk1
      have hlen : ((ps.take i).map (·.f1)).length ≤ 900 := by rw [List.length_map, List.length_take]; omega
      rw [decide_eq_true hk1, if_pos rfl, if_pos (by omega), upI i (by omega), e, ih (i + 1) k (by omega) (by omega), ek, Bool.true_and]
    · have ek : kindOk ps[i] = false := decide_eq_false hk1
      rw [decide_eq_false hk1, if_neg (by decide), ek, Bool.false_and, if_neg (by decide)]
theorem int_yes (k : Nat) (hk : 4000 < k) {l : List S39} {rate a b : Int} {ps : List S46} (hps : ps.length ≤ 900) (h : Right l rate a b ps) :
    setoff_Interest.f k l rate a b ps = some (resI (arr l a) (rate * (b - a - cov a b (ps.map (·.f1))))) := by
  obtain ⟨k, rfl⟩ : ∃ n, k = n + 1 := ⟨k - 1, by omega⟩
  unfold setoff_Interest.f setoff_Valid.f
  rw [if_pos (in_debts0 h.deb), Option.bind_some, ((valid_iff l).mpr h.deb).1, decide_eq_true h.deb.len, Bool.true_and, if_pos rfl, betw, Option.bind_some, decide_eq_true ⟨h.rate0, h.rate1⟩, if_pos rfl, valid_eq _ _ (by simp) (by simp; omega), Option.bind_some, tr_of (one_set a b h.str), if_pos rfl, setoff_Interest.j0, decide_eq_false (by omega), if_neg (by decide)]
  have e := int_loop l rate a b ps hps h.deb h.rate0 h.rate1 h.str ps.length 0 k (by omega) (by omega)
  rw [List.drop_zero, h.kinds, if_pos rfl, h.offs, if_pos rfl] at e
  exact e
theorem int_no (k : Nat) (hk : 4000 < k) {l : List S39} {rate a b : Int} {ps : List S46} (hin : l.length < 4398046511104 ∧ l.all (fun x => inI x.f0) = true) (hps : ps.length ≤ 900) (h : ¬ Right l rate a b ps) :
    setoff_Interest.f k l rate a b ps = some (0, 1) := by
  obtain ⟨k, rfl⟩ : ∃ n, k = n + 1 := ⟨k - 1, by omega⟩
  have jt : setoff_Interest.j0 (k + 1) l rate ps true a b = some (0, 1) := by rw [setoff_Interest.j0, if_pos rfl]
  unfold setoff_Interest.f setoff_Valid.f
  rw [if_pos hin, Option.bind_some]
  by_cases hd : Debts l
  · rw [((valid_iff l).mpr hd).1, decide_eq_true hd.len, Bool.true_and, if_pos rfl, betw, Option.bind_some]
    by_cases hr : 0 ≤ rate ∧ rate ≤ 10000
    · rw [decide_eq_true hr, if_pos rfl, valid_eq _ _ (by simp) (by simp; omega), Option.bind_some]
      by_cases hs : strB ⟨a, b⟩ = true
      · rw [tr_of (one_set a b hs), if_pos rfl, setoff_Interest.j0, decide_eq_false (by omega), if_neg (by decide)]
        have e := int_loop l rate a b ps hps hd hr.1 hr.2 hs ps.length 0 k (by omega) (by omega)
        rw [List.drop_zero] at e
        refine e.trans ?_
        by_cases h1 : ps.all kindOk = true
        · rw [if_pos h1, if_neg (fun h2 => h ⟨hd, hr.1, hr.2, hs, h1, h2⟩)]
        · rw [if_neg h1]
      · rw [tr_not (one_not a b hs), if_neg (by decide), jt]
    · rw [decide_eq_false hr, if_neg (by decide), jt]
  · have hv : (vD l [] && decide (l.length ≤ 100)) = false := by
      rw [Bool.eq_false_iff]
      intro q
      rw [Bool.and_eq_true] at q
      exact hd ((valid_iff l).mp ⟨q.1, of_decide_eq_true q.2⟩)
    rw [hv, if_neg (by decide), jt]
end Go.Proofs.YtnkgnjklkocojaaGreatDoor.Pure

/- Which debts are late, and debts that are left out. No Go and no memory in it. -/
namespace Go.Proofs.YtnkgnjklkocojaaGreatDoor.Pure
open Go.RowKit Go.Proofs.YtnkgnjklkocojaaGreatDoor.X Go.Proofs.YtnkgnjklkocojaaGreatDoorW.PrintWords
set_option linter.unusedVariables false
theorem late_f (x : S39) (d : Int) : cohousingref34_Late.f x.f0 x.f1 x.f2 x.f3 d 3 = some (lateB d [3] x) := by
  unfold cohousingref34_Late.f lateB
  by_cases h1 : x.f3 > 0
  · rw [if_pos h1]
    by_cases h2 : x.f2 < d
    · rw [if_pos h2, if_neg (by decide)]
      have : decide (0 < x.f3) = true := decide_eq_true h1
      simp [h2, this]
      exact Bool.eq_iff_iff.mpr (by simp)
    · rw [if_neg h2]
      simp [h2]
  · rw [if_neg h1]
    have : decide (0 < x.f3) = false := decide_eq_false h1
    simp [this]
theorem debts_filter {l : List S39} (h : Debts l) (p : S39 → Bool) : Debts (l.filter p) :=
  ⟨fun x hx => h.ok x (List.mem_filter.mp hx).1, h.nd.sublist ((List.filter_sublist (p := p)).map _), Nat.le_trans (List.length_filter_le _ _) h.len⟩
end Go.Proofs.YtnkgnjklkocojaaGreatDoor.Pure

/- The law SetoffInterest as a statement over numbers and lists: every input answers true. No Go and no memory in it. -/
namespace Go.Proofs.YtnkgnjklkocojaaGreatDoor.Pure
open Go.RowKit Go.Proofs.YtnkgnjklkocojaaGreatDoor.X Go.Proofs.YtnkgnjklkocojaaGreatDoorW.PrintWords
set_option linter.unusedVariables false
theorem arr_own (l : List S39) (d : Int) : arr (l.filter (lateB d [3])) d = arr l d := by
  unfold arr
  rw [List.filter_filter]
  simp only [Bool.and_self]
theorem arr_paid (d : Int) (p : S39 → S39) (hp : ∀ x, (p x).f1 = x.f1 ∧ (p x).f2 = x.f2) : ∀ (l : List S39), (∀ x ∈ l, 0 ≤ (p x).f3 ∧ (p x).f3 ≤ x.f3) → arr (l.map p) d ≤ arr l d
  | [], _ => Int.le_refl _
  | x :: l, h => by
    have ih := arr_paid d p hp l (fun y hy => h y (List.mem_cons_of_mem _ hy))
    have hx := h x List.mem_cons_self
    unfold arr at ih ⊢
    rw [List.map_cons]
    obtain ⟨e1, e2⟩ := hp x
    cases h1 : lateB d [3] (p x) with
    | true =>
      have h2 : lateB d [3] x = true := by
        unfold lateB at h1 ⊢
        rw [e1, e2] at h1
        simp only [Bool.and_eq_true, decide_eq_true_eq] at h1 ⊢
        exact ⟨h1.1, by omega⟩
      rw [List.filter_cons_of_pos h1, List.filter_cons_of_pos h2, sumO_cons, sumO_cons]
      omega
    | false =>
      rw [List.filter_cons_of_neg (by simp [h1])]
      cases h2 : lateB d [3] x with
      | true => rw [List.filter_cons_of_pos h2, sumO_cons]; omega
      | false => rw [List.filter_cons_of_neg (by simp [h2])]; exact ih
theorem resI_ok {c x : Int} (hc : c ≤ 1000000000) (hq : intQ c x ≤ 1000000000) : resI c x = (intQ c x, 0) := by
  unfold resI
  rw [if_pos hc, if_pos hq]
section
variable {l : List S39} {rate a b : Int} {ps : List S46} (h : Right l rate a b ps) (hps : ps.length ≤ 100) (hC : arr l a ≤ 1000000000)
include h hps hC
omit hps hC in
theorem prod_low (o : List S24) : 0 ≤ rate * (b - a - cov a b o) := Int.mul_nonneg h.rate0 (by have := cov_bound a b o h.str; omega)
theorem int_j3 (k : Nat) (hk : 4010 < k) (c : Int) (hq : intQ (arr l a) (rate * (b - a - cov a b (ps.map (·.f1)))) ≤ 1000000000) :
    ((setoff_Pay.f l c).bind fun bt316 => (if bt316.2.2 = 0 then ((setoff_Interest.f k bt316.1 rate a b ps).bind fun bt321 => (if bt321.2 = 0 then (if bt321.1 ≤ intQ (arr l a) (rate * (b - a - cov a b (ps.map (·.f1)))) then (some true) else (none)) else (none))) else (if bt316.2.2 = 1 then (some true) else (none)))) = some true := by
  by_cases hc : 0 ≤ c ∧ c ≤ 1000000000
  · rw [pay_f h.deb c hc.1 hc.2, Option.bind_some, pay_closed l h.deb c hc.1 hc.2]
    dsimp only
    have off := pay_off l c h.deb hc.1 hc.2
    have hd := (like_debts h.deb off.len off.same off.low).1
    rw [pay_closed l h.deb c hc.1 hc.2] at hd
    simp only at hd
    have hr : Right (l.map (paidOne l c)) rate a b ps := ⟨hd, h.rate0, h.rate1, h.str, h.kinds, h.offs⟩
    have hle : arr (l.map (paidOne l c)) a ≤ arr l a := by
      refine arr_paid a (paidOne l c) (fun x => ⟨rfl, rfl⟩) l (fun x hx => ?_)
      have ux := ((dOk_iff x).mp (h.deb.ok x hx)).2.2.2.1
      have e : (paidOne l c x).f3 = x.f3 - pt x.f3 (pos (c - ahead l x)) := rfl
      have := pt_low x.f3 (pos (c - ahead l x)) ux (by unfold pos; split <;> omega)
      omega
    have hx := prod_low h (ps.map (·.f1))
    have hm := intQ_mono hle (Int.le_refl (rate * (b - a - cov a b (ps.map (·.f1))))) (arr_low hd a) hx
    rw [if_pos rfl, int_yes k (by omega) (by omega) hr, Option.bind_some, resI_ok (by omega) (by omega)]
    dsimp only
    rw [if_pos rfl, if_pos hm]
  · have e : setoff_Pay.f l c = some ([], 0, 1) := by
      unfold setoff_Pay.f
      rw [if_pos (in_debts h.deb), if_neg (fun q => hc q.2.2)]
    rw [e, Option.bind_some]
    dsimp only
    rw [if_neg (by decide), if_pos rfl]
theorem int_j2 (k : Nat) (hk : 4011 < k) (c : Int) (m : S46) (hq : intQ (arr l a) (rate * (b - a - cov a b (ps.map (·.f1)))) ≤ 1000000000) :
    cohousinglaw34_SetoffInterest.j2 k l rate ps c true (intQ (arr l a) (rate * (b - a - cov a b (ps.map (·.f1))))) (ps ++ [m]) a b = some true := by
  obtain ⟨k, rfl⟩ : ∃ n, k = n + 1 := ⟨k - 1, by omega⟩
  have hlen : (ps ++ [m]).length = ps.length + 1 := by simp
  have w : wrap64 (((ps ++ [m]).length : Int) - 1) = (ps.length : Int) := by rw [hlen, wrapIn _ (by omega)]; omega
  have hs : (ps ++ [m]).set ps.length (⟨2, ⟨a, b⟩⟩ : S46) = ps ++ [⟨2, ⟨a, b⟩⟩] := by
    rw [List.set_append_right _ _ (Nat.le_refl _), Nat.sub_self]
    rfl
  rw [cohousinglaw34_SetoffInterest.j2, w, if_pos (by omega), if_pos (by omega), Int.toNat_natCast, hs]
  have hr : Right l rate a b (ps ++ [⟨2, ⟨a, b⟩⟩]) := by
    refine ⟨h.deb, h.rate0, h.rate1, h.str, ?_, ?_⟩
    · rw [List.all_append, h.kinds]
      rfl
    · rw [List.map_append, List.all_append, h.offs]
      simp [h.str]
  have hcov : cov a b ((ps ++ [(⟨2, ⟨a, b⟩⟩ : S46)]).map (·.f1)) = b - a := by
    refine cov_full a b _ h.str (fun d h1 h2 => ?_)
    exact (mem_iff _ _).mpr ⟨⟨a, b⟩, by simp, h1, h2⟩
  rw [int_yes k (by omega) (by simp; omega) hr, Option.bind_some, hcov, Int.sub_self, Int.mul_zero, resI_ok hC (by rw [intQ_zero]; decide), intQ_zero]
  dsimp only
  rw [if_pos rfl, if_pos rfl, if_pos rfl]
  exact int_j3 h hps hC k (by omega) c hq
theorem int_j1 (k : Nat) (hk : 4012 < k) (c q0 q1 q2 : Int) (hq : intQ (arr l a) (rate * (b - a - cov a b (ps.map (·.f1)))) ≤ 1000000000) :
    cohousinglaw34_SetoffInterest.j1 k l rate ps c true (intQ (arr l a) (rate * (b - a - cov a b (ps.map (·.f1))))) false a b q0 q1 q2 = some true := by
  obtain ⟨k, rfl⟩ : ∃ n, k = n + 1 := ⟨k - 1, by omega⟩
  have tail := fun m => int_j2 h hps hC k (by omega) c m hq
  rw [cohousinglaw34_SetoffInterest.j1, if_neg (by decide), Option.bind_some, if_pos (by simp; omega), Option.bind_some, Option.bind_some, List.nil_append, if_pos (by simp; omega), Option.bind_some]
  by_cases hr : Right l rate a b (ps ++ [⟨q0, ⟨q1, q2⟩⟩])
  · have hx := prod_low h ((ps ++ [(⟨q0, ⟨q1, q2⟩⟩ : S46)]).map (·.f1))
    have hc := cov_mono a b (ps.map (·.f1)) ((ps ++ [(⟨q0, ⟨q1, q2⟩⟩ : S46)]).map (·.f1)) (fun d hd => by
      rw [List.map_append, mem_append, hd, Bool.true_or])
    have hle : rate * (b - a - cov a b ((ps ++ [(⟨q0, ⟨q1, q2⟩⟩ : S46)]).map (·.f1))) ≤ rate * (b - a - cov a b (ps.map (·.f1))) := Int.mul_le_mul_of_nonneg_left (by omega) h.rate0
    have hm := intQ_mono (Int.le_refl (arr l a)) hle (arr_low h.deb a) hx
    rw [int_yes k (by omega) (by simp; omega) hr, Option.bind_some, if_pos rfl, resI_ok hC (by omega)]
    dsimp only
    rw [if_neg (by decide), if_pos rfl, if_pos hm, tail]
  · rw [int_no k (by omega) (in_debts h.deb) (by simp; omega) hr, Option.bind_some, if_pos rfl, if_pos rfl, tail]
theorem int_own (k : Nat) (hk : 4013 < k) (c q0 q1 q2 : Int) (hq : intQ (arr l a) (rate * (b - a - cov a b (ps.map (·.f1)))) ≤ 1000000000) : ∀ (j i k : Nat), i + j = l.length → 4020 + j < k →
    cohousinglaw34_SetoffInterest.l0 k l rate ps c true (intQ (arr l a) (rate * (b - a - cov a b (ps.map (·.f1))))) ((l.take i).filter (lateB a [3])) l (l.length : Int) (i : Int) a b q0 q1 q2 = some true := by
  have hl := h.deb.len
  intro j
  induction j with
  | zero =>
    intro i k hi hk
    obtain ⟨k, rfl⟩ : ∃ n, k = n + 1 := ⟨k - 1, by omega⟩
    have hr : Right (l.filter (lateB a [3])) rate a b ps := ⟨debts_filter h.deb _, h.rate0, h.rate1, h.str, h.kinds, h.offs⟩
    have hn := intQ_low (arr_low h.deb a) (prod_low h (ps.map (·.f1)))
    rw [cohousinglaw34_SetoffInterest.l0, if_neg (by omega), List.take_of_length_le (show l.length ≤ i by omega), int_yes k (by omega) (by omega) hr, Option.bind_some, arr_own, if_neg (by omega), resI_ok hC hq]
    dsimp only
    rw [if_pos rfl, bne_self_eq_false]
    exact int_j1 h hps hC k (by omega) c q0 q1 q2 hq
  | succ j ih =>
    intro i k hi hk
    obtain ⟨k, rfl⟩ : ∃ n, k = n + 1 := ⟨k - 1, by omega⟩
    have hil : i < l.length := by omega
    have hfl := List.length_filter_le (lateB a [3]) (l.take i)
    have hft : (l.take i).length ≤ 100 := by rw [List.length_take]; omega
    have hnx := ih (i + 1) k (by omega) (by omega)
    rw [List.take_succ_eq_append_getElem hil, List.filter_append] at hnx
    rw [cohousinglaw34_SetoffInterest.l0, if_pos (by omega), if_pos (by omega), if_pos (by omega), rdDebt l i hil, late_f, Option.bind_some, upI i (by omega)]
    cases hb : lateB a [3] l[i] with
    | true =>
      rw [List.filter_cons_of_pos hb, List.filter_nil] at hnx
      rw [if_pos rfl, Option.bind_some, if_pos (by simp; omega)]
      exact hnx
    | false =>
      rw [List.filter_cons_of_neg (by simp [hb]), List.filter_nil, List.append_nil] at hnx
      rw [if_neg (by decide)]
      exact hnx
end
theorem so_interest (l : List S39) (rate a b : Int) (ps : List S46) (q0 q1 q2 c : Int) (hin : l.length < 4398046511104 ∧ l.all (fun x => inI x.f0) = true) :
    cohousinglaw34_SetoffInterest.f (20 + 6000) l rate a b ps q0 q1 q2 c = some true := by
  unfold cohousinglaw34_SetoffInterest.f
  rw [head_true, Option.bind_some, if_pos rfl]
  by_cases hp : (ps.length : Int) > 100
  · rw [if_pos hp]
  · rw [if_neg hp]
    have hps : ps.length ≤ 100 := by omega
    by_cases h : Right l rate a b ps
    · rw [int_yes _ (by omega) (by omega) h, Option.bind_some]
      by_cases hC : arr l a ≤ 1000000000
      · by_cases hq : intQ (arr l a) (rate * (b - a - cov a b (ps.map (·.f1)))) ≤ 1000000000
        · rw [resI_ok hC hq]
          dsimp only
          rw [if_pos rfl]
          have := h.deb.len
          exact int_own h hps hC 5000 (by omega) c q0 q1 q2 hq l.length 0 _ (by omega) (by omega)
        · unfold resI
          rw [if_pos hC, if_neg hq]
          dsimp only
          rw [if_neg (by decide), if_pos rfl, if_neg (by decide), if_pos rfl]
      · unfold resI
        rw [if_neg hC]
        dsimp only
        rw [if_neg (by decide), if_pos rfl, if_neg (by decide), if_pos rfl]
    · rw [int_no _ (by omega) hin (by omega) h, Option.bind_some]
      dsimp only
      rw [if_neg (by decide), if_pos rfl, if_pos rfl]
theorem SetoffInterest : ∀ (l0 : List S39) (a1 : Int) (a2_0 : Int) (a2_1 : Int) (l3 : List S46) (a4_0 : Int) (a4_1 : Int) (a4_2 : Int) (a5 : Int), l0.length * 32 ≤ 140737488351232 → (∀ x ∈ l0, (Lit.int .i64 x.f0).wf = true ∧ (Lit.int .i64 x.f1).wf = true ∧ (Lit.int .i64 x.f2).wf = true ∧ (Lit.int .i64 x.f3).wf = true) → (Lit.int .i64 a1).wf = true → (Lit.int .i64 a2_0).wf = true → (Lit.int .i64 a2_1).wf = true → l3.length * 24 ≤ 140737488351232 → (∀ x ∈ l3, (Lit.int .i64 x.f0).wf = true ∧ (Lit.int .i64 x.f1.f0).wf = true ∧ (Lit.int .i64 x.f1.f1).wf = true) → (Lit.int .i64 a4_0).wf = true → (Lit.int .i64 a4_1).wf = true → (Lit.int .i64 a4_2).wf = true → (Lit.int .i64 a5).wf = true → ∃ k, cohousinglaw34_SetoffInterest.f k l0 a1 a2_0 a2_1 l3 a4_0 a4_1 a4_2 a5 = some true := by
  intro l0 a1 a2_0 a2_1 l3 a4_0 a4_1 a4_2 a5 y0 hw0 _ _ _ _ _ _ _ _ _
  exact ⟨_, so_interest l0 a1 a2_0 a2_1 l3 a4_0 a4_1 a4_2 a5 (so_in l0 y0 hw0)⟩
end Go.Proofs.YtnkgnjklkocojaaGreatDoor.Pure

