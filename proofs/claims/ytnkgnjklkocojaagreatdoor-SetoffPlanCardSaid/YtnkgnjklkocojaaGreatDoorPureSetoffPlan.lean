/- The law SetoffPlan as a statement over numbers and lists: every input answers true. No Go and no memory in it. -/
import Derived.Test.YtnkgnjklkocojaaGreatDoorXx3
import Derived.Test.YtnkgnjklkocojaaGreatDoorXx8
import Derived.Test.YtnkgnjklkocojaaGreatDoorXx5
import Derived.Test.YtnkgnjklkocojaaGreatDoorXx16
import Derived.Test.YtnkgnjklkocojaaGreatDoorXx17
import Derived.Test.YtnkgnjklkocojaaGreatDoorXx9
import Derived.Test.YtnkgnjklkocojaaGreatDoorXx10
import Derived.Test.YtnkgnjklkocojaaGreatDoorXx15
import Derived.Test.YtnkgnjklkocojaaGreatDoorXx18
/- What a payment does to debts. No Go and no memory in it. -/
namespace Go.Proofs.YtnkgnjklkocojaaGreatDoor.Pure
open Go.RowKit Go.Proofs.YtnkgnjklkocojaaGreatDoor.X Go.Proofs.YtnkgnjklkocojaaGreatDoorW.PrintWords
set_option linter.unusedVariables false

/-! ### the order -/
theorem ordP_perm (l : List S39) : (ordP l).Perm (List.range l.length) := by
  by_cases hpos : 0 < l.length
  · letI inh : Inhabited (Fin l.length) := ⟨⟨0, hpos⟩⟩
    have h := Go.Sort.pdq_sorts (ltOf (cfP l)) (swoP l) (List.finRange l.length).toArray 0 l.length (Lib.bitLen l.length) true true (Nat.zero_le _) (by simp) (Or.inl rfl)
    have hs : sortP l = Go.Sort.pdq (ltOf (cfP l)) (List.finRange l.length).toArray 0 l.length (Lib.bitLen l.length) true true := by
      unfold sortP
      rw [dif_pos hpos]
    rw [← hs] at h
    have hp := h.1.2.2
    have e1 : ((sortP l).extract 0 l.length).toList = (sortP l).toList := by
      rw [Array.toList_extract]
      simp only [List.extract_eq_take_drop, Nat.sub_zero, List.drop_zero]
      exact List.take_of_length_le (by rw [Array.length_toList, sortP_size l hpos]; exact Nat.le_refl _)
    have e2 : ((List.finRange l.length).toArray.extract 0 l.length).toList = List.finRange l.length := by
      rw [Array.toList_extract]
      simp only [List.extract_eq_take_drop, Nat.sub_zero, List.drop_zero]
      exact List.take_of_length_le (by simp)
    rw [e1, e2] at hp
    have := hp.map Fin.val
    unfold ordP
    refine this.trans (List.Perm.of_eq ?_)
    apply List.ext_getElem
    · simp
    · intro i h1 h2
      simp
  · have h0 : l.length = 0 := by omega
    have : ordP l = [] := by
      unfold ordP sortP
      rw [dif_neg hpos]
      rfl
    rw [this, h0]
    exact List.Perm.refl _
theorem ordP_nodup (l : List S39) : (ordP l).Nodup := (ordP_perm l).nodup_iff.mpr List.nodup_range
theorem ordP_mem (l : List S39) (i : Nat) : i ∈ ordP l ↔ i < l.length := by rw [(ordP_perm l).mem_iff, List.mem_range]
/-- Of two debts, the one before the other in the law's order stands before it. -/
def Bef (x y : S39) : Prop := x.f1 < y.f1 ∨ (x.f1 = y.f1 ∧ (x.f2 < y.f2 ∨ (x.f2 = y.f2 ∧ x.f0 < y.f0)))
theorem ordP_sorted (l : List S39) : ∀ i j (hi : i < (ordP l).length) (hj : j < (ordP l).length), i < j → ¬ Bef (l.getD ((ordP l)[j]) z39) (l.getD ((ordP l)[i]) z39) := by
  intro i j hi hj hij hb
  by_cases hpos : 0 < l.length
  · letI inh : Inhabited (Fin l.length) := ⟨⟨0, hpos⟩⟩
    have h := Go.Sort.pdq_sorts (ltOf (cfP l)) (swoP l) (List.finRange l.length).toArray 0 l.length (Lib.bitLen l.length) true true (Nat.zero_le _) (by simp) (Or.inl rfl)
    have hs : sortP l = Go.Sort.pdq (ltOf (cfP l)) (List.finRange l.length).toArray 0 l.length (Lib.bitLen l.length) true true := by
      unfold sortP
      rw [dif_pos hpos]
    rw [← hs] at h
    have hsz := sortP_size l hpos
    have hj2 : j < l.length := by have := hj; unfold ordP at this; simpa [hsz] using this
    have h2 := h.2 i j (Nat.zero_le _) hij hj2
    rw [getElem!_pos (sortP l) j (by omega), getElem!_pos (sortP l) i (by omega)] at h2
    have ei : (ordP l)[i] = ((sortP l)[i]'(by omega)).val := by simp only [ordP, List.getElem_map, Array.getElem_toList]
    have ej : (ordP l)[j] = ((sortP l)[j]'(by omega)).val := by simp only [ordP, List.getElem_map, Array.getElem_toList]
    rw [ei, ej] at hb
    rw [Bool.eq_false_iff] at h2
    refine h2 ((ltP l _ _).mpr ((cmpD_lt _ _).mpr ?_))
    unfold Bef at hb
    simpa [List.getD_eq_getElem?_getD] using hb
  · have : (ordP l).length = 0 := by
      unfold ordP sortP
      rw [dif_neg hpos]
      rfl
    omega
/-! ### the debts -/
theorem dOk_iff (x : S39) : dOk x = true ↔ (1 ≤ x.f0 ∧ x.f0 ≤ 1000000) ∧ (1 ≤ x.f1 ∧ x.f1 ≤ 4) ∧ (0 ≤ x.f2 ∧ x.f2 ≤ 36524) ∧ (0 ≤ x.f3 ∧ x.f3 ≤ 1000000000) := by
  unfold dOk
  simp [and_assoc]
theorem vD_iff : ∀ (l : List S39) (seen : List Int), vD l seen = true ↔ (∀ x ∈ l, dOk x = true) ∧ (l.map (·.f0)).Nodup ∧ ∀ x ∈ l, x.f0 ∉ seen
  | [], seen => by simp [vD]
  | x :: l, seen => by
    rw [vD]
    by_cases h : seen.contains x.f0 = true ∨ dOk x = false
    · rw [if_pos h]
      constructor
      · intro h1; cases h1
      · rintro ⟨h1, _, h3⟩
        rcases h with h | h
        · exact absurd (List.contains_iff_mem.mp h) (h3 x List.mem_cons_self)
        · have := h1 x List.mem_cons_self
          rw [h] at this
          cases this
    · rw [if_neg h, vD_iff l (seen ++ [x.f0])]
      have h1 : x.f0 ∉ seen := fun hm => h (Or.inl (List.contains_iff_mem.mpr hm))
      have h2 : dOk x = true := by
        cases e : dOk x with
        | true => rfl
        | false => exact absurd (Or.inr e) h
      rw [List.map_cons, List.nodup_cons]
      constructor
      · rintro ⟨a, b, c⟩
        refine ⟨fun y hy => ?_, ⟨fun hm => ?_, b⟩, fun y hy => ?_⟩
        · rcases List.mem_cons.mp hy with rfl | hy
          · exact h2
          · exact a y hy
        · obtain ⟨y, hy, e⟩ := List.mem_map.mp hm
          exact c y hy (by rw [e]; simp)
        · rcases List.mem_cons.mp hy with rfl | hy
          · exact h1
          · exact fun hm => c y hy (List.mem_append_left _ hm)
      · rintro ⟨a, ⟨b1, b2⟩, c⟩
        refine ⟨fun y hy => a y (List.mem_cons_of_mem _ hy), b2, fun y hy hm => ?_⟩
        rcases List.mem_append.mp hm with hm | hm
        · exact c y (List.mem_cons_of_mem _ hy) hm
        · exact b1 (List.mem_map.mpr ⟨y, hy, List.mem_singleton.mp hm⟩)
/-- Debts that are well-formed. -/
structure Debts (l : List S39) : Prop where
  ok : ∀ x ∈ l, dOk x = true
  nd : (l.map (·.f0)).Nodup
  len : l.length ≤ 100
theorem valid_iff (l : List S39) : (vD l [] = true ∧ l.length ≤ 100) ↔ Debts l := by
  rw [vD_iff]
  constructor
  · rintro ⟨⟨a, b, _⟩, c⟩; exact ⟨a, b, c⟩
  · rintro ⟨a, b, c⟩; exact ⟨⟨a, b, by simp⟩, c⟩
/-! ### a payment, debt by debt -/
/-- What is open of all. -/
def sumO (l : List S39) : Int := (l.map (·.f3)).foldr (· + ·) 0
/-- What holds while a payment is set off: the debts in done are settled, or nothing is left. -/
structure Off (l : List S39) (c : Int) (done : List Nat) (st : List S39 × Int) : Prop where
  len : st.1.length = l.length
  same : ∀ i, i < l.length → (st.1.getD i z39).f0 = (l.getD i z39).f0 ∧ (st.1.getD i z39).f1 = (l.getD i z39).f1 ∧ (st.1.getD i z39).f2 = (l.getD i z39).f2
  low : ∀ i, i < l.length → 0 ≤ (st.1.getD i z39).f3 ∧ (st.1.getD i z39).f3 ≤ (l.getD i z39).f3
  todo : ∀ i, i < l.length → i ∉ done → st.1.getD i z39 = l.getD i z39
  left : 0 ≤ st.2 ∧ st.2 ≤ c
  sum : sumO l - sumO st.1 + st.2 = c
  full : ∀ i ∈ done, st.2 = 0 ∨ (st.1.getD i z39).f3 = 0
theorem getD_set_ne (l : List S39) (i j : Nat) (y : S39) (h : j ≠ i) : (l.set i y).getD j z39 = l.getD j z39 := by
  rw [List.getD_eq_getElem?_getD, List.getD_eq_getElem?_getD, List.getElem?_set_ne (Ne.symm h)]
theorem bef_total (x y : S39) (h : x.f0 ≠ y.f0) : Bef x y ∨ Bef y x := by
  unfold Bef
  omega
theorem bef_irrefl (x : S39) : ¬ Bef x x := by unfold Bef; omega
theorem bef_trans {x y z : S39} (h1 : Bef x y) (h2 : Bef y z) : Bef x z := by
  unfold Bef at *
  omega
/-- The order is the one that is sorted. -/
theorem ordP_unique (l : List S39) (hnd : (l.map (·.f0)).Nodup) (os : List Nat) (hp : os.Perm (List.range l.length)) (hs : os.Pairwise (fun i j => Bef (l.getD i z39) (l.getD j z39))) : ordP l = os := by
  have ids : ∀ i j, i < l.length → j < l.length → i ≠ j → (l.getD i z39).f0 ≠ (l.getD j z39).f0 := by
    intro i j hi hj hij e
    have h1 : (l.map (·.f0))[i]'(by simpa using hi) = (l.map (·.f0))[j]'(by simpa using hj) := by
      simpa [List.getD_eq_getElem?_getD, hi, hj] using e
    exact hij ((List.getElem_inj hnd).mp h1)
  have hso : (ordP l).Pairwise (fun i j => Bef (l.getD i z39) (l.getD j z39)) := by
    rw [List.pairwise_iff_getElem]
    intro i j hi hj hij
    have h1 := ordP_sorted l i j hi hj hij
    have hne : (ordP l)[i] ≠ (ordP l)[j] := fun e => by
      have := (List.getElem_inj (ordP_nodup l)).mp e
      omega
    rcases bef_total _ _ (ids _ _ ((ordP_mem l _).mp (List.getElem_mem hi)) ((ordP_mem l _).mp (List.getElem_mem hj)) hne) with h | h
    · exact h
    · exact absurd h h1
  refine List.Perm.eq_of_pairwise (le := fun i j => Bef (l.getD i z39) (l.getD j z39)) (fun a b _ _ h1 h2 => absurd (bef_trans h1 h2) (bef_irrefl _)) hso hs ((ordP_perm l).trans hp.symm)
end Go.Proofs.YtnkgnjklkocojaaGreatDoor.Pure

/- Two payments, one after the other, leave what their sum leaves. No Go and no memory in it. -/
namespace Go.Proofs.YtnkgnjklkocojaaGreatDoor.Pure
open Go.RowKit Go.Proofs.YtnkgnjklkocojaaGreatDoor.X Go.Proofs.YtnkgnjklkocojaaGreatDoorW.PrintWords
set_option linter.unusedVariables false
theorem wrapIn (x : Int) (h : -9223372036854775808 ≤ x ∧ x ≤ 9223372036854775807) : wrap64 x = x := by unfold wrap64; omega
end Go.Proofs.YtnkgnjklkocojaaGreatDoor.Pure

/- Lists of stretches as sets of days. No Go and no memory in it. -/
namespace Go.Proofs.YtnkgnjklkocojaaGreatDoor.Pure
open Go.RowKit Go.Proofs.YtnkgnjklkocojaaGreatDoor.X Go.Proofs.YtnkgnjklkocojaaGreatDoorW.PrintWords

/-- A day belongs to a list of stretches. -/
def mem (l : List S24) (d : Int) : Bool := l.any (dayIn d)
theorem str_iff (s : S24) : strB s = true ↔ 0 ≤ s.f0 ∧ s.f0 < s.f1 ∧ s.f1 ≤ 36525 := by
  unfold strB
  simp
theorem in_iff (d : Int) (s : S24) : dayIn d s = true ↔ s.f0 ≤ d ∧ d < s.f1 := by
  unfold dayIn
  simp
theorem mem_iff (l : List S24) (d : Int) : mem l d = true ↔ ∃ s ∈ l, s.f0 ≤ d ∧ d < s.f1 := by
  unfold mem
  rw [List.any_eq_true]
  simp only [in_iff]
theorem mem_append (l m : List S24) (d : Int) : mem (l ++ m) d = (mem l d || mem m d) := by
  unfold mem
  rw [List.any_append]
theorem mem_cons (s : S24) (l : List S24) (d : Int) : mem (s :: l) d = (dayIn d s || mem l d) := rfl
/-- Stretches in order, and apart. -/
structure Apart (l : List S24) : Prop where
  str : ∀ s ∈ l, strB s = true
  pw : l.Pairwise (fun a b => a.f1 < b.f0)
theorem Apart.nil : Apart [] := ⟨by simp, List.Pairwise.nil⟩
theorem Apart.tail {s : S24} {l : List S24} (h : Apart (s :: l)) : Apart l := ⟨fun x hx => h.str x (List.mem_cons_of_mem _ hx), (List.pairwise_cons.mp h.pw).2⟩
theorem Apart.head {s : S24} {l : List S24} (h : Apart (s :: l)) : (0 ≤ s.f0 ∧ s.f0 < s.f1 ∧ s.f1 ≤ 36525) ∧ ∀ t ∈ l, s.f1 < t.f0 := ⟨(str_iff s).mp (h.str s List.mem_cons_self), (List.pairwise_cons.mp h.pw).1⟩
theorem Apart.low {s : S24} {l : List S24} (h : Apart (s :: l)) (d : Int) (hd : mem (s :: l) d = true) : s.f0 ≤ d := by
  obtain ⟨t, ht, h1, _⟩ := (mem_iff _ _).mp hd
  rcases List.mem_cons.mp ht with rfl | ht
  · exact h1
  · have := h.head.2 t ht
    have := h.head.1
    omega
theorem Apart.own {s : S24} {l : List S24} (h : Apart (s :: l)) : mem (s :: l) s.f0 = true := (mem_iff _ _).mpr ⟨s, List.mem_cons_self, Int.le_refl _, h.head.1.2.1⟩
theorem Apart.gap {s : S24} {l : List S24} (h : Apart (s :: l)) (d : Int) (h1 : mem l d = true) : s.f1 < d := by
  obtain ⟨t, ht, h2, _⟩ := (mem_iff _ _).mp h1
  have := h.head.2 t ht
  omega
/-! ### add -/
theorem addF_nil (s : S24) : addF [] s = [s] := rfl
theorem addF_snoc (o : List S24) (t s : S24) : addF (o ++ [t]) s = if t.f1 ≥ s.f0 then o ++ [⟨t.f0, mx t.f1 s.f1⟩] else o ++ [t] ++ [s] := by
  have hl : (o ++ [t]).length = o.length + 1 := by simp
  have hr : rd_T24 (o ++ [t]) (((o ++ [t]).length : Int) - 1) = t := by
    rw [hl, show ((o.length + 1 : Nat) : Int) - 1 = (o.length : Int) by omega, rd30_nat _ _ (by simp)]
    simp
  unfold addF
  rw [hr]
  by_cases h : t.f1 ≥ s.f0
  · rw [if_pos ⟨by rw [hl]; omega, h⟩, if_pos h, hl]
    simp
  · rw [if_neg (fun e => h e.2), if_neg h]
theorem add_ok (out : List S24) (s : S24) (h : Apart out) (hs : strB s = true) (hl : ∀ t ∈ out, t.f0 ≤ s.f0) :
    Apart (addF out s) ∧ (∀ d, mem (addF out s) d = (mem out d || dayIn d s)) ∧ (∀ t ∈ addF out s, t.f0 ≤ s.f0) := by
  have hs' := (str_iff s).mp hs
  rcases List.eq_nil_or_concat out with rfl | ⟨o, t, rfl⟩
  · rw [addF_nil]
    refine ⟨⟨by intro x hx; rw [List.mem_singleton.mp hx]; exact hs, by simp⟩, fun d => by simp [mem], ?_⟩
    intro x hx
    rw [List.mem_singleton.mp hx]
    exact Int.le_refl _
  · rw [List.concat_eq_append] at h hl ⊢
    rw [addF_snoc]
    obtain ⟨p1, p2, p3⟩ := List.pairwise_append.mp h.pw
    have ht := (str_iff t).mp (h.str t (by simp))
    have htl := hl t (by simp)
    by_cases hj : t.f1 ≥ s.f0
    · rw [if_pos hj]
      have hm : mx t.f1 s.f1 = t.f1 ∧ s.f1 ≤ t.f1 ∨ mx t.f1 s.f1 = s.f1 ∧ t.f1 < s.f1 := by
        unfold mx
        split <;> omega
      refine ⟨⟨?_, ?_⟩, fun d => ?_, ?_⟩
      · intro x hx
        rcases List.mem_append.mp hx with hx | hx
        · exact h.str x (List.mem_append_left _ hx)
        · rw [List.mem_singleton.mp hx, str_iff]
          simp only
          omega
      · refine List.pairwise_append.mpr ⟨p1, by simp, ?_⟩
        intro a ha b hb
        rw [List.mem_singleton.mp hb]
        exact p3 a ha t (by simp)
      · rw [mem_append, mem_append]
        have e1 : mem [(⟨t.f0, mx t.f1 s.f1⟩ : S24)] d = (mem [t] d || dayIn d s) := by
          rw [Bool.eq_iff_iff, Bool.or_eq_true, mem_iff, mem_iff, in_iff]
          simp only [List.mem_singleton, exists_eq_left]
          omega
        rw [e1, Bool.or_assoc]
      · intro x hx
        rcases List.mem_append.mp hx with hx | hx
        · exact hl x (List.mem_append_left _ hx)
        · rw [List.mem_singleton.mp hx]
          exact htl
    · rw [if_neg hj]
      refine ⟨⟨?_, ?_⟩, fun d => ?_, ?_⟩
      · intro x hx
        rcases List.mem_append.mp hx with hx | hx
        · exact h.str x hx
        · rw [List.mem_singleton.mp hx]; exact hs
      · refine List.pairwise_append.mpr ⟨h.pw, by simp, ?_⟩
        intro a ha b hb
        rw [List.mem_singleton.mp hb]
        rcases List.mem_append.mp ha with ha | ha
        · have := p3 a ha t (by simp)
          omega
        · rw [List.mem_singleton.mp ha]; omega
      · rw [mem_append]
        simp [mem]
      · intro x hx
        rcases List.mem_append.mp hx with hx | hx
        · exact hl x hx
        · rw [List.mem_singleton.mp hx]; exact Int.le_refl _
theorem fold_ok : ∀ (l out : List S24), Apart out → (∀ s ∈ l, strB s = true) → l.Pairwise (fun a b => a.f0 ≤ b.f0) → (∀ t ∈ out, ∀ s ∈ l, t.f0 ≤ s.f0) →
    Apart (l.foldl addF out) ∧ ∀ d, mem (l.foldl addF out) d = (mem out d || mem l d)
  | [], out, h, _, _, _ => ⟨h, fun d => by simp [mem]⟩
  | s :: l, out, h, hs, hp, ho => by
    obtain ⟨a1, a2, a3⟩ := add_ok out s h (hs s List.mem_cons_self) (fun t ht => ho t ht s List.mem_cons_self)
    obtain ⟨q1, q2⟩ := List.pairwise_cons.mp hp
    obtain ⟨b1, b2⟩ := fold_ok l (addF out s) a1 (fun x hx => hs x (List.mem_cons_of_mem _ hx)) q2 (fun t ht x hx => Int.le_trans (a3 t ht) (q1 x hx))
    refine ⟨b1, fun d => ?_⟩
    rw [List.foldl_cons, b2, a2, mem_cons, Bool.or_assoc]
/-! ### Normal -/
theorem sorted30_perm (l : List S24) : (sorted30 l).Perm l ∧ (sorted30 l).Pairwise (fun a b => a.f0 ≤ b.f0) := by
  have h := Go.Sort.pdq_sorts (ltOf cf30) swo30 l.toArray 0 l.toArray.size (Lib.bitLen l.toArray.size) true true (Nat.zero_le _) (Nat.le_refl _) (Or.inl rfl)
  generalize hp : Go.Sort.pdq (ltOf cf30) l.toArray 0 l.toArray.size (Lib.bitLen l.toArray.size) true true = p at h
  have e : sorted30 l = p.toList := by unfold sorted30; rw [hp]
  obtain ⟨⟨hsz, _, hperm⟩, hsrt⟩ := h
  rw [e]
  constructor
  · have e1 : p.extract 0 l.toArray.size = p := by rw [← hsz]; simp
    have e2 : l.toArray.extract 0 l.toArray.size = l.toArray := by simp
    rw [e1, e2] at hperm
    simpa using hperm
  · rw [List.pairwise_iff_getElem]
    intro i j hi hj hij
    have := hsrt i j (Nat.zero_le _) hij (by rw [← hsz]; simpa using hj)
    rw [lt30] at this
    have h1 := of_decide_eq_false this
    rw [getElem!_pos p j (by simpa using hj), getElem!_pos p i (by simpa using hi)] at h1
    simp only [Array.getElem_toList]
    omega
theorem mem_perm {l m : List S24} (h : l.Perm m) (d : Int) : mem l d = mem m d := by
  rw [Bool.eq_iff_iff, mem_iff, mem_iff]
  constructor
  · rintro ⟨s, hs, h1⟩; exact ⟨s, h.mem_iff.mp hs, h1⟩
  · rintro ⟨s, hs, h1⟩; exact ⟨s, h.mem_iff.mpr hs, h1⟩
/-- The stretches with the same days that are in order and apart. -/
def normL (l : List S24) : List S24 := (sorted30 l).foldl addF []
theorem norm_ok (l : List S24) (h : ∀ s ∈ l, strB s = true) : Apart (normL l) ∧ ∀ d, mem (normL l) d = mem l d := by
  obtain ⟨hp, hs⟩ := sorted30_perm l
  obtain ⟨a, b⟩ := fold_ok (sorted30 l) [] Apart.nil (fun s hs' => h s (hp.mem_iff.mp hs')) hs (by simp)
  refine ⟨a, fun d => ?_⟩
  show mem ((sorted30 l).foldl addF []) d = _
  rw [b, mem_perm hp]
  simp [mem]
theorem normF_eq (l : List S24) : normF l = if l.all strB then limF (normL l) else ([], 1) := rfl
end Go.Proofs.YtnkgnjklkocojaaGreatDoor.Pure

/- A sweep over the ends of two sets: the days that are kept. No Go and no memory in it. -/
namespace Go.Proofs.YtnkgnjklkocojaaGreatDoor.Pure
open Go.RowKit Go.Proofs.YtnkgnjklkocojaaGreatDoor.X Go.Proofs.YtnkgnjklkocojaaGreatDoorW.PrintWords

/-! ### the ends -/
theorem upto_ok (d : Array Int) (hm : ∀ i j, i ≤ j → j < d.size → d[i]! ≤ d[j]!) : ∀ m, m ≤ d.size →
    (Lib.compactUpTo d m).Pairwise (· < ·) ∧ (∀ x ∈ Lib.compactUpTo d m, ∃ j, j < m ∧ x = d[j]!) ∧ (∀ j, j < m → d[j]! ∈ Lib.compactUpTo d m)
  | 0, _ => ⟨by simp [Lib.compactUpTo], by simp [Lib.compactUpTo], fun j h => absurd h (by omega)⟩
  | m + 1, h => by
    obtain ⟨p1, p2, p3⟩ := upto_ok d hm m (by omega)
    rw [Lib.compactUpTo_succ]
    cases hk : Lib.keeps d m with
    | true =>
      rw [if_pos rfl]
      refine ⟨List.pairwise_append.mpr ⟨p1, by simp, ?_⟩, ?_, ?_⟩
      · intro a ha b hb
        rw [List.mem_singleton.mp hb]
        obtain ⟨j, hj, rfl⟩ := p2 a ha
        have h1 := hm j (m - 1) (by omega) (by omega)
        have h2 := hm (m - 1) m (by omega) (by omega)
        have h3 : m = 0 ∨ d[m]! ≠ d[m - 1]! := of_decide_eq_true hk
        rcases h3 with h3 | h3
        · omega
        · omega
      · intro x hx
        rcases List.mem_append.mp hx with hx | hx
        · obtain ⟨j, hj, e⟩ := p2 x hx
          exact ⟨j, by omega, e⟩
        · exact ⟨m, by omega, List.mem_singleton.mp hx⟩
      · intro j hj
        rcases Nat.lt_or_ge j m with h1 | h1
        · exact List.mem_append_left _ (p3 j h1)
        · have : j = m := by omega
          subst this
          exact List.mem_append_right _ (by simp)
    | false =>
      rw [if_neg (by decide), List.append_nil]
      have h3 : ¬ (m = 0 ∨ d[m]! ≠ d[m - 1]!) := of_decide_eq_false hk
      refine ⟨p1, fun x hx => ?_, fun j hj => ?_⟩
      · obtain ⟨j, hj, e⟩ := p2 x hx
        exact ⟨j, by omega, e⟩
      · rcases Nat.lt_or_ge j m with h1 | h1
        · exact p3 j h1
        · have : j = m := by omega
          subst this
          have h4 : j ≠ 0 := fun e => h3 (Or.inl e)
          have h5 : d[j]! = d[j - 1]! := Classical.byContradiction fun e => h3 (Or.inr e)
          rw [h5]
          exact p3 (j - 1) (by omega)
theorem compact_ok (zs : List Int) (h : zs.Pairwise (· ≤ ·)) : (Lib.compact zs).Pairwise (· < ·) ∧ ∀ x, x ∈ Lib.compact zs ↔ x ∈ zs := by
  have hm : ∀ i j, i ≤ j → j < zs.toArray.size → zs.toArray[i]! ≤ zs.toArray[j]! := by
    intro i j hij hj
    rcases Nat.lt_or_ge i j with h1 | h1
    · rw [getElem!_pos _ i (by omega), getElem!_pos _ j hj]
      simp only [List.getElem_toArray]
      exact List.pairwise_iff_getElem.mp h i j _ _ h1
    · have : i = j := by omega
      subst this
      exact Int.le_refl _
  obtain ⟨p1, p2, p3⟩ := upto_ok zs.toArray hm zs.length (by simp)
  refine ⟨p1, fun x => ⟨fun hx => ?_, fun hx => ?_⟩⟩
  · obtain ⟨j, hj, rfl⟩ := p2 x hx
    rw [getElem!_pos _ j (by simpa using hj)]
    simp
  · obtain ⟨j, hj, rfl⟩ := List.mem_iff_getElem.mp hx
    have := p3 j hj
    rw [getElem!_pos _ j (by simpa using hj)] at this
    rw [List.getElem_toArray] at this
    exact this
theorem flZ_mem (l : List S24) (x : Int) : x ∈ flZ l ↔ ∃ s ∈ l, x = s.f0 ∨ x = s.f1 := by
  unfold flZ
  rw [List.mem_flatMap]
  simp
theorem ends_fact (a b : List S24) : (endsF a b).Pairwise (· < ·) ∧ ∀ x, x ∈ endsF a b ↔ ((∃ s ∈ a, x = s.f0 ∨ x = s.f1) ∨ ∃ s ∈ b, x = s.f0 ∨ x = s.f1) := by
  have hs : (sorted (flZ a ++ flZ b)).Pairwise (· ≤ ·) := by
    have := List.pairwise_mergeSort (le := fun x y : Int => decide (x ≤ y)) (fun a b c h1 h2 => by simp only [decide_eq_true_eq] at *; omega) (fun a b => by simp only [Bool.or_eq_true, decide_eq_true_eq]; omega) (flZ a ++ flZ b)
    exact this.imp (fun h => of_decide_eq_true h)
  obtain ⟨p1, p2⟩ := compact_ok _ hs
  refine ⟨p1, fun x => ?_⟩
  show x ∈ Lib.compact (sorted (flZ a ++ flZ b)) ↔ _
  rw [p2]
  unfold sorted
  rw [List.mem_mergeSort, List.mem_append, flZ_mem, flZ_mem]
/-! ### the walk over a set -/
theorem Apart.past {l : List S24} (h : Apart l) (d : Int) : Apart (pastD l d) := by
  unfold pastD
  have hs := List.dropWhile_sublist (fun s : S24 => decide (s.f1 ≤ d)) (l := l)
  exact ⟨fun s hs' => h.str s (hs.subset hs'), h.pw.sublist hs⟩
theorem mem_past : ∀ (l : List S24) (d x : Int), d ≤ x → mem (pastD l d) x = mem l x
  | [], _, _, _ => rfl
  | s :: l, d, x, h => by
    unfold pastD
    rw [List.dropWhile_cons]
    by_cases hs : s.f1 ≤ d
    · rw [if_pos (decide_eq_true hs), mem_cons]
      have ih := mem_past l d x h
      unfold pastD at ih
      rw [ih]
      have : dayIn x s = false := by
        cases hd : dayIn x s with
        | false => rfl
        | true => have := (in_iff x s).mp hd; omega
      rw [this, Bool.false_or]
    · rw [if_neg (by simpa using hs)]
theorem past_head (l : List S24) (d : Int) (s : S24) (r : List S24) (h : pastD l d = s :: r) : ¬ s.f1 ≤ d := by
  unfold pastD at h
  intro hn
  have := List.head_dropWhile_not (fun s : S24 => decide (s.f1 ≤ d)) (l := l) (by rw [h]; simp)
  simp only [h, List.head_cons] at this
  rw [decide_eq_true hn] at this
  exact absurd this (by simp)
theorem in_past {l : List S24} (h : Apart l) (d : Int) : inD l d = mem l d := by
  rw [← mem_past l d d (Int.le_refl _)]
  have hp := h.past d
  have hh := past_head l d
  unfold inD
  generalize pastD l d = p at hp hh
  cases p with
  | nil => rfl
  | cons s r =>
    have h1 := hh s r rfl
    show decide (s.f0 ≤ d) = mem (s :: r) d
    rw [Bool.eq_iff_iff, decide_eq_true_eq]
    constructor
    · intro h2
      exact (mem_iff _ _).mpr ⟨s, List.mem_cons_self, h2, by omega⟩
    · exact hp.low d
/-- The stretches between the ends that are kept. -/
def segs (kf : Bool → Bool → Bool) (ma mb : Int → Bool) : List Int → List S24
  | d :: e :: r => if kf (ma d) (mb d) then ⟨d, e⟩ :: segs kf ma mb (e :: r) else segs kf ma mb (e :: r)
  | _ => []
theorem sweep_segs (kf : Bool → Bool → Bool) (ma mb : Int → Bool) : ∀ (zs : List Int) (ra rb out : List S24), zs.Pairwise (· < ·) → Apart ra → Apart rb →
    (∀ d ∈ zs, mem ra d = ma d) → (∀ d ∈ zs, mem rb d = mb d) → sweepL kf zs ra rb out = (segs kf ma mb zs).foldl addF out
  | [], _, _, _, _, _, _, _, _ => by simp [sweepL, segs]
  | [_], _, _, _, _, _, _, _, _ => by simp [sweepL, segs]
  | d :: e :: r, ra, rb, out, hz, ha, hb, h1, h2 => by
    obtain ⟨q1, q2⟩ := List.pairwise_cons.mp hz
    rw [sweepL, segs, in_past ha, in_past hb, h1 d List.mem_cons_self, h2 d List.mem_cons_self]
    rw [sweep_segs kf ma mb (e :: r) (pastD ra d) (pastD rb d) _ q2 (ha.past d) (hb.past d)
      (fun x hx => by rw [mem_past _ _ _ (Int.le_of_lt (q1 x hx)), h1 x (List.mem_cons_of_mem _ hx)])
      (fun x hx => by rw [mem_past _ _ _ (Int.le_of_lt (q1 x hx)), h2 x (List.mem_cons_of_mem _ hx)])]
    split <;> rfl
theorem segs_fact (kf : Bool → Bool → Bool) (ma mb : Int → Bool) : ∀ (zs : List Int), zs.Pairwise (· < ·) →
    (∀ s ∈ segs kf ma mb zs, s.f0 < s.f1 ∧ s.f0 ∈ zs ∧ s.f1 ∈ zs) ∧ (segs kf ma mb zs).Pairwise (fun a b => a.f0 ≤ b.f0) ∧ (∀ d r, zs = d :: r → ∀ s ∈ segs kf ma mb zs, d ≤ s.f0)
  | [], _ => by simp [segs]
  | [_], _ => by simp [segs]
  | d :: e :: r, hz => by
    obtain ⟨q1, q2⟩ := List.pairwise_cons.mp hz
    obtain ⟨a1, a2, a3⟩ := segs_fact kf ma mb (e :: r) q2
    have hde := q1 e List.mem_cons_self
    have b1 : ∀ s ∈ segs kf ma mb (e :: r), s.f0 < s.f1 ∧ s.f0 ∈ d :: e :: r ∧ s.f1 ∈ d :: e :: r := fun s hs => ⟨(a1 s hs).1, List.mem_cons_of_mem _ (a1 s hs).2.1, List.mem_cons_of_mem _ (a1 s hs).2.2⟩
    have b3 : ∀ s ∈ segs kf ma mb (e :: r), d ≤ s.f0 := fun s hs => by have := a3 e r rfl s hs; omega
    rw [segs]
    split
    · refine ⟨?_, List.pairwise_cons.mpr ⟨b3, a2⟩, ?_⟩
      · intro s hs
        rcases List.mem_cons.mp hs with rfl | hs
        · exact ⟨hde, List.mem_cons_self, List.mem_cons_of_mem _ List.mem_cons_self⟩
        · exact b1 s hs
      · intro d' r' e' s hs
        injection e' with e1 _
        subst e1
        rcases List.mem_cons.mp hs with rfl | hs
        · exact Int.le_refl _
        · exact b3 s hs
    · refine ⟨b1, a2, ?_⟩
      intro d' r' e' s hs
      injection e' with e1 _
      subst e1
      exact b3 s hs
theorem mem_none (l : List S24) (x : Int) (h : ∀ s ∈ l, ¬ (s.f0 ≤ x ∧ x < s.f1)) : mem l x = false := by
  cases hm : mem l x with
  | false => rfl
  | true =>
    obtain ⟨s, hs, h1⟩ := (mem_iff _ _).mp hm
    exact absurd h1 (h s hs)
theorem mem_same (l : List S24) (d x : Int) (h : ∀ s ∈ l, (s.f0 ≤ d ∧ d < s.f1) ↔ (s.f0 ≤ x ∧ x < s.f1)) : mem l d = mem l x := by
  rw [Bool.eq_iff_iff, mem_iff, mem_iff]
  constructor
  · rintro ⟨s, hs, h1⟩; exact ⟨s, hs, (h s hs).mp h1⟩
  · rintro ⟨s, hs, h1⟩; exact ⟨s, hs, (h s hs).mpr h1⟩
/-- Every end of l that does not come before d is one of zs. -/
def Ends (l : List S24) (d : Int) (zs : List Int) : Prop := ∀ s ∈ l, (d ≤ s.f0 → s.f0 ∈ zs) ∧ (d ≤ s.f1 → s.f1 ∈ zs)
theorem Ends.tail {l : List S24} {d e : Int} {r : List Int} (h : Ends l d (d :: e :: r)) (hde : d < e) : Ends l e (e :: r) := by
  intro s hs
  refine ⟨fun h1 => ?_, fun h1 => ?_⟩
  · rcases List.mem_cons.mp ((h s hs).1 (by omega)) with h2 | h2
    · omega
    · exact h2
  · rcases List.mem_cons.mp ((h s hs).2 (by omega)) with h2 | h2
    · omega
    · exact h2
theorem Ends.flat {l : List S24} {d e : Int} {r : List Int} (h : Ends l d (d :: e :: r)) (hz : (d :: e :: r).Pairwise (· < ·)) (x : Int) (h1 : d ≤ x) (h2 : x < e) : mem l d = mem l x := by
  obtain ⟨q1, q2⟩ := List.pairwise_cons.mp hz
  obtain ⟨q3, _⟩ := List.pairwise_cons.mp q2
  have low : ∀ y ∈ d :: e :: r, d < y → e ≤ y := by
    intro y hy hdy
    rcases List.mem_cons.mp hy with rfl | hy
    · omega
    · rcases List.mem_cons.mp hy with rfl | hy
      · exact Int.le_refl _
      · have := q3 y hy; omega
  refine mem_same _ _ _ fun s hs => ?_
  obtain ⟨k0, k1⟩ := h s hs
  constructor
  · intro hd
    have := low s.f1 (k1 (by omega)) (by omega)
    omega
  · intro hx
    refine ⟨?_, by omega⟩
    rcases Int.lt_or_le d s.f0 with h3 | h3
    · have := low s.f0 (k0 (by omega)) h3
      omega
    · exact h3
theorem Ends.last {l : List S24} {d : Int} (h : Ends l d [d]) (x : Int) (h1 : d ≤ x) : mem l x = false := by
  refine mem_none _ _ fun s hs hx => ?_
  have := (h s hs).2 (by omega)
  have := List.mem_singleton.mp this
  omega
theorem segs_mem (kf : Bool → Bool → Bool) (h0 : kf false false = false) (a b : List S24) : ∀ (r : List Int) (d : Int), (d :: r).Pairwise (· < ·) → Ends a d (d :: r) → Ends b d (d :: r) → ∀ x,
    mem (segs kf (mem a) (mem b) (d :: r)) x = (decide (d ≤ x) && kf (mem a x) (mem b x))
  | [], d, _, ha, hb, x => by
    by_cases h : d ≤ x
    · rw [ha.last x h, hb.last x h, h0, Bool.and_false]; rfl
    · rw [decide_eq_false h]; rfl
  | e :: r, d, hz, ha, hb, x => by
    obtain ⟨q1, q2⟩ := List.pairwise_cons.mp hz
    have hde := q1 e List.mem_cons_self
    have ih := segs_mem kf h0 a b r e q2 (ha.tail hde) (hb.tail hde) x
    have main : mem (segs kf (mem a) (mem b) (d :: e :: r)) x = ((kf (mem a d) (mem b d) && (decide (d ≤ x) && decide (x < e))) || mem (segs kf (mem a) (mem b) (e :: r)) x) := by
      rw [segs]
      cases hk : kf (mem a d) (mem b d) with
      | true => rw [if_pos rfl, mem_cons, Bool.true_and]; rfl
      | false => rw [if_neg (by decide)]; rfl
    rw [main, ih]
    rcases Int.lt_or_le x d with h1 | h1
    · rw [decide_eq_false (show ¬ d ≤ x by omega), decide_eq_false (show ¬ e ≤ x by omega)]
      simp
    · rcases Int.lt_or_le x e with h2 | h2
      · rw [decide_eq_true h1, decide_eq_true h2, decide_eq_false (show ¬ e ≤ x by omega), ha.flat hz x h1 h2, hb.flat hz x h1 h2]
        simp
      · rw [decide_eq_true h1, decide_eq_true h2, decide_eq_false (show ¬ x < e by omega)]
        simp
/-- What a sweep gives: in order and apart, with the days that are kept; each stretch begins where one of the kept ones begins. -/
theorem sweep_fact (kf : Bool → Bool → Bool) (h0 : kf false false = false) (a b : List S24) (ha : Apart a) (hb : Apart b) :
    Apart (sweepL kf (endsF a b) a b []) ∧ ∀ x, mem (sweepL kf (endsF a b) a b []) x = kf (mem a x) (mem b x) := by
  obtain ⟨e1, e2⟩ := ends_fact a b
  rw [sweep_segs kf (mem a) (mem b) (endsF a b) a b [] e1 ha hb (fun _ _ => rfl) (fun _ _ => rfl)]
  have hr : ∀ x ∈ endsF a b, 0 ≤ x ∧ x ≤ 36525 := by
    intro x hx
    rcases (e2 x).mp hx with ⟨s, hs, h⟩ | ⟨s, hs, h⟩
    · have := (str_iff s).mp (ha.str s hs); omega
    · have := (str_iff s).mp (hb.str s hs); omega
  obtain ⟨f1, f2, _⟩ := segs_fact kf (mem a) (mem b) (endsF a b) e1
  obtain ⟨g1, g2⟩ := fold_ok (segs kf (mem a) (mem b) (endsF a b)) [] Apart.nil
    (fun s hs => by have h := f1 s hs; have h1 := hr _ h.2.1; have h2 := hr _ h.2.2; rw [str_iff]; omega) f2 (by simp)
  refine ⟨g1, fun x => ?_⟩
  rw [g2]
  have ea : ∀ d, Ends a d (endsF a b) := fun d s hs => ⟨fun _ => (e2 _).mpr (Or.inl ⟨s, hs, Or.inl rfl⟩), fun _ => (e2 _).mpr (Or.inl ⟨s, hs, Or.inr rfl⟩)⟩
  have eb : ∀ d, Ends b d (endsF a b) := fun d s hs => ⟨fun _ => (e2 _).mpr (Or.inr ⟨s, hs, Or.inl rfl⟩), fun _ => (e2 _).mpr (Or.inr ⟨s, hs, Or.inr rfl⟩)⟩
  show (false || _) = _
  rw [Bool.false_or]
  generalize endsF a b = zs at *
  cases zs with
  | nil =>
    have : ∀ l : List S24, (∀ d, Ends l d []) → mem l x = false := fun l hl => mem_none _ _ fun s hs hx => by have := (hl s.f0 s hs).1 (Int.le_refl _); simp at this
    rw [this a ea, this b eb, h0]; rfl
  | cons d r =>
    rw [segs_mem kf h0 a b r d e1 (ea d) (eb d) x]
    by_cases h : d ≤ x
    · rw [decide_eq_true h, Bool.true_and]
    · have low : ∀ y ∈ d :: r, d ≤ y := by
        intro y hy
        rcases List.mem_cons.mp hy with rfl | hy
        · exact Int.le_refl _
        · exact Int.le_of_lt ((List.pairwise_cons.mp e1).1 y hy)
      have : ∀ l : List S24, (∀ d', Ends l d' (d :: r)) → mem l x = false := fun l hl => mem_none _ _ fun s hs hx => by have := low _ ((hl s.f0 s hs).1 (Int.le_refl _)); omega
      rw [decide_eq_false h, this a ea, this b eb, h0]; rfl
end Go.Proofs.YtnkgnjklkocojaaGreatDoor.Pure

/- What the functions of span answer, over sets of days. No Go and no memory in it. -/
namespace Go.Proofs.YtnkgnjklkocojaaGreatDoor.Pure
open Go.RowKit Go.Proofs.YtnkgnjklkocojaaGreatDoor.X Go.Proofs.YtnkgnjklkocojaaGreatDoorW.PrintWords

/-- The truth of a statement. -/
noncomputable def tr (p : Prop) : Bool := @decide p (Classical.propDecidable p)
theorem tr_iff (p : Prop) : tr p = true ↔ p := by unfold tr; exact @decide_eq_true_iff p (Classical.propDecidable p)
theorem tr_of {p : Prop} (h : p) : tr p = true := (tr_iff p).mpr h
theorem tr_eq {p : Prop} {b : Bool} (h : b = true ↔ p) : b = tr p := by
  rw [Bool.eq_iff_iff, tr_iff]; exact h
/-- A set: in order, apart, and not too long. -/
def IsSet (l : List S24) : Prop := Apart l ∧ l.length ≤ 1000
theorem chain_apart (l : List S24) (hs : ∀ n, n < l.length → strB (rd_T24 l (n : Int)) = true) (hc : ∀ n, 0 < n → n < l.length → (rd_T24 l ((n : Int) - 1)).f1 < (rd_T24 l (n : Int)).f0) : Apart l := by
  refine ⟨fun s hs' => ?_, ?_⟩
  · obtain ⟨j, hj, rfl⟩ := List.mem_iff_getElem.mp hs'
    rw [← rd30_nat l j hj]
    exact hs j hj
  · rw [List.pairwise_iff_getElem]
    intro i j hi hj hij
    rw [← rd30_nat l i hi, ← rd30_nat l j hj]
    induction j with
    | zero => omega
    | succ j ih =>
      have h1 := hc (j + 1) (by omega) hj
      rw [show ((j + 1 : Nat) : Int) - 1 = (j : Int) by omega] at h1
      rcases Nat.lt_or_ge i j with h2 | h2
      · have h3 := ih (by omega) h2
        have h4 := (str_iff _).mp (hs j (by omega))
        omega
      · have : i = j := by omega
        subst this
        exact h1
theorem apart_chain {l : List S24} (h : Apart l) : (∀ n, n < l.length → strB (rd_T24 l (n : Int)) = true) ∧ ∀ n, 0 < n → n < l.length → (rd_T24 l ((n : Int) - 1)).f1 < (rd_T24 l (n : Int)).f0 := by
  refine ⟨fun n hn => ?_, fun n h0 hn => ?_⟩
  · rw [rd30_nat l n hn]
    exact h.str _ (List.getElem_mem hn)
  · rw [show (n : Int) - 1 = ((n - 1 : Nat) : Int) by omega, rd30_nat l n hn, rd30_nat l (n - 1) (by omega)]
    exact List.pairwise_iff_getElem.mp h.pw _ _ _ _ (by omega)
theorem valid_l (l : List S24) (hl : l.length ≤ 8796093022208) : ∀ (j i k : Nat), i + j = l.length → j < k →
    ∃ b, span_Valid.l0 k l (l.length : Int) (i : Int) = some b ∧ (b = true ↔ ((∀ n, i ≤ n → n < l.length → strB (rd_T24 l (n : Int)) = true) ∧ ∀ n, 0 < n → i ≤ n → n < l.length → (rd_T24 l ((n : Int) - 1)).f1 < (rd_T24 l (n : Int)).f0) ∧ l.length ≤ 1000)
  | 0, i, k + 1, hi, _ => by
    rw [span_Valid.l0, if_neg (by omega)]
    refine ⟨_, rfl, ?_⟩
    rw [decide_eq_true_eq]
    constructor
    · intro h
      exact ⟨⟨fun n h1 h2 => absurd h2 (by omega), fun n _ h1 h2 => absurd h2 (by omega)⟩, by omega⟩
    · rintro ⟨_, h⟩
      omega
  | j + 1, i, k + 1, hi, hk => by
    obtain ⟨b, e, hb⟩ := valid_l l hl j (i + 1) k (by omega) (by omega)
    rw [span_Valid.l0, if_pos (by omega), if_pos (by omega), if_pos (by omega), stretch_f, Option.bind_some]
    have w1 : wrap64 ((i : Int) + 1) = ((i + 1 : Nat) : Int) := by unfold wrap64; omega
    have hst : strB ⟨(rd_T24 l (i : Int)).f0, (rd_T24 l (i : Int)).f1⟩ = strB (rd_T24 l (i : Int)) := rfl
    rw [hst]
    by_cases hs : strB (rd_T24 l (i : Int)) = true
    · rw [if_pos hs, w1, e]
      by_cases h0 : 0 < i
      · have w2 : wrap64 ((i : Int) - 1) = (i : Int) - 1 := by unfold wrap64; omega
        rw [if_pos (by omega), w2, if_pos (by omega), if_pos (by omega)]
        by_cases hc : (rd_T24 l ((i : Int) - 1)).f1 ≥ (rd_T24 l (i : Int)).f0
        · rw [if_pos hc]
          refine ⟨_, rfl, ?_⟩
          constructor
          · intro h; exact absurd h (by simp)
          · rintro ⟨⟨_, h⟩, _⟩
            have := h i h0 (Nat.le_refl _) (by omega)
            omega
        · rw [if_neg hc]
          refine ⟨_, rfl, hb.trans ?_⟩
          constructor
          · rintro ⟨⟨h1, h2⟩, h3⟩
            refine ⟨⟨fun n hn => ?_, fun n h4 hn => ?_⟩, h3⟩
            · rcases Nat.lt_or_ge i n with h5 | h5
              · exact h1 n h5
              · have : n = i := by omega
                subst this; exact fun _ => hs
            · rcases Nat.lt_or_ge i n with h5 | h5
              · exact h2 n h4 h5
              · have : n = i := by omega
                subst this; intro _; omega
          · rintro ⟨⟨h1, h2⟩, h3⟩
            exact ⟨⟨fun n hn => h1 n (by omega), fun n h4 hn => h2 n h4 (by omega)⟩, h3⟩
      · have : i = 0 := by omega
        subst this
        rw [if_neg (by omega)]
        refine ⟨_, rfl, hb.trans ?_⟩
        constructor
        · rintro ⟨⟨h1, h2⟩, h3⟩
          refine ⟨⟨fun n hn => ?_, fun n h4 hn => h2 n h4 (by omega)⟩, h3⟩
          rcases Nat.lt_or_ge 0 n with h5 | h5
          · exact h1 n h5
          · have : n = 0 := by omega
            subst this; exact fun _ => hs
        · rintro ⟨⟨h1, h2⟩, h3⟩
          exact ⟨⟨fun n hn => h1 n (by omega), fun n h4 hn => h2 n h4 (by omega)⟩, h3⟩
    · rw [if_neg hs]
      refine ⟨_, rfl, ?_⟩
      constructor
      · intro h; exact absurd h (by simp)
      · rintro ⟨⟨h, _⟩, _⟩
        exact absurd (h i (Nat.le_refl _) (by omega)) hs
theorem valid_eq (l : List S24) (k : Nat) (hl : l.length ≤ 8796093022208) (hk : l.length < k) : span_Valid.f k l = some (tr (IsSet l)) := by
  obtain ⟨b, e, hb⟩ := valid_l l hl l.length 0 k (by omega) hk
  unfold span_Valid.f
  rw [show (0 : Int) = ((0 : Nat) : Int) from rfl, e]
  congr 1
  refine tr_eq (hb.trans ?_)
  constructor
  · rintro ⟨⟨h1, h2⟩, h3⟩
    exact ⟨chain_apart l (fun n => h1 n (Nat.zero_le _)) (fun n h => h2 n h (Nat.zero_le _)), h3⟩
  · rintro ⟨h1, h3⟩
    have := apart_chain h1
    exact ⟨⟨fun n _ => this.1 n, fun n h _ => this.2 n h⟩, h3⟩
/-- What a sweep over two sets gives. -/
def sw (kf : Bool → Bool → Bool) (a b : List S24) : List S24 := sweepL kf (endsF a b) a b []
theorem sweepO_eq (kf : Bool → Bool → Bool) (k : Nat) (a b : List S24) (ha : a.length ≤ 8796093022208) (hb : b.length ≤ 8796093022208) (ka : a.length < k) (kb : b.length < k) :
    sweepO kf k a b = some (if tr (IsSet a) = true ∧ tr (IsSet b) = true then limF (sw kf a b) else ([], 1)) := by
  unfold sweepO
  rw [valid_eq a k ha ka, Option.bind_some, valid_eq b k hb kb, Option.bind_some]
  cases tr (IsSet a) <;> cases tr (IsSet b) <;> simp [sw]
theorem lim_small {l : List S24} (h : l.length ≤ 1000) : limF l = (l, 0) := by
  unfold limF
  rw [if_neg (by omega)]
theorem norm_eq (l : List S24) (h : l.length < 8796093022208) : span_Normal.f l = some (normF l) := by
  unfold span_Normal.f
  rw [if_pos h]
end Go.Proofs.YtnkgnjklkocojaaGreatDoor.Pure

/- The law's own example of setoff. No Go and no memory in it. -/
namespace Go.Proofs.YtnkgnjklkocojaaGreatDoor.Pure
open Go.RowKit Go.Proofs.YtnkgnjklkocojaaGreatDoor.X Go.Proofs.YtnkgnjklkocojaaGreatDoorW.PrintWords
set_option linter.unusedVariables false
theorem ordP_head : ordP hdD = [1, 0, 2] := by
  refine ordP_unique hdD (by decide) [1, 0, 2] (by decide) ?_
  simp [hdD, Bef]
theorem head_pay1 : setoff_Pay.f hdD 100 = some (hdL, 0, 0) := by
  have hv : vD hdD [] = true := by decide
  have hp : payF hdD 100 = (hdL, 0) := by unfold payF; rw [ordP_head]; kernel_rfl
  unfold setoff_Pay.f
  rw [if_pos ⟨by decide, by decide⟩, if_pos ⟨hv, by decide, by decide, by decide⟩, hp]
theorem head_pay2 : setoff_Pay.f hdD (-1) = some ([], 0, 1) := by
  unfold setoff_Pay.f
  rw [if_pos ⟨by decide, by decide⟩, if_neg (by intro h; exact absurd h.2.2.1 (by decide))]
theorem head_arrears : setoff_Arrears.f 20 hdD 11 = some (530, 0) := by kernel_rfl
theorem head_meet : span_Meet.f 18 [⟨100, 465⟩] [] = some ([], 0) := by
  have h1 : span_Valid.f 18 [⟨100, 465⟩] = some true := by kernel_rfl
  have h2 : span_Valid.f 18 [] = some true := by kernel_rfl
  have h3 : sorted [100, 465] = [100, 465] := by
    unfold sorted
    exact List.mergeSort_of_pairwise (by simp)
  have h4 : endsF [⟨100, 465⟩] [] = [100, 465] := by
    have e : endsF [⟨100, 465⟩] [] = Lib.compact (sorted [100, 465]) := rfl
    have e2 : Lib.compact ([100, 465] : List Int) = [100, 465] := by kernel_rfl
    rw [e, h3, e2]
  unfold span_Meet.f sweepO
  rw [h1, Option.bind_some, if_pos rfl, h2, Option.bind_some, if_pos rfl, h4]
  show _ = _
  kernel_rfl
theorem head_interest : setoff_Interest.f 20 hdD 1000 100 465 [] = some (50, 0) := by
  have e1 : setoff_Interest.f 20 hdD 1000 100 465 [] = setoff_Interest.l0 (18 + 1) hdD 1000 [] [] 0 0 100 465 := by kernel_rfl
  have hN : span_Normal.f [] = some ([], 0) := by kernel_rfl
  rw [e1, setoff_Interest.l0, if_neg (by decide), hN, Option.bind_some, if_pos rfl, head_meet]
  show _ = _
  kernel_rfl
theorem head_plan : setoff_Plan.f 20 hdD 40 3 = some (hdP, 0) := by kernel_rfl
theorem head_plan1 : setoff_Plan.f 20 hdD 10 3 = some ([], 4) := by kernel_rfl
theorem head_ok : cohousinglaw34_head.f 20 = some true := by
  unfold cohousinglaw34_head.f
  rw [if_pos ⟨head_pay1, head_arrears, head_interest, head_plan, head_plan1, head_pay2⟩]
theorem so_in (l : List S39) (y : l.length * 32 ≤ 140737488351232) (hw : ∀ x ∈ l, (Lit.int .i64 x.f0).wf = true ∧ (Lit.int .i64 x.f1).wf = true ∧ (Lit.int .i64 x.f2).wf = true ∧ (Lit.int .i64 x.f3).wf = true) : l.length < 4398046511104 ∧ l.all (fun x => inI x.f0) = true := by
  refine ⟨by omega, List.all_eq_true.mpr (fun x hx => inI_iff.mpr ?_)⟩
  simpa [Lit.wf, IntKind.min, IntKind.max, IntKind.signed, IntKind.bits] using (hw x hx).1
theorem LeO_up {α : Type} {f : Nat → Option α} (h : ∀ k, LeO (f k) (f (k + 1))) (k : Nat) : ∀ (j : Nat) (r : α), f k = some r → f (k + j) = some r
  | 0, _, e => e
  | j + 1, r, e => h _ _ (LeO_up h k j r e)
end Go.Proofs.YtnkgnjklkocojaaGreatDoor.Pure

/- What the law's parts compute on debts, in plain words. No Go and no memory in it. -/
namespace Go.Proofs.YtnkgnjklkocojaaGreatDoor.Pure
open Go.RowKit Go.Proofs.YtnkgnjklkocojaaGreatDoor.X Go.Proofs.YtnkgnjklkocojaaGreatDoorW.PrintWords
set_option linter.unusedVariables false
theorem wrapUp (i : Nat) (h : i ≤ 1000000) : wrap64 ((i : Int) + 1) = ((i + 1 : Nat) : Int) := by unfold wrap64; omega
theorem in_debts {l : List S39} (h : Debts l) : l.length < 4398046511104 ∧ l.all (fun x => inI x.f0) = true :=
  ⟨by have := h.len; omega, List.all_eq_true.mpr (fun x hx => inI_iff.mpr (by have := (dOk_iff x).mp (h.ok x hx); omega))⟩
theorem head_true (k : Nat) : cohousinglaw34_head.f (20 + k) = some true := LeO_up cohousinglaw34_head.mono 20 k true head_ok
end Go.Proofs.YtnkgnjklkocojaaGreatDoor.Pure

/- Two lists of debts are compared. No Go and no memory in it. -/
namespace Go.Proofs.YtnkgnjklkocojaaGreatDoor.Pure
open Go.RowKit Go.Proofs.YtnkgnjklkocojaaGreatDoor.X Go.Proofs.YtnkgnjklkocojaaGreatDoorW.PrintWords
set_option linter.unusedVariables false
theorem same_loop (l : List S39) (h : l.length ≤ 1000000) : ∀ (j i k : Nat), i + j = l.length → j < k → cohousingref34_Same.l0 k l l (i : Int) = some true := by
  intro j
  induction j with
  | zero =>
    intro i k hi hk
    obtain ⟨k, rfl⟩ : ∃ n, k = n + 1 := ⟨k - 1, by omega⟩
    rw [cohousingref34_Same.l0, if_neg (by omega)]
  | succ j ih =>
    intro i k hi hk
    obtain ⟨k, rfl⟩ : ∃ n, k = n + 1 := ⟨k - 1, by omega⟩
    rw [cohousingref34_Same.l0, if_pos (by omega), if_pos (by omega), if_pos (by omega), if_neg (by simp), wrapUp i (by omega)]
    exact ih (i + 1) k (by omega) (by omega)
theorem same_self (l : List S39) (h : l.length ≤ 1000000) (k : Nat) (hk : l.length < k) : cohousingref34_Same.f k l l = some true := by
  unfold cohousingref34_Same.f
  rw [if_pos rfl]
  exact same_loop l h l.length 0 k (by omega) hk
end Go.Proofs.YtnkgnjklkocojaaGreatDoor.Pure

/- What a payment leaves of each debt, told without steps: what is left behind those before it. No Go and no memory in it. -/
namespace Go.Proofs.YtnkgnjklkocojaaGreatDoor.Pure
open Go.RowKit Go.Proofs.YtnkgnjklkocojaaGreatDoor.X Go.Proofs.YtnkgnjklkocojaaGreatDoorW.PrintWords
set_option linter.unusedVariables false
theorem sumO_cons (x : S39) (l : List S39) : sumO (x :: l) = x.f3 + sumO l := rfl
theorem sumO_low : ∀ (l : List S39), (∀ x ∈ l, 0 ≤ x.f3) → 0 ≤ sumO l
  | [], _ => Int.le_refl _
  | x :: l, h => by
    have h1 := sumO_low l (fun y hy => h y (List.mem_cons_of_mem _ hy))
    have h2 := h x List.mem_cons_self
    rw [sumO_cons]
    omega
/-- What is not below nought. -/
def pos (x : Int) : Int := if x < 0 then 0 else x
instance (x y : S39) : Decidable (Bef x y) := by unfold Bef; exact inferInstance
/-- What is open of all debts before one. -/
def ahead (l : List S39) (x : S39) : Int := sumO (l.filter (fun y => decide (Bef y x)))
def at_ (l : List S39) (os : List Nat) : List S39 := os.map (fun i => l.getD i z39)
end Go.Proofs.YtnkgnjklkocojaaGreatDoor.Pure

/- Sets of days: how many stretches and days they have. No Go and no memory in it. -/
namespace Go.Proofs.YtnkgnjklkocojaaGreatDoor.Pure
open Go.RowKit Go.Proofs.YtnkgnjklkocojaaGreatDoor.X Go.Proofs.YtnkgnjklkocojaaGreatDoorW.PrintWords
theorem sw_ap (kf : Bool → Bool → Bool) (h0 : kf false false = false) (a b : List S24) (ha : Apart a) (hb : Apart b) : Apart (sw kf a b) ∧ ∀ d, mem (sw kf a b) d = kf (mem a d) (mem b d) := sweep_fact kf h0 a b ha hb
theorem nodup_sub : ∀ (l m : List Int), l.Nodup → (∀ x ∈ l, x ∈ m) → l.length ≤ m.length
  | [], _, _, _ => Nat.zero_le _
  | x :: l, m, h, hs => by
    obtain ⟨h1, h2⟩ := List.nodup_cons.mp h
    have hx := hs x List.mem_cons_self
    have ih := nodup_sub l (m.erase x) h2 (fun y hy => (List.mem_erase_of_ne (fun e => h1 (by rw [← e]; exact hy))).mpr (hs y (List.mem_cons_of_mem _ hy)))
    rw [List.length_erase_of_mem hx] at ih
    have : 0 < m.length := List.length_pos_of_mem hx
    rw [List.length_cons]
    omega
theorem Apart.pre : ∀ {l : List S24}, Apart l → ∀ s ∈ l, mem l (s.f0 - 1) = false
  | [], _, s, hs => by simp at hs
  | t :: l, h, s, hs => by
    cases hm : mem (t :: l) (s.f0 - 1) with
    | false => rfl
    | true =>
      exfalso
      rcases List.mem_cons.mp hs with rfl | hs
      · have := h.low _ hm
        omega
      · have ih := h.tail.pre s hs
        rw [mem_cons, ih, Bool.or_false] at hm
        have h1 := (in_iff _ _).mp hm
        have h2 := h.head.2 s hs
        omega
theorem Apart.at_ {l : List S24} (h : Apart l) (s : S24) (hs : s ∈ l) : mem l s.f0 = true :=
  (mem_iff _ _).mpr ⟨s, hs, Int.le_refl _, ((str_iff s).mp (h.str s hs)).2.1⟩
theorem on_at (l : List S24) (x : Int) (h1 : mem l x = true) (h2 : mem l (x - 1) = false) : x ∈ l.map (·.f0) := by
  obtain ⟨s, hs, h3, h4⟩ := (mem_iff _ _).mp h1
  refine List.mem_map.mpr ⟨s, hs, ?_⟩
  apply Classical.byContradiction
  intro h5
  have : mem l (x - 1) = true := (mem_iff _ _).mpr ⟨s, hs, by omega, by omega⟩
  rw [h2] at this
  exact absurd this (by simp)
theorem Apart.nodup {l : List S24} (h : Apart l) : (l.map (·.f0)).Nodup := by
  unfold List.Nodup
  rw [List.pairwise_map]
  refine List.Pairwise.imp_of_mem ?_ h.pw
  intro a b ha hb hab
  have := (str_iff a).mp (h.str a ha)
  omega
theorem count_le (m a b : List S24) (hm : Apart m) (z : List Int) (hz : z.length = b.length)
    (h : ∀ x, mem m x = true → mem m (x - 1) = false → x ∈ a.map (·.f0) ++ z) : m.length ≤ a.length + b.length := by
  have := nodup_sub (m.map (·.f0)) (a.map (·.f0) ++ z) hm.nodup (fun x hx => by
    obtain ⟨s, hs, rfl⟩ := List.mem_map.mp hx
    exact h _ (hm.at_ s hs) (hm.pre s hs))
  rw [List.length_map, List.length_append, List.length_map, hz] at this
  exact this
theorem and_len (a b : List S24) (ha : Apart a) (hb : Apart b) : (sw (fun x y => x && y) a b).length ≤ a.length + b.length := by
  obtain ⟨h1, h2⟩ := sw_ap (fun x y => x && y) rfl a b ha hb
  refine count_le _ a b h1 (b.map (·.f0)) (by simp) fun x hx hy => ?_
  rw [h2] at hx hy
  obtain ⟨hx1, hx2⟩ := (Bool.and_eq_true _ _).mp hx
  cases h3 : mem a (x - 1) with
  | false => exact List.mem_append_left _ (on_at a x hx1 h3)
  | true =>
    rw [h3] at hy
    exact List.mem_append_right _ (on_at b x hx2 hy)
/-- How many days. -/
def sumL : List S24 → Int
  | [] => 0
  | s :: l => s.f1 - s.f0 + sumL l
theorem sum_l (l : List S24) (h : IsSet l) : ∀ (j i k : Nat) (x : Int), i + j = l.length → j < k → 0 ≤ x → x ≤ 36525 * (i : Int) → span_Count.l0 k x l (l.length : Int) (i : Int) = some (x + sumL (l.drop i), 0)
  | 0, i, k + 1, x, hi, _, _, _ => by rw [span_Count.l0, if_neg (by omega), List.drop_eq_nil_of_le (by omega), sumL, Int.add_zero]
  | j + 1, i, k + 1, x, hi, hk, h0, h1 => by
    have hl := h.2
    have w1 : wrap64 ((i : Int) + 1) = ((i + 1 : Nat) : Int) := by unfold wrap64; omega
    have hs := (str_iff _).mp ((apart_chain h.1).1 i (by omega))
    have w2 : wrap64 ((rd_T24 l (i : Int)).f1 - (rd_T24 l (i : Int)).f0) = (rd_T24 l (i : Int)).f1 - (rd_T24 l (i : Int)).f0 := by clear w1; unfold wrap64; omega
    have w3 : wrap64 (x + ((rd_T24 l (i : Int)).f1 - (rd_T24 l (i : Int)).f0)) = x + ((rd_T24 l (i : Int)).f1 - (rd_T24 l (i : Int)).f0) := by clear w1 w2; unfold wrap64; omega
    rw [span_Count.l0, if_pos (by clear w1 w2 w3; omega), if_pos (by clear w1 w2 w3; omega), if_pos (by clear w1 w2 w3; omega), w1, w2, w3, sum_l l h j (i + 1) k _ (by clear w1 w2 w3; omega) (by clear w1 w2 w3; omega) (by clear w1 w2 w3; omega) (by clear w1 w2 w3; omega), drop_one l i (by clear w1 w2 w3; omega), sumL, Int.add_assoc]
theorem sum_eq (l : List S24) (k : Nat) (hk : l.length < k) (h : IsSet l) : span_Count.f k l = some (sumL l, 0) := by
  have := h.2
  unfold span_Count.f
  rw [valid_eq l k (by omega) hk, Option.bind_some, tr_of h, if_pos rfl]
  have := sum_l l h l.length 0 k 0 (by omega) hk (by omega) (by omega)
  rw [Int.zero_add] at this
  exact this
theorem count_in (a b : Nat) (hab : a ≤ b) : ∀ n, b ≤ n → (List.range n).countP (fun d => decide (a ≤ d) && decide (d < b)) = b - a
  | 0, h => by
    have : b = 0 := by omega
    subst this
    simp
  | n + 1, h => by
    rw [List.range_succ, List.countP_append, List.countP_singleton]
    rcases Nat.lt_or_ge n b with h1 | h1
    · have hb : b = n + 1 := by omega
      have low : (List.range n).countP (fun d => decide (a ≤ d) && decide (d < b)) = n - a := by
        rcases Nat.lt_or_ge n a with h2 | h2
        · have : (List.range n).countP (fun d => decide (a ≤ d) && decide (d < b)) = 0 := by
            rw [List.countP_eq_zero]
            intro d hd
            have := List.mem_range.mp hd
            simp
            omega
          omega
        · have e : (List.range n).countP (fun d => decide (a ≤ d) && decide (d < b)) = (List.range n).countP (fun d => decide (a ≤ d) && decide (d < n)) := by
            refine List.countP_congr fun d hd => ?_
            have := List.mem_range.mp hd
            simp
            omega
          rw [e, count_in a n h2 n (Nat.le_refl _)]
      rw [low]
      by_cases h3 : a ≤ n
      · rw [if_pos (by simp; omega)]; omega
      · rw [if_neg (by simp; omega)]; omega
    · rw [count_in a b hab n h1, if_neg (by simp; omega)]
      omega
/-- The days of the calendar that a set has. -/
def daysN (l : List S24) : Nat := (List.range 36525).countP (fun d : Nat => mem l (d : Int))
theorem sum_days : ∀ (l : List S24), Apart l → sumL l = (daysN l : Int)
  | [], _ => by
    have : daysN [] = 0 := by
      unfold daysN
      rw [List.countP_eq_zero]
      intro d _
      simp [mem]
    rw [this]; rfl
  | s :: l, h => by
    have hs := h.head.1
    have ih := sum_days l h.tail
    have e : daysN (s :: l) = (List.range 36525).countP (fun d => decide (s.f0.toNat ≤ d) && decide (d < s.f1.toNat)) + daysN l := by
      unfold daysN
      have : ∀ m : List Nat, m.countP (fun d : Nat => mem (s :: l) (d : Int)) = m.countP (fun d => decide (s.f0.toNat ≤ d) && decide (d < s.f1.toNat)) + m.countP (fun d : Nat => mem l (d : Int)) := by
        intro m
        induction m with
        | nil => rfl
        | cons d m ihm =>
          rw [List.countP_cons, List.countP_cons, List.countP_cons, ihm]
          have hd : dayIn (d : Int) s = (decide (s.f0.toNat ≤ d) && decide (d < s.f1.toNat)) := by
            rw [Bool.eq_iff_iff, in_iff, Bool.and_eq_true, decide_eq_true_eq, decide_eq_true_eq]
            omega
          rw [mem_cons, hd]
          have h4 : (decide (s.f0.toNat ≤ d) && decide (d < s.f1.toNat)) = true → mem l (d : Int) = false := by
            intro h1
            cases h3 : mem l (d : Int) with
            | false => rfl
            | true =>
              have := h.gap _ h3
              simp at h1
              omega
          clear hd ihm
          revert h4
          generalize (decide (s.f0.toNat ≤ d) && decide (d < s.f1.toNat)) = b1
          generalize mem l (d : Int) = b2
          intro h4
          cases b1 <;> cases b2 <;> simp at h4 ⊢ <;> omega
      exact this _
    rw [e, count_in s.f0.toNat s.f1.toNat (by omega) 36525 (by omega), sumL, ih]
    omega
theorem days_of (l : List S24) (p : Int → Bool) (h : ∀ d, mem l d = p d) : daysN l = (List.range 36525).countP (fun d : Nat => p (d : Int)) := by
  unfold daysN
  congr 1
  funext d
  exact h _
end Go.Proofs.YtnkgnjklkocojaaGreatDoor.Pure

/- What interest on arrears is: in closed form, over numbers and lists. No Go and no memory in it. -/
namespace Go.Proofs.YtnkgnjklkocojaaGreatDoor.Pure
open Go.RowKit Go.Proofs.YtnkgnjklkocojaaGreatDoor.X Go.Proofs.YtnkgnjklkocojaaGreatDoorW.PrintWords
set_option linter.unusedVariables false
theorem rdDebt (l : List S39) (i : Nat) (h : i < l.length) : rd_T39 l (i : Int) = l[i] := by simp [rd_T39, List.getD_eq_getElem?_getD, h]
theorem rdPause (l : List S46) (i : Nat) (h : i < l.length) : rd_T46 l (i : Int) = l[i] := by simp [rd_T46, List.getD_eq_getElem?_getD, h]
theorem upI (i : Nat) (h : i ≤ 1000000) : wrap64 ((i : Int) + 1) = ((i + 1 : Nat) : Int) := by unfold wrap64; omega
theorem betw (n a b : Int) : setoff_between.f n a b = some (decide (a ≤ n ∧ n ≤ b)) := by
  unfold setoff_between.f
  split
  · rename_i h
    congr 1
    exact decide_eq_decide.mpr ⟨fun q => ⟨h, q⟩, fun q => q.2⟩
  · rename_i h
    congr 1
    exact (decide_eq_false (fun q => h q.1)).symm
theorem in_debts0 {l : List S39} (h : Debts l) : l.length < 4398046511104 ∧ l.all (fun x => inI x.f0) = true :=
  ⟨by have := h.len; omega, List.all_eq_true.mpr (fun x hx => inI_iff.mpr (by have := (dOk_iff x).mp (h.ok x hx); omega))⟩
/-- What is open of the arrears of charges before a day. -/
def arr (l : List S39) (d : Int) : Int := sumO (l.filter (lateB d [3]))
theorem open_loop (l : List S39) (hl : l.length ≤ 100) (hb : ∀ x ∈ l, 0 ≤ x.f3 ∧ x.f3 ≤ 1000000000) : ∀ (j i k : Nat) (s : Int), i + j = l.length → j < k → 0 ≤ s → s ≤ (i : Int) * 1000000000 →
    setoff_open.l0 k s l (l.length : Int) (i : Int) = some (s + sumO (l.drop i), decide (s + sumO (l.drop i) ≤ 1000000000)) := by
  intro j
  induction j with
  | zero =>
    intro i k s hi hk h0 h1
    obtain ⟨k, rfl⟩ : ∃ n, k = n + 1 := ⟨k - 1, by omega⟩
    rw [setoff_open.l0, if_neg (by omega), List.drop_of_length_le (by omega)]
    show some (s, decide (s ≤ 1000000000)) = some (s + 0, decide (s + 0 ≤ 1000000000))
    rw [Int.add_zero]
  | succ j ih =>
    intro i k s hi hk h0 h1
    obtain ⟨k, rfl⟩ : ∃ n, k = n + 1 := ⟨k - 1, by omega⟩
    have hil : i < l.length := by omega
    have b := hb l[i] (List.getElem_mem hil)
    rw [setoff_open.l0, if_pos (by omega), if_pos (by omega), if_pos (by omega), rdDebt l i hil, wrapIn (s + l[i].f3) (by omega), upI i (by omega), ih (i + 1) k _ (by omega) (by omega) (by omega) (by omega), List.drop_eq_getElem_cons hil, sumO_cons, Int.add_assoc]
theorem open_f (l : List S39) (hl : l.length ≤ 100) (hb : ∀ x ∈ l, 0 ≤ x.f3 ∧ x.f3 ≤ 1000000000) (k : Nat) (hk : l.length < k) : setoff_open.f k l = some (sumO l, decide (sumO l ≤ 1000000000)) := by
  unfold setoff_open.f
  have := open_loop l hl hb l.length 0 k 0 (by omega) hk (Int.le_refl _) (by omega)
  rw [List.drop_zero, Int.zero_add] at this
  exact this
/-- Interest on an amount: the product is the rate times the days. -/
def intQ (c x : Int) : Int := (2 * (c * x) + 3650000) / 7300000
theorem amt_v (a : Int) : money_amount_valid.f a = some (decide (-1000000000 ≤ a ∧ a ≤ 1000000000)) := by
  unfold money_amount_valid.f
  split
  · rename_i h
    congr 1
    exact decide_eq_decide.mpr ⟨fun q => ⟨h, q⟩, fun q => q.2⟩
  · rename_i h
    congr 1
    exact (decide_eq_false (fun q => h q.1)).symm
theorem size_n (n : Nat) (h : n ≤ 1000000000) : rational_size.f (n : Int) = some (n : Int) := by
  unfold rational_size.f
  rw [if_neg (by omega)]
  congr 1
  simp only [IntKind.wrap_u64]
  omega
theorem rat_valid (n d : Nat) (hn : n ≤ 1000000000) (hd : 1 ≤ d) (hd1 : d ≤ 1000000000) (hg : Nat.gcd n d = 1) : rational_Valid.f (n : Int) (d : Int) = some true := by
  unfold rational_Valid.f
  rw [if_pos (by omega), if_pos (by omega), if_pos (by omega), if_pos (by omega), size_n n hn, size_n d hd1, Option.bind_some, Option.bind_some]
  unfold rational_common.f
  rw [if_pos (by omega), Option.bind_some]
  have : (Int.gcd (n : Int) (d : Int) : Int) = 1 := by
    show ((Nat.gcd n d : Nat) : Int) = 1
    rw [hg]
    rfl
  rw [this]
  rfl
theorem wrN (x : Int) (n : Nat) (e : x = n) (h : n ≤ 9223372036854775807) : wrap64 x = (n : Int) := by rw [wrapIn x (by omega), e]
/-- The amount times the reduced fraction, rounded. -/
theorem scale_n (k c n d : Nat) (hk : 0 < k) (hc : c ≤ 1000000000) (hn : n ≤ 400000000) (hd : 1 ≤ d) (hd1 : d ≤ 3650000) (hg : Nat.gcd n d = 1) :
    money_Scale.f k (c : Int) (n : Int) (d : Int) = some (if (2 * (c * n) + d) / (2 * d) ≤ 1000000000 then ((((2 * (c * n) + d) / (2 * d) : Nat) : Int), 0) else (0, 3)) := by
  obtain ⟨k, rfl⟩ : ∃ m, k = m + 1 := ⟨k - 1, by omega⟩
  unfold money_Scale.f
  rw [amt_v, Option.bind_some, decide_eq_true (by omega), if_pos rfl, rat_valid n d (by omega) hd (by omega) hg, Option.bind_some, money_Scale.j0, if_neg (by decide)]
  have hp : c * n ≤ 1000000000 * 400000000 := Nat.mul_le_mul hc hn
  have e1 : (c : Int) * (n : Int) = ((c * n : Nat) : Int) := by rw [Int.natCast_mul]
  rw [e1]
  generalize c * n = p at hp
  rw [wrN (p : Int) p rfl (by omega), if_neg (by omega), wrN (2 * (d : Int)) (2 * d) (by omega) (by omega), if_neg (by omega), wrN (2 * (p : Int)) (2 * p) (by omega) (by omega), wrN (((2 * p : Nat) : Int) + (d : Int)) (2 * p + d) (by omega) (by omega), ← Int.ofNat_tdiv]
  have hq : (2 * p + d) / (2 * d) ≤ 2 * p + d := Nat.div_le_self _ _
  generalize (2 * p + d) / (2 * d) = q at hq
  rw [wrN (q : Int) q rfl (by omega), amt_v, Option.bind_some]
  by_cases hle : q ≤ 1000000000
  · rw [decide_eq_true (by omega), if_pos rfl, if_pos hle]
  · rw [decide_eq_false (by omega), if_neg (by decide), if_neg hle]
theorem make_n (x : Nat) (hx : x ≤ 400000000) : rational_Make.f (x : Int) 3650000 = some (((x / Nat.gcd x 3650000 : Nat) : Int), ((3650000 / Nat.gcd x 3650000 : Nat) : Int), 0) := by
  have e1 : ((x : Int)).natAbs = x := Int.natAbs_natCast x
  have e2 : ((3650000 : Int)).natAbs = 3650000 := rfl
  have b1 : x / Nat.gcd x 3650000 ≤ x := Nat.div_le_self _ _
  have b2 : 3650000 / Nat.gcd x 3650000 ≤ 3650000 := Nat.div_le_self _ _
  unfold rational_Make.f
  rw [if_pos (by unfold inI64; omega)]
  unfold ratMk
  rw [if_neg (by decide), e1, e2, if_neg (by omega)]
  have hneg : (decide ((x : Int) < 0) != decide ((3650000 : Int) < 0)) = false := by rw [decide_eq_false (show ¬ (x : Int) < 0 by omega)]; rfl
  rw [hneg, if_neg (by decide)]
theorem made_scale (k c x : Nat) (hk : 0 < k) (hc : c ≤ 1000000000) (hx : x ≤ 400000000) :
    ((rational_Make.f (x : Int) 3650000).bind fun bt180 => ((money_Scale.f k (c : Int) bt180.1 bt180.2.1).bind fun bt184 => some (bt184.1, bt184.2))) = some (if intQ c x ≤ 1000000000 then (intQ c x, 0) else (0, 3)) := by
  rw [make_n x hx, Option.bind_some]
  dsimp only
  have hg0 : 0 < Nat.gcd x 3650000 := Nat.gcd_pos_of_pos_right _ (by decide)
  have b1 : x / Nat.gcd x 3650000 ≤ x := Nat.div_le_self _ _
  have b2 : 3650000 / Nat.gcd x 3650000 ≤ 3650000 := Nat.div_le_self _ _
  have hd : Nat.gcd x 3650000 ∣ 3650000 := Nat.gcd_dvd_right _ _
  have hn : Nat.gcd x 3650000 ∣ x := Nat.gcd_dvd_left _ _
  have b3 : 1 ≤ 3650000 / Nat.gcd x 3650000 := Nat.div_pos (Nat.le_of_dvd (by decide) hd) hg0
  rw [scale_n k c _ _ hk hc (by omega) b3 b2 (by rw [Nat.gcd_div hn hd]; exact Nat.div_self hg0), Option.bind_some]
  have hq : (((2 * (c * (x / Nat.gcd x 3650000)) + 3650000 / Nat.gcd x 3650000) / (2 * (3650000 / Nat.gcd x 3650000)) : Nat) : Int) = intQ c x := by
    obtain ⟨p, hp⟩ := hn
    obtain ⟨q, hq⟩ := hd
    generalize Nat.gcd x 3650000 = g at *
    have ep : x / g = p := by rw [hp]; exact Nat.mul_div_cancel_left _ hg0
    have eq : 3650000 / g = q := by rw [hq]; exact Nat.mul_div_cancel_left _ hg0
    rw [ep, eq]
    have e1 : (2 * (c * p) + q) / (2 * q) = ((2 * (c * p) + q) * g) / (2 * q * g) := (Nat.mul_div_mul_right _ _ hg0).symm
    have e2 : (2 * (c * p) + q) * g = 2 * (c * x) + 3650000 := by rw [hp, hq, Nat.add_mul, Nat.mul_assoc, Nat.mul_assoc, Nat.mul_comm p g, Nat.mul_comm q g]
    have e3 : 2 * q * g = 7300000 := by rw [Nat.mul_assoc, Nat.mul_comm q g, ← hq]
    rw [e1, e2, e3]
    unfold intQ
    rw [Int.natCast_ediv, Int.natCast_add, Int.natCast_mul, Int.natCast_mul]
    rfl
  have hq2 : (2 * (c * (x / Nat.gcd x 3650000)) + 3650000 / Nat.gcd x 3650000) / (2 * (3650000 / Nat.gcd x 3650000)) ≤ 1000000000 ↔ intQ c x ≤ 1000000000 := by omega
  rw [hq]
  by_cases h : intQ c x ≤ 1000000000
  · rw [if_pos (hq2.mpr h), if_pos h]
  · rw [if_neg (fun q => h (hq2.mp q)), if_neg h]
/-! ### the days that pauses take away -/
/-- How many days of a stretch belong to pauses. -/
def cov (a b : Int) (o : List S24) : Int := ((List.range 36525).countP (fun d : Nat => (decide (a ≤ (d : Int)) && decide ((d : Int) < b)) && mem o (d : Int)) : Nat)
theorem one_set (a b : Int) (h : strB ⟨a, b⟩ = true) : IsSet [⟨a, b⟩] := ⟨⟨by intro s hs; rw [List.mem_singleton.mp hs]; exact h, by simp⟩, by simp⟩
theorem addF_len (out : List S24) (s : S24) : (addF out s).length ≤ out.length + 1 := by
  rcases List.eq_nil_or_concat out with rfl | ⟨o, t, rfl⟩
  · rw [addF_nil]; simp
  · rw [List.concat_eq_append, addF_snoc]
    split <;> simp
theorem fold_l : ∀ (l out : List S24), (l.foldl addF out).length ≤ out.length + l.length
  | [], out => by simp
  | s :: l, out => by
    have := fold_l l (addF out s)
    have := addF_len out s
    rw [List.foldl_cons, List.length_cons]
    omega
theorem normL_len (l : List S24) : (normL l).length ≤ l.length := by
  have := fold_l (sorted30 l) []
  have e := (sorted30_perm l).1.length_eq
  unfold normL
  simp only [List.length_nil] at this
  omega
theorem norm_yes (o : List S24) (ho : o.length ≤ 1000) (h : o.all strB = true) : normF o = (normL o, 0) ∧ IsSet (normL o) ∧ ∀ d, mem (normL o) d = mem o d := by
  have hl := normL_len o
  obtain ⟨a1, a2⟩ := norm_ok o (List.all_eq_true.mp h)
  refine ⟨?_, ⟨a1, by omega⟩, a2⟩
  rw [normF_eq, if_pos h]
  exact lim_small (by omega)
theorem norm_no (o : List S24) (h : ¬ o.all strB = true) : normF o = ([], 1) := by
  rw [normF_eq, if_neg h]
theorem meet_f (k : Nat) (hk : 2000 < k) (a b : Int) (o : List S24) (hs : strB ⟨a, b⟩ = true) (ho : o.length ≤ 900) (h : o.all strB = true) : ∃ m, span_Meet.f k [⟨a, b⟩] (normL o) = some (m, 0) ∧ span_Count.f k m = some (cov a b o, 0) := by
  obtain ⟨_, hn, hm⟩ := norm_yes o (by omega) h
  have h1 := one_set a b hs
  have hl := normL_len o
  obtain ⟨ap, am⟩ := sw_ap (fun x y => x && y) rfl [⟨a, b⟩] (normL o) h1.1 hn.1
  have hlen := and_len [⟨a, b⟩] (normL o) h1.1 hn.1
  generalize hw : sw (fun x y => x && y) [⟨a, b⟩] (normL o) = m at ap am hlen
  have hlen1 : m.length ≤ 901 := by
    have : ([⟨a, b⟩] : List S24).length = 1 := rfl
    omega
  refine ⟨m, ?_, ?_⟩
  · unfold span_Meet.f
    rw [sweepO_eq _ k _ _ (by simp) (by omega) (by simp; omega) (by omega), if_pos ⟨tr_of h1, tr_of hn⟩, hw, lim_small (by omega)]
  · rw [sum_eq m k (by omega) ⟨ap, by omega⟩, sum_days m ap, days_of m (fun d => (decide (a ≤ d) && decide (d < b)) && mem o d)]
    · rfl
    · intro d
      rw [am, hm]
      simp [mem, dayIn]
theorem cov_bound (a b : Int) (o : List S24) (hs : strB ⟨a, b⟩ = true) : 0 ≤ cov a b o ∧ cov a b o ≤ b - a := by
  obtain ⟨h0, h1, h2⟩ := (str_iff _).mp hs
  simp only at h0 h1 h2
  refine ⟨by unfold cov; omega, ?_⟩
  have e := count_in a.toNat b.toNat (by omega) 36525 (by omega)
  have : (List.range 36525).countP (fun d : Nat => (decide (a ≤ (d : Int)) && decide ((d : Int) < b)) && mem o (d : Int)) ≤ (List.range 36525).countP (fun d => decide (a.toNat ≤ d) && decide (d < b.toNat)) := by
    refine List.countP_mono_left (fun d _ hd => ?_)
    simp at hd ⊢
    omega
  unfold cov
  omega
/-! ### the whole -/
def kindOk (p : S46) : Bool := decide (1 ≤ p.f0 ∧ p.f0 ≤ 2)
/-- What is asked of the arguments. -/
structure Right (l : List S39) (rate a b : Int) (ps : List S46) : Prop where
  deb : Debts l
  rate0 : 0 ≤ rate
  rate1 : rate ≤ 10000
  str : strB ⟨a, b⟩ = true
  kinds : ps.all kindOk = true
  offs : (ps.map (·.f1)).all strB = true
/-- The answer. -/
def resI (c x : Int) : Int × Int := if c ≤ 1000000000 then (if intQ c x ≤ 1000000000 then (intQ c x, 0) else (0, 3)) else (0, 3)
theorem arr_low {l : List S39} (h : Debts l) (d : Int) : 0 ≤ arr l d := by
  refine sumO_low _ (fun x hx => ?_)
  exact ((dOk_iff x).mp (h.ok x (List.mem_filter.mp hx).1)).2.2.2.1
theorem int_end (k : Nat) (hk : 2000 < k) (l : List S39) (rate a b : Int) (o : List S24) (hd : Debts l) (h0 : 0 ≤ rate) (h1 : rate ≤ 10000) (hs : strB ⟨a, b⟩ = true) (ho : o.length ≤ 900) :
    ((span_Normal.f o).bind fun bt156 => (if bt156.2 = 0 then ((span_Meet.f k (([(⟨a, b⟩ : S24)] : List (S24))) bt156.1).bind fun bt163 => ((span_Count.f k bt163.1).bind fun bt167 => ((setoff_late.f l a (([3] : List Int))).bind fun bt172 => ((setoff_open.f k bt172.1).bind fun bt178 => (if bt178.2 = true then ((rational_Make.f (wrap64 (rate * (wrap64 ((wrap64 (b - a)) - bt167.1)))) 3650000).bind fun bt180 => ((money_Scale.f k bt178.1 bt180.1 bt180.2.1).bind fun bt184 => (some (bt184.1, bt184.2)))) else (some (0, 3))))))) else (some (0, 1))))
      = some (if o.all strB = true then resI (arr l a) (rate * (b - a - cov a b o)) else (0, 1)) := by
  rw [norm_eq o (by omega), Option.bind_some]
  by_cases h : o.all strB = true
  · rw [(norm_yes o (by omega) h).1, if_pos rfl, if_pos h]
    dsimp only
    obtain ⟨m, e1, e2⟩ := meet_f k hk a b o hs ho h
    rw [e1, Option.bind_some]
    dsimp only
    rw [e2, Option.bind_some]
    dsimp only
    unfold setoff_late.f
    have hl := hd.len
    rw [if_pos ⟨by omega, by simp⟩, Option.bind_some]
    dsimp only
    have hb : ∀ x ∈ l.filter (lateB a [3]), 0 ≤ x.f3 ∧ x.f3 ≤ 1000000000 := fun x hx => ((dOk_iff x).mp (hd.ok x (List.mem_filter.mp hx).1)).2.2.2
    have hfl := List.length_filter_le (lateB a [3]) l
    rw [open_f _ (by omega) hb k (by omega), Option.bind_some]
    dsimp only
    have al := arr_low hd a
    obtain ⟨q0, q1, q2⟩ := (str_iff _).mp hs
    simp only at q0 q1 q2
    obtain ⟨c0, c1⟩ := cov_bound a b o hs
    have hx0 : 0 ≤ rate * (b - a - cov a b o) := Int.mul_nonneg h0 (by omega)
    have hx1 : rate * (b - a - cov a b o) ≤ 10000 * 36525 := Int.mul_le_mul h1 (by omega) (by omega) (by omega)
    have w : wrap64 (rate * (wrap64 ((wrap64 (b - a)) - cov a b o))) = rate * (b - a - cov a b o) := by
      rw [wrapIn (b - a) (by omega), wrapIn (b - a - cov a b o) (by omega), wrapIn (rate * (b - a - cov a b o)) (by omega)]
    rw [w]
    clear w
    generalize rate * (b - a - cov a b o) = X at hx0 hx1
    have ea : sumO (l.filter (lateB a [3])) = arr l a := rfl
    rw [ea]
    generalize arr l a = C at al
    unfold resI
    by_cases hc : C ≤ 1000000000
    · rw [decide_eq_true hc, if_pos rfl, if_pos hc]
      obtain ⟨c, rfl⟩ := Int.eq_ofNat_of_zero_le al
      obtain ⟨x, rfl⟩ := Int.eq_ofNat_of_zero_le hx0
      exact made_scale k c x (by omega) (by omega) (by omega)
    · rw [decide_eq_false hc, if_neg (by decide), if_neg hc]
  · rw [norm_no o h, if_neg (by decide), if_neg h]
theorem int_loop (l : List S39) (rate a b : Int) (ps : List S46) (hps : ps.length ≤ 900) (hd : Debts l) (h0 : 0 ≤ rate) (h1 : rate ≤ 10000) (hs : strB ⟨a, b⟩ = true) : ∀ (j i k : Nat), i + j = ps.length → j + 2001 < k →
    setoff_Interest.l0 k l rate ((ps.take i).map (·.f1)) ps (ps.length : Int) (i : Int) a b = some (if (ps.drop i).all kindOk = true then (if (ps.map (·.f1)).all strB = true then resI (arr l a) (rate * (b - a - cov a b (ps.map (·.f1)))) else (0, 1)) else (0, 1)) := by
  intro j
  induction j with
  | zero =>
    intro i k hi hk
    obtain ⟨k, rfl⟩ : ∃ n, k = n + 1 := ⟨k - 1, by omega⟩
    rw [setoff_Interest.l0, if_neg (by omega), List.take_of_length_le (show ps.length ≤ i by omega), int_end k (by omega) l rate a b _ hd h0 h1 hs (by simpa using hps), List.drop_of_length_le (show ps.length ≤ i by omega), if_pos (show ([] : List S46).all kindOk = true from rfl)]
  | succ j ih =>
    intro i k hi hk
    obtain ⟨k, rfl⟩ : ∃ n, k = n + 1 := ⟨k - 1, by omega⟩
    have hil : i < ps.length := by omega
    rw [setoff_Interest.l0, if_pos (by omega), if_pos (by omega), if_pos (by omega), rdPause ps i hil, betw, Option.bind_some, List.drop_eq_getElem_cons hil, List.all_cons]
    by_cases hk1 : 1 ≤ ps[i].f0 ∧ ps[i].f0 ≤ 2
    · have e : (ps.take i).map (·.f1) ++ [(⟨ps[i].f1.f0, ps[i].f1.f1⟩ : S24)] = (ps.take (i + 1)).map (·.f1) := by
        rw [List.take_succ_eq_append_getElem hil, List.map_append]
        rfl
      have ek : kindOk ps[i] = true := decide_eq_true hk1
      have hlen : ((ps.take i).map (·.f1)).length ≤ 900 := by rw [List.length_map, List.length_take]; omega
      rw [decide_eq_true hk1, if_pos rfl, if_pos (by omega), upI i (by omega), e, ih (i + 1) k (by omega) (by omega), ek, Bool.true_and]
    · have ek : kindOk ps[i] = false := decide_eq_false hk1
      rw [decide_eq_false hk1, if_neg (by decide), ek, Bool.false_and, if_neg (by decide)]
theorem int_yes (k : Nat) (hk : 4000 < k) {l : List S39} {rate a b : Int} {ps : List S46} (hps : ps.length ≤ 900) (h : Right l rate a b ps) :
    setoff_Interest.f k l rate a b ps = some (resI (arr l a) (rate * (b - a - cov a b (ps.map (·.f1))))) := by
  obtain ⟨k, rfl⟩ : ∃ n, k = n + 1 := ⟨k - 1, by omega⟩
  unfold setoff_Interest.f setoff_Valid.f
  rw [if_pos (in_debts0 h.deb), Option.bind_some, ((valid_iff l).mpr h.deb).1, decide_eq_true h.deb.len, Bool.true_and, if_pos rfl, betw, Option.bind_some, decide_eq_true ⟨h.rate0, h.rate1⟩, if_pos rfl, valid_eq _ _ (by simp) (by simp; omega), Option.bind_some, tr_of (one_set a b h.str), if_pos rfl, setoff_Interest.j0, decide_eq_false (by omega), if_neg (by decide)]
  have e := int_loop l rate a b ps hps h.deb h.rate0 h.rate1 h.str ps.length 0 k (by omega) (by omega)
  rw [List.drop_zero, h.kinds, if_pos rfl, h.offs, if_pos rfl] at e
  exact e
end Go.Proofs.YtnkgnjklkocojaaGreatDoor.Pure

/- The calendar: which month a day belongs to, and when a month begins. No Go and no memory in it. -/
namespace Go.Proofs.YtnkgnjklkocojaaGreatDoor.Pure
open Go.RowKit Go.Proofs.YtnkgnjklkocojaaGreatDoor.X Go.Proofs.YtnkgnjklkocojaaGreatDoorW.PrintWords
set_option linter.unusedVariables false
def monT : List Int := [0, 31, 60, 91, 121, 152, 182, 213, 244, 274, 305, 335, 366, 397, 425, 456, 486, 517, 547, 578, 609, 639, 670, 700, 731, 762, 790, 821, 851, 882, 912, 943, 974, 1004, 1035, 1065, 1096, 1127, 1155, 1186, 1216, 1247, 1277, 1308, 1339, 1369, 1400, 1430, 1461]
/-- The first day of a month. -/
def fromM (m : Nat) : Int := 1461 * ((m / 48 : Nat) : Int) + monT.getD (m % 48) 0
set_option maxRecDepth 100000 in
theorem days_tab : ∀ m : Fin 1200, calendar_Days.f 20 (m.val : Int) = some (fromM m.val, fromM (m.val + 1), 0) := by decide +kernel
set_option maxRecDepth 100000 in
theorem from_tab : ∀ m : Fin 1200, fromM m.val < fromM (m.val + 1) := by decide +kernel
theorem days_f (m : Nat) (h : m < 1200) : calendar_Days.f 20 (m : Int) = some (fromM m, fromM (m + 1), 0) := days_tab ⟨m, h⟩
theorem days_out (m : Int) (h : 1199 < m) : calendar_Days.f 20 m = some (0, 0, 3) := by
  unfold calendar_Days.f
  rw [if_neg (by omega), decide_eq_true (by omega), calendar_Days.j0, if_pos rfl]
theorem from_le : ∀ (j m : Nat), m + j ≤ 1200 → fromM m ≤ fromM (m + j)
  | 0, m, _ => Int.le_refl _
  | j + 1, m, h => by
    have h1 := from_le j m (by omega)
    have h2 := from_tab ⟨m + j, by omega⟩
    simp only at h2
    have e : m + (j + 1) = m + j + 1 := by omega
    rw [e]
    omega
theorem from_ends : fromM 0 = 0 ∧ fromM 1200 = 36525 := by decide
theorem month_one (d : Int) (m n : Nat) (hm : m < 1200) (hn : n < 1200) (h1 : fromM m ≤ d) (h2 : d < fromM (m + 1)) (h3 : fromM n ≤ d) (h4 : d < fromM (n + 1)) : m = n := by
  rcases Nat.lt_trichotomy m n with h | h | h
  · have := from_le (n - (m + 1)) (m + 1) (by omega)
    have e : m + 1 + (n - (m + 1)) = n := by omega
    rw [e] at this
    omega
  · exact h
  · have := from_le (m - (n + 1)) (n + 1) (by omega)
    have e : n + 1 + (m - (n + 1)) = m := by omega
    rw [e] at this
    omega
/-! ### dates -/
def yearR (r : Nat) : Int := if r ≥ 366 then 2001 + ((r - 366) / 365 : Nat) else 2000
def restR (r : Nat) : Int := if r ≥ 366 then (((r - 366) % 365 : Nat) : Int) else (r : Int)
theorem len_shift (y m : Int) (c : Nat) (hy : 0 ≤ y) : calendar_length.f (y + 4 * (c : Int)) m = calendar_length.f y m := by
  unfold calendar_length.f monthLen
  have e : (y + 4 * (c : Int)).tmod 4 = y.tmod 4 := by
    rw [Int.tmod_eq_emod_of_nonneg (by omega), Int.tmod_eq_emod_of_nonneg hy]
    omega
  rw [e]
theorem date_shift (y : Int) (c : Nat) (hy : 0 ≤ y) : ∀ (k : Nat) (m r : Int), calendar_Date.l0 k (y + 4 * (c : Int)) m r = (calendar_Date.l0 k y m r).map (fun q => (q.1 + 4 * (c : Int), q.2.1, q.2.2.1, q.2.2.2))
  | 0, m, r => rfl
  | k + 1, m, r => by
    rw [calendar_Date.l0, calendar_Date.l0, len_shift y m c hy]
    cases calendar_length.f y m with
    | none => rfl
    | some t =>
      simp only [Option.bind_some]
      by_cases h : r ≥ t
      · rw [if_pos h, if_pos h]
        exact date_shift y c hy k _ _
      · rw [if_neg h, if_neg h]
        rfl
/-- What is asked of the date of a day of the four years. -/
def dateOk (r : Nat) : Bool := match calendar_Date.l0 18 (yearR r) 0 (restR r) with
  | some (y, mo, d, e) => decide (e = 0 ∧ 2000 ≤ y ∧ y ≤ 2003 ∧ 1 ≤ mo ∧ mo ≤ 12 ∧ 1 ≤ d ∧ d ≤ 31 ∧ monT.getD (12 * (y - 2000) + mo - 1).toNat 0 + d - 1 = (r : Int) ∧ (r : Int) < monT.getD ((12 * (y - 2000) + mo - 1).toNat + 1) 0)
  | none => false
set_option maxRecDepth 100000 in
theorem date_tab : ∀ r : Fin 1461, dateOk r.val = true := by decide +kernel
theorem date_start (c r : Nat) (hr : r < 1461) (hd : 1461 * c + r ≤ 36524) (k : Nat) : calendar_Date.f (k + 1) ((1461 * c + r : Nat) : Int) = calendar_Date.l0 k (yearR r + 4 * (c : Int)) 0 (restR r) := by
  unfold calendar_Date.f calendar_valid.f
  rw [if_pos (by omega), Option.bind_some, decide_eq_true (by omega), if_pos rfl]
  have e1 : Int.tmod ((1461 * c + r : Nat) : Int) 1461 = (r : Int) := by rw [Int.tmod_eq_emod_of_nonneg (by omega)]; omega
  have e2 : Int.tdiv ((1461 * c + r : Nat) : Int) 1461 = (c : Int) := by rw [Int.tdiv_eq_ediv_of_nonneg (by omega)]; omega
  rw [e1, e2]
  by_cases h : (r : Int) ≥ 366
  · have e3 : Int.tmod ((r : Int) - 366) 365 = (((r - 366) % 365 : Nat) : Int) := by rw [Int.tmod_eq_emod_of_nonneg (by omega)]; omega
    have e4 : Int.tdiv ((r : Int) - 366) 365 = (((r - 366) / 365 : Nat) : Int) := by rw [Int.tdiv_eq_ediv_of_nonneg (by omega)]; omega
    rw [if_pos h, calendar_Date.j0, wrapIn ((r : Int) - 366) (by omega), e3, e4, wrapIn (c : Int) (by omega), wrapIn (4 * (c : Int)) (by omega), wrapIn (2000 + 4 * (c : Int)) (by omega), wrapIn ((((r - 366) / 365 : Nat) : Int)) (by omega), wrapIn (1 + (((r - 366) / 365 : Nat) : Int)) (by omega), wrapIn (2000 + 4 * (c : Int) + (1 + (((r - 366) / 365 : Nat) : Int))) (by omega)]
    unfold yearR restR
    rw [if_pos (by omega), if_pos (by omega)]
    congr 1
    omega
  · rw [if_neg h, calendar_Date.j0, wrapIn (c : Int) (by omega), wrapIn (4 * (c : Int)) (by omega), wrapIn (2000 + 4 * (c : Int)) (by omega)]
    unfold yearR restR
    rw [if_neg (by omega), if_neg (by omega)]
theorem date_f (d : Nat) (hd : d ≤ 36524) : ∃ (y mo da : Int) (m : Nat), calendar_Date.f 19 (d : Int) = some (y, mo, da, 0) ∧ m < 1200 ∧ 12 * (y - 2000) + mo - 1 = (m : Int) ∧ 2000 ≤ y ∧ y ≤ 2200 ∧ 1 ≤ mo ∧ mo ≤ 12 ∧ 1 ≤ da ∧ da ≤ 31 ∧ fromM m + da - 1 = (d : Int) ∧ (d : Int) < fromM (m + 1) := by
  have hr : d % 1461 < 1461 := Nat.mod_lt _ (by decide)
  have e : 1461 * (d / 1461) + d % 1461 = d := Nat.div_add_mod d 1461
  have hs := date_start (d / 1461) (d % 1461) hr (by omega) 18
  rw [e] at hs
  have hy : 0 ≤ yearR (d % 1461) := by unfold yearR; split <;> omega
  rw [hs, date_shift _ _ hy]
  have ht := date_tab ⟨d % 1461, hr⟩
  unfold dateOk at ht
  simp only at ht
  generalize calendar_Date.l0 18 (yearR (d % 1461)) 0 (restR (d % 1461)) = q at ht
  match q, ht with
  | some (y, mo, da, e0), ht =>
    obtain ⟨a0, a1, a2, a3, a4, a5, a6, a7, a8⟩ := of_decide_eq_true ht
    obtain ⟨u, hu⟩ : ∃ u : Nat, 12 * (y - 2000) + mo - 1 = (u : Int) := ⟨(12 * (y - 2000) + mo - 1).toNat, by omega⟩
    rw [hu, Int.toNat_natCast] at a7 a8
    have hu48 : u < 48 := by omega
    have hc : d / 1461 ≤ 24 := by omega
    have f1 : (48 * (d / 1461) + u) / 48 = d / 1461 := by omega
    have f2 : (48 * (d / 1461) + u) % 48 = u := by omega
    refine ⟨y + 4 * ((d / 1461 : Nat) : Int), mo, da, 48 * (d / 1461) + u, by rw [a0]; rfl, by omega, by omega, by omega, by omega, a3, a4, a5, a6, ?_, ?_⟩
    · unfold fromM
      rw [f1, f2]
      omega
    · by_cases hu47 : u = 47
      · have g1 : (48 * (d / 1461) + u + 1) / 48 = d / 1461 + 1 := by omega
        have g2 : (48 * (d / 1461) + u + 1) % 48 = 0 := by omega
        have g3 : monT.getD 0 0 = 0 := rfl
        unfold fromM
        rw [g1, g2, g3]
        omega
      · have g1 : (48 * (d / 1461) + u + 1) / 48 = d / 1461 := by omega
        have g2 : (48 * (d / 1461) + u + 1) % 48 = u + 1 := by omega
        unfold fromM
        rw [g1, g2]
        omega
theorem up1 {α : Type} {f : Nat → Option α} (h : ∀ k, LeO (f k) (f (k + 1))) (k : Nat) : ∀ (j : Nat) (r : α), f k = some r → f (k + j) = some r
  | 0, _, e => e
  | j + 1, r, e => h _ _ (up1 h k j r e)
theorem date_k {k : Nat} (hk : 20 ≤ k) {d : Int} {r : Int × Int × Int × Int} (h : calendar_Date.f 19 d = some r) : calendar_Date.f k d = some r := by
  have := up1 (calendar_Date.mono d) 19 (k - 19) r h
  rwa [show 19 + (k - 19) = k by omega] at this
theorem month_f (d : Nat) (hd : d ≤ 36524) (k : Nat) (hk : 20 ≤ k) : ∃ m : Nat, m < 1200 ∧ calendar_Month.f k (d : Int) = some ((m : Int), 0) ∧ fromM m ≤ (d : Int) ∧ (d : Int) < fromM (m + 1) := by
  obtain ⟨y, mo, da, m, h1, h2, h3, h4, h5, h6, h7, h8, h9, h10, h11⟩ := date_f d hd
  refine ⟨m, h2, ?_, by omega, h11⟩
  unfold calendar_Month.f
  rw [date_k hk h1, Option.bind_some]
  dsimp only
  rw [if_pos rfl, wrapIn (y - 2000) (by omega), wrapIn (12 * (y - 2000)) (by omega), wrapIn (12 * (y - 2000) + mo) (by omega), wrapIn (12 * (y - 2000) + mo - 1) (by omega), h3]
theorem month_at (d : Nat) (hd : d ≤ 36524) (k : Nat) (hk : 20 ≤ k) (m : Nat) (hm : m < 1200) (h1 : fromM m ≤ (d : Int)) (h2 : (d : Int) < fromM (m + 1)) : calendar_Month.f k (d : Int) = some ((m : Int), 0) := by
  obtain ⟨n, n1, n2, n3, n4⟩ := month_f d hd k hk
  rw [n2, month_one d n m n1 hm n3 n4 h1 h2]
theorem days_k {k : Nat} (hk : 20 ≤ k) {d : Int} {r : Int × Int × Int} (h : calendar_Days.f 20 d = some r) : calendar_Days.f k d = some r := by
  have := up1 (calendar_Days.mono d) 20 (k - 20) r h
  rwa [show 20 + (k - 20) = k by omega] at this
/-- The day of an instalment: in the month that is asked for. -/
theorem instal_f (d : Nat) (hd : d ≤ 36524) (m : Nat) (hm : m < 1200) (h1 : fromM m ≤ (d : Int)) (h2 : (d : Int) < fromM (m + 1)) (k : Nat) (hk : 20 ≤ k) (i : Nat) (hi : i ≤ 1000) :
    (1199 < m + i → setoff_instalment.f k (d : Int) (i : Int) = some (0, 3)) ∧ (m + i < 1200 → ∃ due : Nat, setoff_instalment.f k (d : Int) (i : Int) = some ((due : Int), 0) ∧ fromM (m + i) ≤ (due : Int) ∧ (due : Int) < fromM (m + i + 1) ∧ due ≤ 36524) := by
  obtain ⟨y, mo, da, m', g1, g2, g3, g4, g5, g6, g7, g8, g9, g10, g11⟩ := date_f d hd
  have em : m' = m := month_one d m' m g2 hm (by omega) g11 h1 h2
  subst em
  have hM := month_at d hd k hk m' hm h1 h2
  unfold setoff_instalment.f
  rw [date_k hk g1, Option.bind_some, hM, Option.bind_some]
  dsimp only
  rw [wrapIn ((m' : Int) + (i : Int)) (by omega)]
  refine ⟨fun ho => ?_, fun ho => ?_⟩
  · rw [days_k hk (days_out _ (by omega)), Option.bind_some]
    dsimp only
    rw [if_neg (by decide)]
  · have e : (m' : Int) + (i : Int) = ((m' + i : Nat) : Int) := by omega
    rw [e, days_k hk (days_f (m' + i) ho), Option.bind_some]
    dsimp only
    have t1 := from_tab ⟨m' + i, ho⟩
    simp only at t1
    have t2 := from_le (m' + i) 0 (by omega)
    rw [Nat.zero_add, from_ends.1] at t2
    have t3 := from_le (1200 - (m' + i + 1)) (m' + i + 1) (by omega)
    rw [show m' + i + 1 + (1200 - (m' + i + 1)) = 1200 by omega, from_ends.2] at t3
    generalize fromM (m' + i) = A at t1 t2
    generalize fromM (m' + i + 1) = B at t1 t3
    rw [if_pos rfl, wrapIn (A + da) (by omega), wrapIn (A + da - 1) (by omega), wrapIn (B - 1) (by omega)]
    refine ⟨(mn (A + da - 1) (B - 1)).toNat, ?_, ?_, ?_, ?_⟩ <;> (unfold mn; split <;> first | omega | (congr 2; omega))
end Go.Proofs.YtnkgnjklkocojaaGreatDoor.Pure

/- What money.Split computes for equal weights. No Go and no memory in it. -/
namespace Go.Proofs.YtnkgnjklkocojaaGreatDoor.Pure
open Go.RowKit Go.Proofs.YtnkgnjklkocojaaGreatDoor.X Go.Proofs.YtnkgnjklkocojaaGreatDoorW.PrintWords
theorem incs_length : ∀ (L P : List Int), (incs P L).length = P.length
  | [], P => rfl
  | i :: r, P => by rw [incs, incs_length r, List.length_set]
theorem rd_setn (P : List Int) (j i : Nat) (v : Int) (hj : j < P.length) : rd (P.set j v) (i : Int) = if j = i then v else rd P (i : Int) := by
  unfold rd
  rw [Int.toNat_natCast, List.getD_eq_getElem?_getD, List.getElem?_set]
  split
  · rename_i h
    subst h
    first | rfl | (rw [if_pos hj]; rfl)
  · rw [List.getD_eq_getElem?_getD]
theorem rd_incs : ∀ (L P : List Int), L.Nodup → (∀ x ∈ L, 0 ≤ x ∧ x < (P.length : Int)) → ∀ i : Nat, rd (incs P L) (i : Int) = rd P (i : Int) + if (i : Int) ∈ L then 1 else 0
  | [], P, _, _, i => by simp [incs]
  | a :: r, P, hn, hb, i => by
    have ha := hb a List.mem_cons_self
    obtain ⟨j, rfl⟩ : ∃ j : Nat, a = j := ⟨a.toNat, by omega⟩
    rw [incs, rd_incs r _ (List.nodup_cons.mp hn).2 (fun x hx => by rw [List.length_set]; exact hb x (List.mem_cons_of_mem _ hx)) i, Int.toNat_natCast, rd_setn _ _ _ _ (by omega)]
    by_cases h : j = i
    · subst h
      rw [if_pos rfl, if_neg (List.nodup_cons.mp hn).1, if_pos List.mem_cons_self]
      omega
    · rw [if_neg h]
      have e : ((i : Int) ∈ (j : Int) :: r) ↔ ((i : Int) ∈ r) := by
        rw [List.mem_cons]
        constructor
        · rintro (h2 | h2)
          · omega
          · exact h2
        · exact Or.inr
      simp only [e]
theorem sum_setn : ∀ (P : List Int) (j : Nat) (v : Int), j < P.length → (P.set j v).sum = P.sum - P.getD j 0 + v
  | [], j, v, h => absurd h (Nat.not_lt_zero _)
  | a :: P, 0, v, _ => by simp; omega
  | a :: P, j + 1, v, h => by
    have := sum_setn P j v (by simpa using h)
    simp only [List.set_cons_succ, List.sum_cons, List.getD_cons_succ]
    omega
theorem sum_incs : ∀ (L P : List Int), (∀ x ∈ L, 0 ≤ x ∧ x < (P.length : Int)) → (incs P L).sum = P.sum + (L.length : Int)
  | [], P, _ => by simp [incs]
  | a :: r, P, hb => by
    have ha := hb a List.mem_cons_self
    obtain ⟨j, rfl⟩ : ∃ j : Nat, a = j := ⟨a.toNat, by omega⟩
    rw [incs, sum_incs r _ (fun x hx => by rw [List.length_set]; exact hb x (List.mem_cons_of_mem _ hx)), Int.toNat_natCast, sum_setn _ _ _ (by omega)]
    unfold rd
    rw [Int.toNat_natCast, List.length_cons]
    omega
/-- The remainders in the order of the list. -/
theorem rem_sum (size T : Int) (hT : 1 ≤ T) : ∀ l : List Int, T * (qs size T l).sum + (l.map (fun x => size * x % T)).sum = size * l.sum
  | [] => by simp [qs]
  | x :: l => by
    have ih := rem_sum size T hT l
    have e := Int.mul_ediv_add_emod (size * x) T
    simp only [qs, List.map_cons, List.sum_cons, Int.mul_add] at *
    omega
theorem sum_fin (f : Nat → Int) : ∀ (n : Nat), ((List.range n).map f).sum = ((List.finRange n).map (fun i => f i.val)).sum := by
  intro n
  have : (List.finRange n).map (fun i => f i.val) = ((List.finRange n).map (·.val)).map f := by rw [List.map_map]; rfl
  rw [this]
  congr 2
  apply List.ext_getElem
  · simp
  · intro i h1 h2; simp
theorem sum_le_mul {α : Type} (f : α → Int) (b : Int) : ∀ l : List α, (∀ x ∈ l, f x ≤ b) → (l.map f).sum ≤ b * (l.length : Int)
  | [], _ => by simp
  | x :: l, h => by
    have ih := sum_le_mul f b l (fun y hy => h y (List.mem_cons_of_mem _ hy))
    have hx := h x List.mem_cons_self
    have e : b * ((x :: l).length : Int) = b * (l.length : Int) + b := by rw [List.length_cons, Int.natCast_succ, Int.mul_add, Int.mul_one]
    rw [e, List.map_cons, List.sum_cons]
    omega
theorem perm_sum {α : Type} (f : α → Int) {a b : List α} (h : a.Perm b) : (a.map f).sum = (b.map f).sum := by
  induction h with
  | nil => rfl
  | cons x _ ih => simp [ih]
  | swap x y l => simp only [List.map_cons, List.sum_cons]; omega
  | trans _ _ i1 i2 => exact i1.trans i2
theorem map_rem (size T : Int) (l : List Int) : l.map (fun x => size * x % T) = (List.range l.length).map (remOf size T l) := by
  apply List.ext_getElem
  · simp
  · intro i h1 h2
    simp only [List.getElem_map, List.getElem_range, remOf]
    have : i < l.length := by simpa using h1
    simp [this]
/-- What an order of the indices gives the cents that are left to. -/
theorem give_ok (size T : Int) (l : List Int) (hT : 1 ≤ T) (e : T = l.sum) (z : List (Fin l.length)) (hp : z.Perm (List.finRange l.length)) (hs : z.Pairwise (ltF size T l l.length)) (m : Nat) (hm : (m : Int) = size - (qs size T l).sum) :
    m ≤ l.length ∧ (∀ x ∈ z.take m, 0 < remOf size T l x.val) ∧ (∀ x ∈ z.take m, ∀ y, y ∉ z.take m → ltF size T l l.length x y) := by
  have hlen : z.length = l.length := by rw [hp.length_eq, List.length_finRange]
  have hr0 : ∀ i, 0 ≤ remOf size T l i := fun i => Int.emod_nonneg _ (by omega)
  have hr1 : ∀ i, remOf size T l i ≤ T - 1 := fun i => by have := Int.emod_lt_of_pos (size * l.getD i 0) (show 0 < T by omega); unfold remOf; omega
  have hsum : (z.map (fun x => remOf size T l x.val)).sum = T * (m : Int) := by
    rw [perm_sum _ hp, ← sum_fin (remOf size T l), ← map_rem, hm, Int.mul_sub]
    have := rem_sum size T hT l
    rw [← e, Int.mul_comm size T] at this
    omega
  have hmn : m ≤ l.length := by
    have h1 := sum_le_mul (fun x : Fin l.length => remOf size T l x.val) (T - 1) z (fun x _ => hr1 _)
    rw [hsum, hlen] at h1
    rcases Nat.lt_or_ge l.length m with h | h
    · have h2 : T * (l.length : Int) ≤ T * (m : Int) := Int.mul_le_mul_of_nonneg_left (by omega) (by omega)
      have h3 : (T - 1) * (l.length : Int) = T * (l.length : Int) - (l.length : Int) := by rw [Int.sub_mul, Int.one_mul]
      have h4 : T * ((l.length : Int) + 1) ≤ T * (m : Int) := Int.mul_le_mul_of_nonneg_left (by omega) (by omega)
      rw [Int.mul_add, Int.mul_one] at h4
      omega
    · exact h
  have hcut : ∀ x ∈ z.take m, ∀ y, y ∉ z.take m → ltF size T l l.length x y := by
    intro x hx y hy
    have hyz : y ∈ z := hp.mem_iff.mpr (List.mem_finRange y)
    rw [← List.take_append_drop m z] at hyz hs
    rcases List.mem_append.mp hyz with h | h
    · exact absurd h hy
    · exact (List.pairwise_append.mp hs).2.2 x hx y h
  refine ⟨hmn, ?_, hcut⟩
  intro x hx
  have h0 := hr0 x.val
  rcases Int.lt_or_eq_of_le h0 with h | h
  · exact h
  · exfalso
    have hnd : (z.take m ++ z.drop m).Nodup := by rw [List.take_append_drop]; exact hp.symm.nodup (List.nodup_finRange _)
    have hd0 : ∀ y ∈ z.drop m, remOf size T l y.val ≤ 0 := by
      intro y hy
      have hyt : y ∉ z.take m := fun hy2 => absurd rfl ((List.nodup_append.mp hnd).2.2 y hy2 y hy)
      have := hcut x hx y hyt
      unfold ltF at this
      omega
    have e1 : (z.map (fun x => remOf size T l x.val)).sum = ((z.take m).map (fun x => remOf size T l x.val)).sum + ((z.drop m).map (fun x => remOf size T l x.val)).sum := by
      rw [← List.sum_append, ← List.map_append, List.take_append_drop]
    have h2 := sum_le_mul (fun x : Fin l.length => remOf size T l x.val) 0 (z.drop m) hd0
    have h3 := sum_le_mul (fun x : Fin l.length => remOf size T l x.val) (T - 1) (z.take m) (fun x _ => hr1 _)
    have hl : (z.take m).length = m := by rw [List.length_take]; omega
    have hm1 : 1 ≤ m := by
      rcases Nat.eq_zero_or_pos m with h | h
      · subst h; simp at hx
      · exact h
    rw [hl] at h3
    have h4 : (T - 1) * (m : Int) = T * (m : Int) - (m : Int) := by rw [Int.sub_mul, Int.one_mul]
    omega
theorem ord_sorted (size T : Int) (l : List Int) (hn : 0 < l.length) : (ordA size T l hn).toList.Perm (List.finRange l.length) ∧ (ordA size T l hn).toList.Pairwise (ltF size T l l.length) := by
  letI : Inhabited (Fin l.length) := ⟨⟨0, hn⟩⟩
  obtain ⟨y, y1, y2, y3⟩ := ins_sort (cfF size T l l.length) (ltF size T l l.length) (ltF_trans size T l l.length) [] (idF l.length).toList [] (id_later size T l l.length)
  have e : (ordA size T l hn).toList = y := ordA_is size T l hn y y1 y2
  rw [e]
  have e2 : (idF l.length).toList = List.finRange l.length := by
    simp only [idF, List.finRange, Array.toList_ofFn]
    rfl
  rw [← e2]
  exact ⟨y1, y2⟩
/-- What is known of a split: who gets one more (B), the parts, their sum. -/
structure SplitOK (size sgn T : Int) (l res : List Int) (B : Nat → Bool) : Prop where
  len : res.length = l.length
  part : ∀ i : Nat, i < l.length → rd res (i : Int) = sgn * (size * rd l (i : Int) / T + if B i = true then 1 else 0)
  pos : ∀ i : Nat, i < l.length → B i = true → 0 < size * rd l (i : Int) % T
  cut : ∀ i k : Nat, i < l.length → k < l.length → B i = true → B k = false → size * rd l (k : Int) % T < size * rd l (i : Int) % T ∨ (size * rd l (i : Int) % T = size * rd l (k : Int) % T ∧ i < k)
  sum : res.sum = sgn * size
theorem remOf_rd (size T : Int) (l : List Int) (i : Nat) : remOf size T l i = size * rd l (i : Int) % T := by unfold remOf rd; rw [Int.toNat_natCast]
theorem sum_mul (b : Int) : ∀ l : List Int, (l.map (· * b)).sum = l.sum * b
  | [] => by simp
  | x :: l => by rw [List.map_cons, List.sum_cons, List.sum_cons, sum_mul b l, Int.add_mul]
theorem rd_map (b : Int) (l : List Int) (i : Nat) (hi : i < l.length) : rd (l.map (· * b)) (i : Int) = rd l (i : Int) * b := by
  unfold rd
  simp [hi]
theorem split_ok (c T : Int) (l : List Int) (hn : 0 < l.length) (hT : 1 ≤ T) (e : T = l.sum) (hb : ∀ x ∈ l, 0 ≤ x ∧ x ≤ 1000000) :
    ∃ B, SplitOK (if c < 0 then -c else c) (if c < 0 then -1 else 1) T l (splitRes c T l hn) B := by
  unfold splitRes
  have hs : 0 ≤ (if c < 0 then -c else c) := by split <;> omega
  generalize (if c < 0 then -c else c) = size at hs ⊢
  generalize (if c < 0 then (-1 : Int) else 1) = sgn
  have hL := leftAt_bd size T l l.length hs hT hb e
  obtain ⟨m, hm⟩ : ∃ m : Nat, leftAt size T l l.length = m := ⟨(leftAt size T l l.length).toNat, by omega⟩
  have hm2 : (m : Int) = size - (qs size T l).sum := by rw [← hm]; unfold leftAt; rw [List.take_length]
  rw [hm, Int.toNat_natCast]
  obtain ⟨hp, hso⟩ := ord_sorted size T l hn
  obtain ⟨g1, g2, g3⟩ := give_ok size T l hT e _ hp hso m hm2
  have eL : (ordL size T l hn).take m = ((ordA size T l hn).toList.take m).map (fun x => (x.val : Int)) := by unfold ordL; rw [List.map_take]
  rw [eL]
  generalize hz : (ordA size T l hn).toList.take m = z at g2 g3
  have hzn : z.Nodup := by
    rw [← hz]
    exact List.Nodup.sublist (List.take_sublist _ _) (hp.symm.nodup (List.nodup_finRange _))
  have hLn : (z.map (fun x => (x.val : Int))).Nodup := by
    rw [List.nodup_iff_pairwise_ne] at hzn ⊢
    rw [List.pairwise_map]
    exact hzn.imp (fun h h2 => h (Fin.ext (by omega)))
  have hql : (qs size T l).length = l.length := by unfold qs; rw [List.length_map]
  have hLb : ∀ x ∈ z.map (fun x => (x.val : Int)), 0 ≤ x ∧ x < ((qs size T l).length : Int) := by
    intro x hx
    obtain ⟨y, _, rfl⟩ := List.mem_map.mp hx
    have := y.isLt
    omega
  have hmem : ∀ (i : Nat) (hi : i < l.length), ((i : Int) ∈ z.map (fun x => (x.val : Int))) ↔ (⟨i, hi⟩ : Fin l.length) ∈ z := by
    intro i hi
    constructor
    · intro h
      obtain ⟨y, hy, e2⟩ := List.mem_map.mp h
      have e3 : (y.val : Int) = (i : Int) := e2
      have : y = ⟨i, hi⟩ := Fin.ext (by show y.val = i; omega)
      rw [← this]
      exact hy
    · intro h
      exact List.mem_map.mpr ⟨_, h, rfl⟩
  have hil := incs_length (z.map (fun x => (x.val : Int))) (qs size T l)
  have hq : ∀ i : Nat, i < l.length → rd (qs size T l) (i : Int) = size * rd l (i : Int) / T := by
    intro i hi
    unfold rd qs
    simp [hi]
  refine ⟨fun i => decide ((i : Int) ∈ z.map (fun x => (x.val : Int))), ?_, ?_, ?_, ?_, ?_⟩
  · rw [List.length_map, hil, hql]
  · intro i hi
    rw [rd_map _ _ _ (by rw [hil, hql]; exact hi), rd_incs _ _ hLn hLb, hq i hi, Int.mul_comm]
    simp only [decide_eq_true_eq]
  · intro i hi h
    rw [← remOf_rd]
    exact g2 ⟨i, hi⟩ ((hmem i hi).mp (of_decide_eq_true h))
  · intro i k hi hk h1 h2
    have := g3 ⟨i, hi⟩ ((hmem i hi).mp (of_decide_eq_true h1)) ⟨k, hk⟩ (fun h3 => absurd ((hmem k hk).mpr h3) (of_decide_eq_false h2))
    unfold ltF at this
    rw [← remOf_rd, ← remOf_rd]
    exact this
  · have hzl : z.length = m := by rw [← hz, List.length_take, hp.length_eq, List.length_finRange]; omega
    rw [sum_mul, sum_incs _ _ hLb, List.length_map, hzl, Int.mul_comm]
    congr 1
    omega
/-- A split among equals: the first part is the greatest, the others differ by one cent at most. -/
theorem split_even (c n : Nat) (hc : c ≤ 1000000000) (h1 : 1 ≤ n) (h2 : n ≤ 60) : ∃ ps : List Int, money_Split.f (c : Int) (List.replicate n 1) = some (ps, 0) ∧ ps.length = n ∧ ps.sum = (c : Int) ∧ ∀ i : Nat, i < n → 0 ≤ rd ps (i : Int) ∧ rd ps (i : Int) ≤ (c : Int) ∧ rd ps (i : Int) ≤ rd ps 0 ∧ rd ps 0 - 1 ≤ rd ps (i : Int) := by
  have ht : ∀ (m : Nat) (s : Int), 0 ≤ s → s + m ≤ 1000000 → splitTotal (List.replicate m 1) s = some (s + m) := by
    intro m
    induction m with
    | zero => intro s _ _; simp [splitTotal]
    | succ m ih =>
      intro s h0 h1
      have e : wrap64 (s + 1) = s + 1 := by unfold wrap64; omega
      rw [List.replicate_succ, splitTotal, if_neg (by omega), e, ih (s + 1) (by omega) (by omega)]
      congr 1
      omega
  have hT := ht n 0 (by omega) (by omega)
  have hsum : ∀ m : Nat, (List.replicate m (1 : Int)).sum = (m : Int) := by
    intro m
    induction m with
    | zero => rfl
    | succ m ih => rw [List.replicate_succ, List.sum_cons, ih]; omega
  have hlen : (List.replicate n (1 : Int)).length = n := List.length_replicate
  have hn : 0 < (List.replicate n (1 : Int)).length := by omega
  have hb : ∀ x ∈ List.replicate n (1 : Int), 0 ≤ x ∧ x ≤ 1000000 := fun x hx => by rw [List.eq_of_mem_replicate hx]; omega
  obtain ⟨B, ok⟩ := split_ok (c : Int) (0 + n) (List.replicate n 1) hn (by omega) (by rw [hsum]; omega) hb
  rw [if_neg (by omega), if_neg (by omega)] at ok
  have hr : ∀ i : Nat, i < n → rd (List.replicate n (1 : Int)) (i : Int) = 1 := fun i hi => by unfold rd; simp [hi]
  have hp : ∀ i : Nat, i < n → rd (splitRes (c : Int) (0 + n) (List.replicate n 1) hn) (i : Int) = (c : Int) / (n : Int) + if B i = true then 1 else 0 := fun i hi => by
    rw [ok.part i (by omega), hr i hi, Int.one_mul, Int.mul_one, Int.zero_add]
  refine ⟨splitRes (c : Int) (0 + n) (List.replicate n 1) hn, ?_, by rw [ok.len, hlen], by rw [ok.sum, Int.one_mul], fun i hi => ?_⟩
  · unfold money_Split.f
    rw [hT]
    simp only
    rw [if_neg (by omega), dif_pos ⟨by omega, hn⟩]
  · have p0 := hp 0 (by omega)
    have e0 : ((0 : Nat) : Int) = 0 := rfl
    rw [e0] at p0
    rw [hp i hi, p0]
    have hq0 : 0 ≤ (c : Int) / (n : Int) := Int.ediv_nonneg (by omega) (by omega)
    have hqc : (c : Int) / (n : Int) ≤ (c : Int) := Int.ediv_le_self _ (by omega)
    have hup : B i = true → (c : Int) / (n : Int) + 1 ≤ (c : Int) := by
      intro hB
      have h3 := ok.pos i (by omega) hB
      rw [hr i hi, Int.mul_one, Int.zero_add] at h3
      have h4 := Int.mul_ediv_add_emod (c : Int) (n : Int)
      have h5 : (c : Int) / (n : Int) ≤ (n : Int) * ((c : Int) / (n : Int)) := by
        have := Int.mul_le_mul_of_nonneg_right (show (1 : Int) ≤ (n : Int) by omega) hq0
        rwa [Int.one_mul] at this
      omega
    have hle : B i = true → B 0 = true := by
      intro hB
      cases h0 : B 0 with
      | true => rfl
      | false =>
        have := ok.cut i 0 (by omega) (by omega) hB h0
        rw [hr i hi, hr 0 (by omega)] at this
        omega
    cases hB : B i with
    | true =>
      have := hup hB
      rw [hle hB]
      simp only [if_true]
      omega
    | false =>
      cases h0 : B 0 with
      | true => simp; omega
      | false => simp; omega
end Go.Proofs.YtnkgnjklkocojaaGreatDoor.Pure

/- What a plan of instalments is: in closed form. No Go and no memory in it. -/
namespace Go.Proofs.YtnkgnjklkocojaaGreatDoor.Pure
open Go.RowKit Go.Proofs.YtnkgnjklkocojaaGreatDoor.X Go.Proofs.YtnkgnjklkocojaaGreatDoorW.PrintWords
set_option linter.unusedVariables false
/-- The day of the instalment with a number. -/
def dueF (day : Int) (i : Nat) : Int := ((setoff_instalment.f 20 day ((i + 1 : Nat) : Int)).getD (0, 0)).1
theorem inst_k {k : Nat} (hk : 20 ≤ k) {day : Int} {i : Int} {r : Int × Int} (h : setoff_instalment.f 20 day i = some r) : setoff_instalment.f k day i = some r := by
  have := up1 (setoff_instalment.mono day i) 20 (k - 20) r h
  rwa [show 20 + (k - 20) = k by omega] at this
/-- What is known of a plan. -/
structure PlanOK (l : List S39) (day : Int) (n : Nat) (id : Int) (ps : List Int) (m0 : Nat) : Prop where
  m1 : m0 + n < 1200
  low : fromM m0 ≤ day
  high : day < fromM (m0 + 1)
  month : ∀ k, 20 ≤ k → calendar_Month.f k day = some ((m0 : Int), 0)
  due : ∀ i, i < n → (∀ k, 20 ≤ k → setoff_instalment.f k day ((i + 1 : Nat) : Int) = some (dueF day i, 0)) ∧ fromM (m0 + (i + 1)) ≤ dueF day i ∧ dueF day i < fromM (m0 + (i + 1) + 1) ∧ 0 ≤ dueF day i ∧ dueF day i ≤ 36524
  len : ps.length = n
  sum : ps.sum = arr l day
  part : ∀ i : Nat, i < n → 0 ≤ rd ps (i : Int) ∧ rd ps (i : Int) ≤ arr l day ∧ rd ps (i : Int) ≤ rd ps 0 ∧ rd ps 0 - 1 ≤ rd ps (i : Int)
  top : ∀ x ∈ l, x.f0 ≤ id
  id0 : 0 ≤ id
  id1 : id + n ≤ 1000000
  room : (l.filter (fun x => !lateB day [3] x)).length + n ≤ 100
  sml : arr l day ≤ 1000000000
def instOf (day id : Int) (ps : List Int) (i : Nat) : S39 := ⟨id + i + 1, 3, dueF day i, rd ps (i : Int)⟩
def instL (day id : Int) (ps : List Int) (n : Nat) : List S39 := (List.range n).map (instOf day id ps)
theorem mx_ge (a b : Int) : a ≤ mx a b ∧ b ≤ mx a b ∧ (mx a b = a ∨ mx a b = b) := by unfold mx; split <;> omega
def idF (l : List S39) (a : Int) : Int := l.foldl (fun a x => mx a x.f0) a
theorem idF_ge : ∀ (l : List S39) (a b : Int), a ≤ b → (∀ x ∈ l, x.f0 ≤ b) → a ≤ idF l a ∧ (∀ x ∈ l, x.f0 ≤ idF l a) ∧ idF l a ≤ b
  | [], a, b, h, _ => ⟨Int.le_refl _, by simp, h⟩
  | x :: l, a, b, h, hb => by
    have hm := mx_ge a x.f0
    have hx := hb x List.mem_cons_self
    obtain ⟨h1, h2, h3⟩ := idF_ge l (mx a x.f0) b (by rcases hm.2.2 with e | e <;> omega) (fun y hy => hb y (List.mem_cons_of_mem _ hy))
    refine ⟨by show a ≤ idF l (mx a x.f0); omega, fun y hy => ?_, h3⟩
    rcases List.mem_cons.mp hy with rfl | hy
    · show y.f0 ≤ idF l (mx a y.f0)
      omega
    · exact h2 y hy
def tailP (k : Nat) (day months : Int) (no : List S39) (C id : Int) : Option (List S39 × Int) :=
  if (wrap64 ((no.length : Int) + months)) > 100 then (setoff_Plan.j3 k day months no C id true) else (setoff_Plan.j3 k day months no C id (decide ((wrap64 (id + months)) > 1000000)))
theorem id_loop (day months : Int) (no : List S39) (C : Int) (l : List S39) (hl : l.length ≤ 100) : ∀ (j i k : Nat) (a : Int), i + j = l.length → setoff_Plan.l0 (j + k + 1) day months no C a l (l.length : Int) (i : Int) = tailP k day months no C (idF (l.drop i) a)
  | 0, i, k, a, hi => by
    rw [setoff_Plan.l0, if_neg (by omega), List.drop_of_length_le (by omega), Nat.zero_add]
    rfl
  | j + 1, i, k, a, hi => by
    have hil : i < l.length := by omega
    have e : j + 1 + k + 1 = (j + k + 1) + 1 := by omega
    rw [e, setoff_Plan.l0, if_pos (by omega), if_pos (by omega), if_pos (by omega), rdDebt l i hil, upI i (by omega), id_loop day months no C l hl j (i + 1) k _ (by omega), List.drop_eq_getElem_cons hil]
    rfl
theorem inst_loop {l : List S39} {day : Int} {n : Nat} {id : Int} {ps : List Int} {m0 : Nat} (ok : PlanOK l day n id ps m0) (hn : n ≤ 60) (no : List S39) (hno : no.length ≤ 100) : ∀ (j i k : Nat), i + j = n → j + 30 < k →
    setoff_Plan.l1 k day (no ++ instL day id ps i) id ps (ps.length : Int) (i : Int) = some (no ++ instL day id ps n, 0) := by
  have hl := ok.len
  have i0 := ok.id0
  have i1 := ok.id1
  intro j
  induction j with
  | zero =>
    intro i k hi hk
    obtain ⟨k, rfl⟩ : ∃ n, k = n + 1 := ⟨k - 1, by omega⟩
    obtain rfl : i = n := by omega
    rw [setoff_Plan.l1, if_neg (by omega)]
  | succ j ih =>
    intro i k hi hk
    obtain ⟨k, rfl⟩ : ∃ n, k = n + 1 := ⟨k - 1, by omega⟩
    have hd := (ok.due i (by omega)).1 k (by omega)
    have hlen : (no ++ instL day id ps i).length ≤ 160 := by unfold instL; rw [List.length_append, List.length_map, List.length_range]; omega
    have e : no ++ instL day id ps i ++ [(⟨id + i + 1, 3, dueF day i, rd ps (i : Int)⟩ : S39)] = no ++ instL day id ps (i + 1) := by
      unfold instL
      rw [List.range_succ, List.map_append, List.append_assoc]
      rfl
    rw [setoff_Plan.l1, if_pos (by omega), if_pos (by omega), if_pos (by omega), upI i (by omega), hd, Option.bind_some, if_pos (by omega)]
    dsimp only
    rw [wrapIn (id + (i : Int)) (by omega), wrapIn (id + (i : Int) + 1) (by omega), e]
    exact ih (i + 1) k (by omega) (by omega)
/-- A plan, or none. -/
theorem plan_f (l : List S39) (hin : l.length < 4398046511104 ∧ l.all (fun x => inI x.f0) = true) (day months : Int) (K : Nat) (hK : 400 < K) :
    (∃ e, e ≠ 0 ∧ setoff_Plan.f K l day months = some ([], e)) ∨
    (Debts l ∧ ∃ (d n m0 : Nat) (id : Int) (ps : List Int), day = (d : Int) ∧ d ≤ 36524 ∧ months = (n : Int) ∧ 1 ≤ n ∧ n ≤ 60 ∧ PlanOK l day n id ps m0 ∧ setoff_Plan.f K l day months = some (l.filter (fun x => !lateB day [3] x) ++ instL day id ps n, 0)) := by
  have jt : ∀ k, 0 < k → setoff_Plan.j0 k l day months true = some ([], 1) := fun k hk => by
    obtain ⟨k, rfl⟩ : ∃ n, k = n + 1 := ⟨k - 1, by omega⟩
    rw [setoff_Plan.j0, if_pos rfl]
  have j1t : ∀ k no C, 0 < k → setoff_Plan.j1 k l day months no C true = some ([], 3) := fun k no C hk => by
    obtain ⟨k, rfl⟩ : ∃ n, k = n + 1 := ⟨k - 1, by omega⟩
    rw [setoff_Plan.j1, if_pos rfl]
  have j3t : ∀ k no C id, 0 < k → setoff_Plan.j3 k day months no C id true = some ([], 2) := fun k no C id hk => by
    obtain ⟨k, rfl⟩ : ∃ n, k = n + 1 := ⟨k - 1, by omega⟩
    rw [setoff_Plan.j3, if_pos rfl]
  unfold setoff_Plan.f setoff_Valid.f
  rw [if_pos hin, Option.bind_some]
  by_cases hd : Debts l
  · rw [((valid_iff l).mpr hd).1, decide_eq_true hd.len, Bool.true_and, if_pos rfl, betw, Option.bind_some]
    by_cases h1 : 0 ≤ day ∧ day ≤ 36524
    · rw [decide_eq_true h1, if_pos rfl, betw, Option.bind_some]
      by_cases h2 : 1 ≤ months ∧ months ≤ 60
      · rw [decide_eq_true h2]
        obtain ⟨d, rfl⟩ := Int.eq_ofNat_of_zero_le h1.1
        obtain ⟨n, rfl⟩ := Int.eq_ofNat_of_zero_le (show 0 ≤ months by omega)
        have hdd : d ≤ 36524 := by omega
        obtain ⟨k, rfl⟩ : ∃ n, K = n + 1 := ⟨K - 1, by omega⟩
        have hl := hd.len
        rw [setoff_Plan.j0, Bool.not_true, if_neg (by decide)]
        unfold setoff_late.f
        rw [if_pos ⟨by omega, by simp⟩, Option.bind_some]
        dsimp only
        by_cases h3 : ((l.filter (lateB (d : Int) [3])).length : Int) = 0
        · rw [if_pos h3]
          exact Or.inl ⟨4, by decide, rfl⟩
        rw [if_neg h3]
        have hb : ∀ x ∈ l.filter (lateB (d : Int) [3]), 0 ≤ x.f3 ∧ x.f3 ≤ 1000000000 := fun x hx => ((dOk_iff x).mp (hd.ok x (List.mem_filter.mp hx).1)).2.2.2
        have hfl := List.length_filter_le (lateB (d : Int) [3]) l
        have hfn := List.length_filter_le (fun x => !lateB (d : Int) [3] x) l
        have ea : sumO (l.filter (lateB (d : Int) [3])) = arr l (d : Int) := rfl
        rw [open_f _ (by omega) hb k (by omega), Option.bind_some, ea]
        obtain ⟨m0, c1, c2, c3, c4⟩ := month_f d hdd k (by omega)
        have hins := fun i (hi : i ≤ 1000) => instal_f d hdd m0 c1 c3 c4 k (by omega) i hi
        by_cases h4 : 1199 < m0 + n
        · rw [(hins n (by omega)).1 h4, Option.bind_some]
          dsimp only
          rw [if_neg (by decide), j1t _ _ _ (by omega)]
          exact Or.inl ⟨3, by decide, rfl⟩
        obtain ⟨due, d1, _⟩ := (hins n (by omega)).2 (by omega)
        rw [d1, Option.bind_some]
        dsimp only
        rw [if_pos rfl]
        by_cases h5 : arr l (d : Int) ≤ 1000000000
        · rw [decide_eq_true h5]
          obtain ⟨k, rfl⟩ : ∃ n, k = n + 1 := ⟨k - 1, by omega⟩
          rw [setoff_Plan.j1, Bool.not_true, if_neg (by decide)]
          obtain ⟨k2, rfl⟩ : ∃ k2, k = l.length + k2 + 1 := ⟨k - l.length - 1, by omega⟩
          have hlp := id_loop (d : Int) (n : Int) (l.filter (fun x => !lateB (d : Int) [3] x)) (arr l (d : Int)) l hl l.length 0 k2 0 (by omega)
          rw [List.drop_zero] at hlp
          have e0 : ((0 : Nat) : Int) = 0 := rfl
          rw [e0] at hlp
          rw [hlp]
          obtain ⟨g1, g2, g3⟩ := idF_ge l 0 1000000 (by decide) (fun x hx => ((dOk_iff x).mp (hd.ok x hx)).1.2)
          generalize idF l 0 = id at g1 g2 g3
          unfold tailP
          rw [wrapIn _ (by omega), wrapIn (id + (n : Int)) (by omega)]
          by_cases h6 : (((l.filter (fun x => !lateB (d : Int) [3] x)).length : Int) + (n : Int)) > 100
          · rw [if_pos h6, j3t _ _ _ _ (by omega)]
            exact Or.inl ⟨2, by decide, rfl⟩
          rw [if_neg h6]
          by_cases h7 : id + (n : Int) > 1000000
          · rw [decide_eq_true h7, j3t _ _ _ _ (by omega)]
            exact Or.inl ⟨2, by decide, rfl⟩
          have al := arr_low hd (d : Int)
          obtain ⟨c, hc⟩ := Int.eq_ofNat_of_zero_le al
          obtain ⟨ps, s1, s2, s3, s4⟩ := split_even c n (by omega) (by omega) (by omega)
          obtain ⟨k2, rfl⟩ : ∃ n, k2 = n + 1 := ⟨k2 - 1, by omega⟩
          have hr : slices_Repeat_int_int.f [1] (n : Int) = some (List.replicate n 1) := by
            unfold slices_Repeat_int_int.f
            rw [if_pos ⟨rfl, by omega, by omega⟩]
            rfl
          have ok : PlanOK l (d : Int) n id ps m0 := by
            refine ⟨by omega, c3, c4, fun k hk => month_at d hdd k hk m0 c1 c3 c4, fun i hi => ?_, s2, by rw [s3, hc], fun i hi => by rw [hc]; exact s4 i hi, g2, g1, by omega, by omega, h5⟩
            obtain ⟨du, q1, q2, q3, q4⟩ := (instal_f d hdd m0 c1 c3 c4 20 (by omega) (i + 1) (by omega)).2 (by omega)
            have ed : dueF (d : Int) i = (du : Int) := by unfold dueF; rw [q1]; rfl
            rw [ed]
            exact ⟨fun k hk => inst_k hk q1, q2, q3, by omega, by omega⟩
          rw [decide_eq_false h7, setoff_Plan.j3, if_neg (by decide), hr, Option.bind_some, hc, s1, Option.bind_some]
          dsimp only
          have hend := inst_loop ok (by omega) (l.filter (fun x => !lateB (d : Int) [3] x)) (by omega) n 0 k2 (by omega) (by omega)
          refine Or.inr ⟨hd, d, n, m0, id, ps, rfl, hdd, rfl, by omega, by omega, ok, ?_⟩
          rw [← hend]
          show _ = setoff_Plan.l1 k2 (d : Int) (l.filter (fun x => !lateB (d : Int) [3] x) ++ []) id ps (ps.length : Int) 0
          rw [List.append_nil]
        · rw [decide_eq_false h5, Bool.not_false, j1t _ _ _ (by omega)]
          exact Or.inl ⟨3, by decide, rfl⟩
      · rw [decide_eq_false h2, Bool.not_false, jt _ (by omega)]
        exact Or.inl ⟨1, by decide, rfl⟩
    · rw [decide_eq_false h1, if_neg (by decide), jt _ (by omega)]
      exact Or.inl ⟨1, by decide, rfl⟩
  · have hv : (vD l [] && decide (l.length ≤ 100)) = false := by
      rw [Bool.eq_false_iff]
      intro q
      rw [Bool.and_eq_true] at q
      exact hd ((valid_iff l).mp ⟨q.1, of_decide_eq_true q.2⟩)
    rw [hv, if_neg (by decide), jt _ (by omega)]
    exact Or.inl ⟨1, by decide, rfl⟩
end Go.Proofs.YtnkgnjklkocojaaGreatDoor.Pure

/- Which debts are late, and debts that are left out. No Go and no memory in it. -/
namespace Go.Proofs.YtnkgnjklkocojaaGreatDoor.Pure
open Go.RowKit Go.Proofs.YtnkgnjklkocojaaGreatDoor.X Go.Proofs.YtnkgnjklkocojaaGreatDoorW.PrintWords
set_option linter.unusedVariables false
theorem late_f (x : S39) (d : Int) : cohousingref34_Late.f x.f0 x.f1 x.f2 x.f3 d 3 = some (lateB d [3] x) := by
  unfold cohousingref34_Late.f lateB
  by_cases h1 : x.f3 > 0
  · rw [if_pos h1]
    by_cases h2 : x.f2 < d
    · rw [if_pos h2, if_neg (by decide)]
      have : decide (0 < x.f3) = true := decide_eq_true h1
      simp [h2, this]
      exact Bool.eq_iff_iff.mpr (by simp)
    · rw [if_neg h2]
      simp [h2]
  · rw [if_neg h1]
    have : decide (0 < x.f3) = false := decide_eq_false h1
    simp [this]
theorem debts_filter {l : List S39} (h : Debts l) (p : S39 → Bool) : Debts (l.filter p) :=
  ⟨fun x hx => h.ok x (List.mem_filter.mp hx).1, h.nd.sublist ((List.filter_sublist (p := p)).map _), Nat.le_trans (List.length_filter_le _ _) h.len⟩
end Go.Proofs.YtnkgnjklkocojaaGreatDoor.Pure

/- The law SetoffPlan as a statement over numbers and lists: every input answers true. No Go and no memory in it. -/
namespace Go.Proofs.YtnkgnjklkocojaaGreatDoor.Pure
open Go.RowKit Go.Proofs.YtnkgnjklkocojaaGreatDoor.X Go.Proofs.YtnkgnjklkocojaaGreatDoorW.PrintWords
set_option linter.unusedVariables false
theorem sumO_app : ∀ (a b : List S39), sumO (a ++ b) = sumO a + sumO b
  | [], b => by show sumO b = 0 + sumO b; omega
  | x :: a, b => by rw [List.cons_append, sumO_cons, sumO_cons, sumO_app a b]; omega
theorem sumO_part (p : S39 → Bool) : ∀ l : List S39, sumO l = sumO (l.filter p) + sumO (l.filter (fun x => !p x))
  | [] => rfl
  | x :: l => by
    have ih := sumO_part p l
    cases h : p x with
    | true =>
      rw [List.filter_cons_of_pos h, List.filter_cons_of_neg (by simp [h]), sumO_cons, sumO_cons, ih]
      omega
    | false =>
      rw [List.filter_cons_of_neg (by simp [h]), List.filter_cons_of_pos (by simp [h]), sumO_cons, sumO_cons, ih]
      omega
theorem sumO_bd : ∀ l : List S39, (∀ x ∈ l, 0 ≤ x.f3 ∧ x.f3 ≤ 1000000000) → 0 ≤ sumO l ∧ sumO l ≤ (l.length : Int) * 1000000000
  | [], _ => by show 0 ≤ (0 : Int) ∧ (0 : Int) ≤ _; simp
  | x :: l, h => by
    have ih := sumO_bd l (fun y hy => h y (List.mem_cons_of_mem _ hy))
    have hx := h x List.mem_cons_self
    rw [sumO_cons, List.length_cons]
    omega
theorem sumO_inst (day id : Int) (ps : List Int) : sumO (instL day id ps ps.length) = ps.sum := by
  have h : ∀ n, n ≤ ps.length → sumO (instL day id ps n) = (ps.take n).sum := by
    intro n
    induction n with
    | zero => intro _; rfl
    | succ n ih =>
      intro hn
      have e : instL day id ps (n + 1) = instL day id ps n ++ [instOf day id ps n] := by unfold instL; rw [List.range_succ, List.map_append]; rfl
      have er : rd ps (n : Int) = ps[n] := by unfold rd; simp [show n < ps.length by omega]
      rw [e, sumO_app, ih (by omega), List.take_succ_eq_append_getElem (by omega), List.sum_append]
      show _ + ((instOf day id ps n).f3 + 0) = _
      rw [show (instOf day id ps n).f3 = rd ps (n : Int) from rfl, er]
      simp
  have := h ps.length (Nat.le_refl _)
  rwa [List.take_length] at this
section
variable {l : List S39} {d n m0 : Nat} {id : Int} {ps : List Int} (hd : Debts l) (hdd : d ≤ 36524) (h1 : 1 ≤ n) (h2 : n ≤ 60) (ok : PlanOK l (d : Int) n id ps m0)
/-- The debts that the plan leaves alone. -/
def rest_ (l : List S39) (d : Int) : List S39 := l.filter (fun x => !lateB d [3] x)
theorem inst_len : (instL (d : Int) id ps n).length = n := by unfold instL; rw [List.length_map, List.length_range]
theorem inst_at (i : Nat) (hi : i < n) : rd_T39 (instL (d : Int) id ps n) (i : Int) = instOf (d : Int) id ps i := by
  rw [rdDebt _ i (by rw [inst_len (d := d) (id := id) (ps := ps) (n := n)]; exact hi)]
  simp [instL]
include hd ok in
theorem plan_debts : Debts (rest_ l (d : Int) ++ instL (d : Int) id ps n) := by
  have i0 := ok.id0
  have i1 := ok.id1
  have hr := debts_filter hd (fun x => !lateB (d : Int) [3] x)
  have hin : ∀ x ∈ instL (d : Int) id ps n, ∃ i, i < n ∧ x = instOf (d : Int) id ps i := fun x hx => by
    obtain ⟨i, hi, rfl⟩ := List.mem_map.mp hx
    exact ⟨i, List.mem_range.mp hi, rfl⟩
  refine ⟨fun x hx => ?_, ?_, ?_⟩
  · rcases List.mem_append.mp hx with hx | hx
    · exact hr.ok x hx
    · obtain ⟨i, hi, rfl⟩ := hin x hx
      have a := ok.part i hi
      have b := (ok.due i hi).2.2.2
      have c := ok.sml
      rw [dOk_iff]
      show (1 ≤ id + i + 1 ∧ id + i + 1 ≤ 1000000) ∧ (1 ≤ (3 : Int) ∧ (3 : Int) ≤ 4) ∧ (0 ≤ dueF (d : Int) i ∧ dueF (d : Int) i ≤ 36524) ∧ (0 ≤ rd ps (i : Int) ∧ rd ps (i : Int) ≤ 1000000000)
      omega
  · rw [List.map_append, List.nodup_append]
    refine ⟨hr.nd, ?_, fun a ha b hb e => ?_⟩
    · unfold instL
      rw [List.map_map, List.nodup_iff_pairwise_ne, List.pairwise_map]
      refine List.Pairwise.imp ?_ (List.nodup_iff_pairwise_ne.mp (List.nodup_range (n := n)))
      intro a b hab e
      have e' : id + (a : Int) + 1 = id + (b : Int) + 1 := e
      exact hab (by omega)
    · obtain ⟨x, hx, rfl⟩ := List.mem_map.mp ha
      obtain ⟨y, hy, rfl⟩ := List.mem_map.mp hb
      obtain ⟨i, hi, rfl⟩ := hin y hy
      have := ok.top x (List.mem_filter.mp hx).1
      have e' : x.f0 = id + (i : Int) + 1 := e
      omega
  · have := ok.room
    rw [List.length_append, inst_len (d := d) (id := id) (ps := ps) (n := n)]
    exact this
include ok in
theorem plan_late (x : S39) (hx : x ∈ rest_ l (d : Int) ++ instL (d : Int) id ps n) : lateB (d : Int) [3] x = false := by
  rcases List.mem_append.mp hx with hx | hx
  · have := (List.mem_filter.mp hx).2
    simpa using this
  · obtain ⟨i, hi, rfl⟩ := List.mem_map.mp hx
    have hi := List.mem_range.mp hi
    have a := (ok.due i hi).2.1
    have b := ok.high
    have m1 := ok.m1
    have c := from_le i (m0 + 1) (by omega)
    rw [show m0 + 1 + i = m0 + (i + 1) by omega] at c
    unfold lateB
    have : decide ((instOf (d : Int) id ps i).f2 < (d : Int)) = false := decide_eq_false (by show ¬ dueF (d : Int) i < (d : Int); omega)
    rw [this, Bool.and_false, Bool.false_and]
include hd hdd ok in
theorem plan_l2 : ∀ (j i k : Nat) (x11 : Int), i + j = (rest_ l (d : Int) ++ instL (d : Int) id ps n).length → j + 5000 < k → x11 = sumO ((rest_ l (d : Int) ++ instL (d : Int) id ps n).drop i) →
    cohousinglaw34_SetoffPlan.l2 k (d : Int) true (rest_ l (d : Int) ++ instL (d : Int) id ps n) x11 (rest_ l (d : Int) ++ instL (d : Int) id ps n) ((rest_ l (d : Int) ++ instL (d : Int) id ps n).length : Int) (i : Int) = some true := by
  have hD := plan_debts hd ok
  have hL := plan_late ok
  generalize rest_ l (d : Int) ++ instL (d : Int) id ps n = m at hD hL
  have hml := hD.len
  intro j
  induction j with
  | zero =>
    intro i k x11 hi hk hx
    obtain ⟨k, rfl⟩ : ∃ n, k = n + 1 := ⟨k - 1, by omega⟩
    rw [List.drop_of_length_le (by omega)] at hx
    have hx0 : x11 = 0 := hx
    have hr : Right m 10000 (d : Int) 36525 [] := ⟨hD, by decide, by decide, (str_iff _).mpr ⟨by simp only; omega, by simp only; omega, by simp only; omega⟩, rfl, rfl⟩
    have ha : arr m (d : Int) = 0 := by
      unfold arr
      rw [List.filter_eq_nil_iff.mpr (fun x hx => by simp [hL x hx])]
      rfl
    have hi0 := int_yes k (by omega) (by simp) hr
    have hq : ∀ x, resI 0 x = (0, 0) := fun x => by
      unfold resI intQ
      rw [Int.zero_mul]
      rfl
    rw [ha, hq] at hi0
    rw [cohousinglaw34_SetoffPlan.l2, if_neg (by omega), hi0, Option.bind_some, if_pos rfl, if_pos hx0]
    dsimp only
    rw [if_pos rfl, if_pos rfl]
  | succ j ih =>
    intro i k x11 hi hk hx
    obtain ⟨k, rfl⟩ : ∃ n, k = n + 1 := ⟨k - 1, by omega⟩
    have hil : i < m.length := by omega
    have hb := ((dOk_iff _).mp (hD.ok _ (List.getElem_mem hil))).2.2.2
    have hs := sumO_bd (m.drop (i + 1)) (fun x hx => ((dOk_iff _).mp (hD.ok _ (List.mem_of_mem_drop hx))).2.2.2)
    have hdl : (m.drop (i + 1)).length ≤ 100 := by rw [List.length_drop]; omega
    rw [List.drop_eq_getElem_cons hil, sumO_cons] at hx
    rw [cohousinglaw34_SetoffPlan.l2, if_pos (by omega), if_pos (by omega), if_pos (by omega), if_pos rfl, rdDebt m i hil, late_f, Option.bind_some, hL _ (List.getElem_mem hil), if_neg (by decide), upI i (by omega), wrapIn (x11 - m[i].f3) (by omega)]
    exact ih (i + 1) k _ (by omega) (by omega) (by omega)
include hd hdd ok h1 h2 in
theorem plan_l1 (x11 : Int) (hx : x11 = sumO (rest_ l (d : Int) ++ instL (d : Int) id ps n)) : ∀ (j i k : Nat), i + j = n → j + 6000 < k →
    cohousinglaw34_SetoffPlan.l1 k (d : Int) true (rest_ l (d : Int) ++ instL (d : Int) id ps n) x11 (m0 : Int) (instL (d : Int) id ps n) (instL (d : Int) id ps n) ((instL (d : Int) id ps n).length : Int) (i : Int) = some true := by
  have hD := plan_debts hd ok
  have hlen := inst_len (d := d) (id := id) (ps := ps) (n := n)
  have hml := hD.len
  have m1 := ok.m1
  have sml := ok.sml
  intro j
  induction j with
  | zero =>
    intro i k hi hk
    obtain ⟨k, rfl⟩ : ∃ n, k = n + 1 := ⟨k - 1, by omega⟩
    rw [cohousinglaw34_SetoffPlan.l1, if_neg (by omega)]
    exact plan_l2 hd hdd ok (rest_ l (d : Int) ++ instL (d : Int) id ps n).length 0 k x11 (by omega) (by omega) hx
  | succ j ih =>
    intro i k hi hk
    obtain ⟨k, rfl⟩ : ∃ n, k = n + 1 := ⟨k - 1, by omega⟩
    have hin : i < n := by omega
    obtain ⟨_, d1, d2, d3, d4⟩ := ok.due i hin
    obtain ⟨p1, p2, p3, p4⟩ := ok.part i hin
    obtain ⟨p01, p02, _, _⟩ := ok.part 0 (by omega)
    have e00 : ((0 : Nat) : Int) = 0 := rfl
    rw [e00] at p01 p02
    obtain ⟨du, hdu⟩ := Int.eq_ofNat_of_zero_le d3
    rw [hdu] at d1 d2 d4
    have hM := month_at du (by omega) k (by omega) (m0 + (i + 1)) (by omega) d1 d2
    have r0 := inst_at (d := d) (id := id) (ps := ps) (n := n) 0 (by omega)
    rw [e00] at r0
    rw [cohousinglaw34_SetoffPlan.l1, if_pos (by omega), if_pos (by omega), if_pos (by omega), inst_at (d := d) (id := id) (ps := ps) (n := n) i hin, r0]
    have ef2 : (instOf (d : Int) id ps i).f2 = (du : Int) := hdu
    have ef1 : (instOf (d : Int) id ps i).f1 = 3 := rfl
    have ef3 : (instOf (d : Int) id ps i).f3 = rd ps (i : Int) := rfl
    have ef30 : (instOf (d : Int) id ps 0).f3 = rd ps 0 := rfl
    rw [ef2, ef1, ef3, ef30, hM, Option.bind_some, if_pos rfl]
    dsimp only
    rw [if_pos rfl, if_pos (by rw [wrapIn ((m0 : Int) + (i : Int)) (by omega), wrapIn ((m0 : Int) + (i : Int) + 1) (by omega)]; omega), if_pos rfl, if_pos (by omega), if_pos p3, wrapIn (rd ps 0 - 1) (by omega), if_pos p4, upI i (by omega)]
    exact ih (i + 1) k (by omega) (by omega)
include hd hdd ok h1 h2 in
theorem plan_l0 : ∀ (j i k : Nat), i + j = l.length → j + 7000 < k →
    cohousinglaw34_SetoffPlan.l0 k (d : Int) (n : Int) true (rest_ l (d : Int) ++ instL (d : Int) id ps n) ((l.take i).filter (fun x => !lateB (d : Int) [3] x)) (sumO (l.take i)) l (l.length : Int) (i : Int) = some true := by
  have hD := plan_debts hd ok
  have hlen := inst_len (d := d) (id := id) (ps := ps) (n := n)
  have hml := hD.len
  have hl := hd.len
  have room := ok.room
  intro j
  induction j with
  | zero =>
    intro i k hi hk
    obtain ⟨k, rfl⟩ : ∃ n, k = n + 1 := ⟨k - 1, by omega⟩
    rw [cohousinglaw34_SetoffPlan.l0, if_neg (by omega), List.take_of_length_le (show l.length ≤ i by omega)]
    have er : l.filter (fun x => !lateB (d : Int) [3] x) = rest_ l (d : Int) := rfl
    rw [er] at room ⊢
    have hx : sumO l = sumO (rest_ l (d : Int) ++ instL (d : Int) id ps n) := by
      rw [sumO_app, sumO_part (lateB (d : Int) [3]) l, er]
      have : sumO (l.filter (lateB (d : Int) [3])) = sumO (instL (d : Int) id ps n) := by
        have e := sumO_inst (d : Int) id ps
        rw [ok.len, ok.sum] at e
        rw [e]
        rfl
      omega
    have hlm : ((rest_ l (d : Int) ++ instL (d : Int) id ps n).length : Int) = ((rest_ l (d : Int)).length : Int) + (n : Int) := by rw [List.length_append, hlen]; omega
    have hv : setoff_Valid.f (rest_ l (d : Int) ++ instL (d : Int) id ps n) = some true := by
      unfold setoff_Valid.f
      rw [if_pos (in_debts hD), ((valid_iff _).mpr hD).1, decide_eq_true hml]
      rfl
    rw [if_pos (by rw [hlm, wrapIn _ (by omega)]), hv, Option.bind_some, if_pos rfl, if_pos (by omega), if_pos (by omega), Int.toNat_natCast, List.take_left, same_self _ (by omega) k (by omega), Option.bind_some, Bool.not_true]
    obtain ⟨k, rfl⟩ : ∃ n, k = n + 1 := ⟨k - 1, by omega⟩
    rw [cohousinglaw34_SetoffPlan.j1, if_neg (by decide), ok.month k (by omega), Option.bind_some]
    dsimp only
    rw [if_pos rfl, if_pos (by omega), if_pos (by omega), Int.toNat_natCast, List.drop_left, Option.bind_some]
    exact plan_l1 hd hdd h1 h2 ok (sumO l) hx n 0 k (by omega) (by omega)
  | succ j ih =>
    intro i k hi hk
    obtain ⟨k, rfl⟩ : ∃ n, k = n + 1 := ⟨k - 1, by omega⟩
    have hil : i < l.length := by omega
    have hft : (l.take i).length ≤ 100 := by rw [List.length_take]; omega
    have hfl := List.length_filter_le (fun x => !lateB (d : Int) [3] x) (l.take i)
    have hb := ((dOk_iff _).mp (hd.ok _ (List.getElem_mem hil))).2.2.2
    have hs := sumO_bd (l.take i) (fun x hx => ((dOk_iff _).mp (hd.ok _ (List.mem_of_mem_take hx))).2.2.2)
    have hnx := ih (i + 1) k (by omega) (by omega)
    rw [List.take_succ_eq_append_getElem hil, List.filter_append, sumO_app] at hnx
    have e1 : sumO [l[i]] = l[i].f3 := by show l[i].f3 + 0 = l[i].f3; omega
    rw [e1] at hnx
    rw [cohousinglaw34_SetoffPlan.l0, if_pos (by omega), if_pos (by omega), if_pos (by omega), rdDebt l i hil, late_f, Option.bind_some, upI i (by omega), wrapIn (sumO (l.take i) + l[i].f3) (by omega)]
    cases hc : lateB (d : Int) [3] l[i] with
    | true =>
      rw [List.filter_cons_of_neg (by simp [hc]), List.filter_nil, List.append_nil] at hnx
      rw [if_pos rfl]
      exact hnx
    | false =>
      rw [List.filter_cons_of_pos (by simp [hc]), List.filter_nil] at hnx
      rw [if_neg (by decide), if_pos (by omega)]
      exact hnx
end
theorem SetoffPlan : ∀ (l0 : List S39) (a1 : Int) (a2 : Int), l0.length * 32 ≤ 140737488351232 → (∀ x ∈ l0, (Lit.int .i64 x.f0).wf = true ∧ (Lit.int .i64 x.f1).wf = true ∧ (Lit.int .i64 x.f2).wf = true ∧ (Lit.int .i64 x.f3).wf = true) → (Lit.int .i64 a1).wf = true → (Lit.int .i64 a2).wf = true → ∃ k, cohousinglaw34_SetoffPlan.f k l0 a1 a2 = some true := by
  intro l0 a1 a2 y0 hw0 _ _
  obtain ⟨K, hK⟩ : ∃ K : Nat, 10000 ≤ K := ⟨_, Nat.le_refl _⟩
  refine ⟨20 + K, ?_⟩
  have hin := so_in l0 y0 hw0
  unfold cohousinglaw34_SetoffPlan.f
  rw [head_true, Option.bind_some, if_pos rfl]
  rcases plan_f l0 hin a1 a2 (20 + K) (by omega) with ⟨e, he, hp⟩ | ⟨hd, d, n, m0, id, ps, rfl, hdd, rfl, h1, h2, ok, hp⟩
  · rw [hp, Option.bind_some]
    dsimp only
    rw [if_neg he]
    exact if_pos rfl
  · rw [hp, Option.bind_some]
    dsimp only
    rw [if_pos rfl]
    have := hd.len
    exact plan_l0 hd hdd h1 h2 ok l0.length 0 _ (by omega) (by omega)
end Go.Proofs.YtnkgnjklkocojaaGreatDoor.Pure

