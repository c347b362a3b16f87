/- The law FactsDays as a statement over numbers and lists: every input answers true. No Go and no memory in it. -/
import Derived.Test.YthcjocojngochaaGreatDoorFactsHead
import Derived.Test.YthcjocojngochaaGreatDoorXx17
namespace Go.Proofs.YthcjocojngochaaGreatDoor.Pure
open Go.RowKit Go.Proofs.YthcjocojngochaaGreatDoor.X Go.Proofs.YthcjocojngochaaGreatDoorW.PrintWords
set_option linter.unusedVariables false
theorem wh_set (l : List Rec) (a1 : Int) (a2 : ByteArray) (hl : l.length ≤ 400) (hd : recF.Days (ownS l a1 a2)) (q : Int → Bool) : IsSet (recF.wh (ownS l a1 a2) q) := by
  refine ⟨recF.wh_apart _ hd q, ?_⟩
  have h1 := norm_len (partsS q (recF.cuts (ownS l a1 a2)))
  have h2 := parts_len q (recF.cuts (ownS l a1 a2))
  have h3 := cuts_len (ownS l a1 a2)
  rw [cuts_eq] at h3
  have h4 := own_len l a1 a2
  unfold Fld.wh
  omega
theorem has_set (l : List S24) (h : IsSet l) (k : Nat) (hk : 1000 < k) (d : Int) : cohousinglaw16_has.f k l d = some (mem l d) := by
  unfold cohousinglaw16_has.f span_Has.f
  have h2 := h.2
  rw [valid_eq l k (by omega) (by omega), tr_of h, Option.bind_some, if_pos rfl, Option.bind_some]
  show (if mem l d = true then some ((0 : Int) == 0) else some false) = _
  cases mem l d <;> simp
theorem eq_of_iff {b c : Bool} (h : b = true ↔ c = true) : b = c := by cases b <;> cases c <;> simp_all
theorem arg_parts (l : List Rec) (a1 : Int) (a2 : ByteArray) (x y : Int) : argB l a1 a2 [x, y] = (argB l a1 a2 [x] && dayB y) := by
  unfold argB
  simp [Bool.and_assoc]
theorem arg_two (l : List Rec) (a1 : Int) (a2 : ByteArray) (x y : Int) : argB l a1 a2 [x, y] = (argB l a1 a2 [y] && dayB x) := by
  unfold argB
  simp only [List.all_cons, List.all_nil, Bool.and_true]
  cases dayB x <;> cases dayB y <;> simp
theorem FactsDays : ∀ (l0 : List S26) (a1 : Int) (a2 : ByteArray) (a3 : Int) (a4 : Int) (a5 : Int) (a6 : Int), l0.length * 64 ≤ 140737488351232 → (∀ x ∈ l0, (Lit.int .i64 x.f0).wf = true ∧ x.f1.size ≤ maxLen ∧ (Lit.int .i64 x.f2).wf = true ∧ (Lit.int .i64 x.f3.f0).wf = true ∧ (Lit.int .i64 x.f3.f1).wf = true ∧ (Lit.int .i64 x.f4).wf = true ∧ True) → (Lit.int .i64 a1).wf = true → a2.size ≤ 140737488351232 → (Lit.int .i64 a3).wf = true → (Lit.int .i64 a4).wf = true → (Lit.int .i64 a5).wf = true → (Lit.int .i64 a6).wf = true → ∃ k, cohousinglaw16_FactsDays.f k l0 a1 a2 a3 a4 a5 a6 = some true := by
  intro l0 a1 a2 a3 a4 a5 a6 hz hw w1 w2 w3 w4 w5 w6
  refine ⟨3000, ?_⟩
  unfold cohousinglaw16_FactsDays.f
  rw [head_up 3000 (by omega), Option.bind_some, if_pos rfl]
  by_cases hlen : (l0.length : Int) > 400
  · rw [if_pos hlen]
  rw [if_neg hlen]
  have hl : l0.length ≤ 400 := by omega
  rw [value_f l0 a1 a2 a4 a5 (by omega), value_f l0 a1 a2 a4 a6 (by omega), Option.bind_some, Option.bind_some]
  cases h1 : argB l0 a1 a2 [a4, a5]
  · simp only [if_false, Bool.false_eq_true]
    rw [if_neg (by decide), cohousinglaw16_FactsDays.j0, if_pos rfl]
  cases h2 : argB l0 a1 a2 [a4, a6]
  · simp only [if_false, if_true, Bool.false_eq_true]
    rw [cohousinglaw16_FactsDays.j0, if_pos (by simp)]
  simp only [if_true]
  rw [cohousinglaw16_FactsDays.j0, if_neg (by simp)]
  have b1 := h1
  have b2 := h2
  rw [arg_two] at b1 b2
  have c1 := h1
  rw [arg_parts] at c1
  simp only [Bool.and_eq_true] at b1 b2 c1
  have h3 : argB l0 a1 a2 [a5, a6] = true := by
    rw [arg_parts, b1.1]
    have := b2.1
    unfold argB at this
    simp only [List.all_cons, List.all_nil, Bool.and_true, Bool.and_eq_true] at this
    rw [this.2]
    rfl
  have hday : 0 ≤ a4 ∧ a4 < 36525 := by
    have := b1.2
    unfold dayB at this
    simp at this
    omega
  have hd := own_days h1
  rw [days_f l0 a1 a2 a3 a5 hl, days_f l0 a1 a2 _ a5 hl, differ_f l0 a1 a2 a5 a6 hl, b1.1, h3]
  simp only [if_true, Option.bind_some]
  have sA := fun v => wh_set l0 a1 a2 hl hd (recF.dayP (ownS l0 a1 a2) v a5)
  have sC := wh_set l0 a1 a2 hl hd (recF.difP (ownS l0 a1 a2) a5 a6)
  have vA : ∀ v k, 1000 < k → span_Valid.f k (recF.wh (ownS l0 a1 a2) (recF.dayP (ownS l0 a1 a2) v a5)) = some true := fun v k hk => by
    have := (sA v).2
    rw [valid_eq _ k (by omega) (by omega), tr_of (sA v)]
  have vC : ∀ k, 1000 < k → span_Valid.f k (recF.wh (ownS l0 a1 a2) (recF.difP (ownS l0 a1 a2) a5 a6)) = some true := fun k hk => by
    have := sC.2
    rw [valid_eq _ k (by omega) (by omega), tr_of sC]
  rw [vA _ _ (by omega), Option.bind_some, if_pos rfl, vA _ _ (by omega), Option.bind_some, if_pos rfl, vC _ (by omega), Option.bind_some, cohousinglaw16_FactsDays.j1, if_neg (by simp)]
  rw [has_set _ (sA _) _ (by omega), has_set _ (sA _) _ (by omega), has_set _ sC _ (by omega)]
  simp only [Option.bind_some]
  have mA := fun v => recF.days_mem (ownS l0 a1 a2) hd v a5 a4
  have mC := recF.differ_mem (ownS l0 a1 a2) hd a5 a6 a4
  generalize hr : recF.on (ownS l0 a1 a2) a4 a5 = r at *
  generalize hs : recF.on (ownS l0 a1 a2) a4 a6 = s at *
  have eA : ∀ v, mem (recF.wh (ownS l0 a1 a2) (recF.dayP (ownS l0 a1 a2) v a5)) a4 = (r.2 && (r.1 == v)) := fun v => eq_of_iff (by
    rw [mA v]
    simp [hday.1, hday.2])
  have eC : mem (recF.wh (ownS l0 a1 a2) (recF.difP (ownS l0 a1 a2) a5 a6)) a4 = (r.2 != s.2 || r.1 != s.1) := eq_of_iff (by
    rw [mC]
    obtain ⟨r1, r2⟩ := r
    obtain ⟨s1, s2⟩ := s
    simp only [hday.1, hday.2, true_and, Ne, Prod.mk.injEq, Bool.or_eq_true, bne_iff_ne]
    constructor
    · intro h
      by_cases h5 : r2 = s2
      · exact .inr fun h6 => h ⟨h6, h5⟩
      · exact .inl h5
    · rintro (h | h) ⟨h5, h6⟩
      · exact h h6
      · exact h h5)
  rw [eA, eA, eC]
  obtain ⟨r1, r2⟩ := r
  obtain ⟨s1, s2⟩ := s
  cases r2 <;> cases s2 <;> simp
end Go.Proofs.YthcjocojngochaaGreatDoor.Pure

