/- The law FactsValues as a statement over numbers and lists: every input answers true. No Go and no memory in it. -/
import Derived.Test.YthcjocojngochaaGreatDoorFactsHead
import Derived.Test.YthcjocojngochaaGreatDoorXx19
namespace Go.Proofs.YthcjocojngochaaGreatDoor.Pure
open Go.RowKit Go.Proofs.YthcjocojngochaaGreatDoor.X Go.Proofs.YthcjocojngochaaGreatDoorW.PrintWords Go.Proofs.YthcjocojngochaaGreatDoorW.PrintMore
set_option linter.unusedVariables false
theorem whv_set (l : List Rec) (a1 : Int) (a2 : ByteArray) (hl : l.length ≤ 400) (hd : recF.Days (ownS l a1 a2)) (q : Int → Bool) : IsSet (recF.wh (ownS l a1 a2) q) := by
  refine ⟨recF.wh_apart _ hd q, ?_⟩
  have h1 := norm_len (partsS q (recF.cuts (ownS l a1 a2)))
  have h2 := parts_len q (recF.cuts (ownS l a1 a2))
  have h3 := cuts_len (ownS l a1 a2)
  rw [cuts_eq] at h3
  have h4 := own_len l a1 a2
  unfold Fld.wh
  omega
theorem hasv_set (l : List S24) (h : IsSet l) (k : Nat) (hk : 1000 < k) (d : Int) : cohousinglaw16_has.f k l d = some (mem l d) := by
  unfold cohousinglaw16_has.f span_Has.f
  have h2 := h.2
  rw [valid_eq l k (by omega) (by omega), tr_of h, Option.bind_some, if_pos rfl, Option.bind_some]
  show (if mem l d = true then some ((0 : Int) == 0) else some false) = _
  cases mem l d <;> simp
theorem argv_two (l : List Rec) (a1 : Int) (a2 : ByteArray) (x y : Int) : argB l a1 a2 [x, y] = (argB l a1 a2 [y] && dayB x) := by
  unfold argB
  simp only [List.all_cons, List.all_nil, Bool.and_true]
  cases dayB x <;> cases dayB y <;> simp
theorem rd_val (vs : List Int) (i : Nat) (h : i < vs.length) : rd vs (i : Int) = vs[i] := by
  simp [rd, List.getD_eq_getElem?_getD, List.getElem?_eq_getElem h]
/-! ### the values, each one once -/
def valsF (vs : List Int) (x : Rec) : List Int := if vs.contains x.f2 = true then vs else vs ++ [x.f2]
theorem vals_fact : ∀ (l : List Rec) (vs : List Int), vs.Nodup →
    (l.foldl valsF vs).Nodup ∧ (∀ y, y ∈ l.foldl valsF vs ↔ y ∈ vs ∨ ∃ x ∈ l, x.f2 = y) ∧ (l.foldl valsF vs).length ≤ vs.length + l.length
  | [], vs, h => ⟨h, fun y => by simp, by simp⟩
  | x :: l, vs, h => by
    rw [List.foldl_cons]
    by_cases hx : vs.contains x.f2 = true
    · have e : valsF vs x = vs := by unfold valsF; rw [if_pos hx]
      rw [e]
      obtain ⟨h1, h2, h3⟩ := vals_fact l vs h
      refine ⟨h1, fun y => (h2 y).trans ?_, by simp only [List.length_cons]; omega⟩
      constructor
      · rintro (h4 | ⟨z, h4, h5⟩)
        · exact .inl h4
        · exact .inr ⟨z, List.mem_cons_of_mem _ h4, h5⟩
      · rintro (h4 | ⟨z, h4, h5⟩)
        · exact .inl h4
        · rcases List.mem_cons.1 h4 with rfl | h6
          · exact .inl (h5 ▸ List.contains_iff_mem.1 hx)
          · exact .inr ⟨z, h6, h5⟩
    · have e : valsF vs x = vs ++ [x.f2] := by unfold valsF; rw [if_neg hx]
      rw [e]
      have hn : x.f2 ∉ vs := fun h4 => hx (List.contains_iff_mem.2 h4)
      obtain ⟨h1, h2, h3⟩ := vals_fact l (vs ++ [x.f2]) (List.nodup_append.2 ⟨h, by simp, fun a ha b hb e => hn (by simp only [List.mem_singleton] at hb; rw [← hb, ← e]; exact ha)⟩)
      refine ⟨h1, fun y => (h2 y).trans ?_, by simp only [List.length_cons, List.length_append, List.length_nil] at *; omega⟩
      constructor
      · rintro (h4 | ⟨z, h4, h5⟩)
        · rcases List.mem_append.1 h4 with h6 | h6
          · exact .inl h6
          · exact .inr ⟨x, List.mem_cons_self, (List.mem_singleton.1 h6).symm⟩
        · exact .inr ⟨z, List.mem_cons_of_mem _ h4, h5⟩
      · rintro (h4 | ⟨z, h4, h5⟩)
        · exact .inl (List.mem_append_left _ h4)
        · rcases List.mem_cons.1 h4 with rfl | h6
          · exact .inl (List.mem_append_right _ (List.mem_singleton.2 h5.symm))
          · exact .inr ⟨z, h6, h5⟩
/-- The inner loop: is the value there already? -/
theorem twice_loop (l : List Rec) (a1 : Int) (a2 : ByteArray) (a3 a4 : Int) (is : Bool) (vs : List Int) (hvs : vs.length ≤ 60) (i : Int) (x : Rec) : ∀ (j m n : Nat) (tw : Bool), m + j = vs.length →
    cohousinglaw16_FactsValues.l1 (n + j + 1) l a1 a2 a3 a4 true is vs tw l (l.length : Int) i vs (vs.length : Int) (m : Int) x.f0 x.f1 x.f2 x.f3.f0 x.f3.f1 x.f4 x.f5
      = cohousinglaw16_FactsValues.l0 n l a1 a2 a3 a4 true is (if (tw || (vs.drop m).contains x.f2) = true then vs else vs ++ [x.f2]) l (l.length : Int) (wrap64 (i + 1))
  | 0, m, n, tw, hm => by
    obtain rfl : m = vs.length := by omega
    rw [cohousinglaw16_FactsValues.l1, if_neg (by omega), List.drop_length]
    cases tw
    · rw [if_neg (by simp), if_pos (by omega), if_neg (by simp)]
    · rw [if_pos rfl, if_pos (by simp)]
  | j + 1, m, n, tw, hm => by
    have hlt : m < vs.length := by omega
    have w1 : wrap64 ((m : Int) + 1) = ((m + 1 : Nat) : Int) := by unfold wrap64; omega
    have ih := fun t => twice_loop l a1 a2 a3 a4 is vs hvs i x j (m + 1) n t (by omega)
    rw [show n + (j + 1) + 1 = (n + j + 1) + 1 from by omega, cohousinglaw16_FactsValues.l1, if_pos (by omega), if_pos (by omega), if_pos (by omega), rd_val vs m hlt, w1, List.drop_eq_getElem_cons hlt]
    cases tw
    · rw [if_neg (by simp), ih]
      have e : (x.f2 == vs[m]) = (vs[m] == x.f2) := by rw [Bool.eq_iff_iff, beq_iff_eq, beq_iff_eq]; exact ⟨Eq.symm, Eq.symm⟩
      rw [List.contains_cons, Bool.false_or, e]
    · rw [if_pos rfl, ih]
      simp
/-! ### the sets of days of the values -/
def inQ (s : List Rec) (known : Int) (ws : List Int) (d : Int) : Bool := (recF.on s d known).2 && ws.contains (recF.on s d known).1
theorem inQ_mem (s : List Rec) (hd : recF.Days s) (known : Int) (ws : List Int) (d : Int) :
    mem (recF.wh s (inQ s known ws)) d = true ↔ 0 ≤ d ∧ d < 36525 ∧ (recF.on s d known).2 = true ∧ (recF.on s d known).1 ∈ ws := by
  have := recF.wh_days s hd (fun x _ => x.2 && ws.contains x.1) known known d
  refine Iff.trans (show mem (recF.wh s (inQ s known ws)) d = true ↔ _ from this) ?_
  simp
theorem bool_iff {b c : Bool} (h : b = true ↔ c = true) : b = c := by cases b <;> cases c <;> simp_all
theorem sets_loop (l : List Rec) (hl : l.length ≤ 60) (a1 : Int) (a2 : ByteArray) (known day : Int) (h : argB l a1 a2 [day, known] = true) (vs : List Int) (hn : vs.Nodup) (hv : ∀ y, y ∈ vs ↔ ∃ x ∈ l, x.f2 = y) (hvs : vs.length ≤ 60) : ∀ (j m k : Nat), m + j = vs.length → j + 1500 ≤ k →
    cohousinglaw16_FactsValues.l2 k l a1 a2 known day true (recF.on (ownS l a1 a2) day known).2 (recF.wh (ownS l a1 a2) (inQ (ownS l a1 a2) known (vs.take m))) vs (vs.length : Int) (m : Int) = some true
  | 0, m, k + 1, hm, hk => by
    obtain rfl : m = vs.length := by omega
    have hd := own_days h
    rw [cohousinglaw16_FactsValues.l2, if_neg (by omega), if_pos rfl, hasv_set _ (whv_set l a1 a2 (by omega) hd _) k (by omega), Option.bind_some, List.take_length]
    have hday : 0 ≤ day ∧ day < 36525 := by
      have b := h
      rw [argv_two, Bool.and_eq_true] at b
      have := b.2
      unfold dayB at this
      simp at this
      omega
    have e : mem (recF.wh (ownS l a1 a2) (inQ (ownS l a1 a2) known vs)) day = (recF.on (ownS l a1 a2) day known).2 := bool_iff (by
      rw [inQ_mem _ hd]
      constructor
      · exact fun h => h.2.2.1
      · intro h2
        refine ⟨hday.1, hday.2, h2, (hv _).2 ?_⟩
        obtain ⟨x, hx, he⟩ := recF.on_value ltR_lin _ (own_up l a1 a2) day known h2
        exact ⟨x, ((own_mem l a1 a2 x).1 hx).1, he⟩)
    rw [e]
    simp
  | j + 1, m, k + 1, hm, hk => by
    have hlt : m < vs.length := by omega
    have w1 : wrap64 ((m : Int) + 1) = ((m + 1 : Nat) : Int) := by unfold wrap64; omega
    have hd := own_days h
    have ih := sets_loop l hl a1 a2 known day h vs hn hv hvs j (m + 1) k (by omega) (by omega)
    have h1 : argB l a1 a2 [known] = true := by
      have b := h
      rw [argv_two, Bool.and_eq_true] at b
      exact b.1
    rw [cohousinglaw16_FactsValues.l2, if_pos (by omega), if_pos (by omega), if_pos (by omega), rd_val vs m hlt, w1, days_f l a1 a2 _ known (by omega), if_pos h1, Option.bind_some]
    have sA := whv_set l a1 a2 (by omega) hd (inQ (ownS l a1 a2) known (vs.take m))
    have sB := whv_set l a1 a2 (by omega) hd (recF.dayP (ownS l a1 a2) vs[m] known)
    have sC := whv_set l a1 a2 (by omega) hd (inQ (ownS l a1 a2) known (vs.take (m + 1)))
    have mA := inQ_mem (ownS l a1 a2) hd known (vs.take m)
    have mB := recF.days_mem (ownS l a1 a2) hd vs[m] known
    have mC := inQ_mem (ownS l a1 a2) hd known (vs.take (m + 1))
    have hnot : vs[m] ∉ vs.take m := by
      intro h2
      have h3 := hn
      rw [← List.take_append_drop m vs, List.nodup_append, List.drop_eq_getElem_cons hlt] at h3
      exact h3.2.2 _ h2 _ List.mem_cons_self rfl
    rw [List.take_succ_eq_append_getElem hlt] at ih sC mC
    generalize recF.wh (ownS l a1 a2) (inQ (ownS l a1 a2) known (vs.take m)) = A at *
    generalize recF.wh (ownS l a1 a2) (recF.dayP (ownS l a1 a2) vs[m] known) = B at *
    generalize recF.wh (ownS l a1 a2) (inQ (ownS l a1 a2) known (vs.take m ++ [vs[m]])) = C at *
    have hM : sw (fun x y => x && y) A B = [] := by
      obtain ⟨s1, s2⟩ := sweep_fact (fun x y => x && y) rfl A B sA.1 sB.1
      refine apart_none _ s1 fun d => (s2 d).trans ?_
      cases e1 : mem A d with
      | false => rfl
      | true =>
        cases e2 : mem B d with
        | false => rfl
        | true => exact absurd (((mB d).1 e2).2.2.2 ▸ ((mA d).1 e1).2.2.2) hnot
    have hU : sw (fun x y => x || y) A B = C := by
      obtain ⟨s1, s2⟩ := sweep_fact (fun x y => x || y) rfl A B sA.1 sB.1
      refine apart_ext _ _ s1 sC.1 fun d => (s2 d).trans (bool_iff ?_)
      rw [Bool.or_eq_true, mA, mB, mC, List.mem_append, List.mem_singleton]
      constructor
      · rintro (⟨u1, u2, u3, u4⟩ | ⟨u1, u2, u3, u4⟩)
        · exact ⟨u1, u2, u3, .inl u4⟩
        · exact ⟨u1, u2, u3, .inr u4⟩
      · rintro ⟨u1, u2, u3, u4 | u4⟩
        · exact .inl ⟨u1, u2, u3, u4⟩
        · exact .inr ⟨u1, u2, u3, u4⟩
    have hA := sA.2
    have hB := sB.2
    have hM2 : span_Meet.f k A B = some ([], 0) := by
      unfold span_Meet.f
      rw [sweepO_eq _ k _ _ (by omega) (by omega) (by omega) (by omega), if_pos ⟨tr_of sA, tr_of sB⟩, hM, lim_small (by simp)]
    have hU2 : span_Union.f k A B = some (C, 0) := by
      unfold span_Union.f
      rw [sweepO_eq _ k _ _ (by omega) (by omega) (by omega) (by omega), if_pos ⟨tr_of sA, tr_of sB⟩, hU, lim_small sC.2]
    simp only [hM2, hU2, Option.bind_some, if_true, List.length_nil, Int.ofNat_zero]
    exact ih
/-! ### the law -/
theorem values_loop (l : List Rec) (hl : l.length ≤ 60) (a1 : Int) (a2 : ByteArray) (a3 a4 : Int) (is : Bool)
    (hend : ∀ k, 2000 ≤ k → cohousinglaw16_FactsValues.l2 k l a1 a2 a3 a4 true is [] (l.foldl valsF []) ((l.foldl valsF []).length : Int) 0 = some true) :
    ∀ (j i k : Nat), i + j = l.length → j * 70 + 2001 ≤ k → cohousinglaw16_FactsValues.l0 k l a1 a2 a3 a4 true is ((l.take i).foldl valsF []) l (l.length : Int) (i : Int) = some true
  | 0, i, k + 1, hi, hk => by
    obtain rfl : i = l.length := by omega
    rw [List.take_length, cohousinglaw16_FactsValues.l0, if_neg (by omega)]
    exact hend k (by omega)
  | j + 1, i, k + 1, hi, hk => by
    have hlt : i < l.length := by omega
    have w1 : wrap64 ((i : Int) + 1) = ((i + 1 : Nat) : Int) := by unfold wrap64; omega
    have hlen := (vals_fact (l.take i) [] List.nodup_nil).2.2
    rw [List.length_take] at hlen
    simp only [List.length_nil] at hlen
    rw [cohousinglaw16_FactsValues.l0, if_pos (by omega), if_pos (by omega), if_pos (by omega), rd_rec l i hlt]
    have ih := values_loop l hl a1 a2 a3 a4 is hend j (i + 1) (k - ((l.take i).foldl valsF []).length - 1) (by omega) (by omega)
    rw [List.take_succ_eq_append_getElem hlt, List.foldl_append] at ih
    have tw := twice_loop l a1 a2 a3 a4 is ((l.take i).foldl valsF []) (by omega) (i : Int) l[i] ((l.take i).foldl valsF []).length 0 (k - ((l.take i).foldl valsF []).length - 1) false (by omega)
    rw [show k - ((l.take i).foldl valsF []).length - 1 + ((l.take i).foldl valsF []).length + 1 = k by omega, w1, List.drop_zero, Bool.false_or] at tw
    exact tw.trans ih
theorem FactsValues : ∀ (l0 : List S26) (a1 : Int) (a2 : ByteArray) (a3 : Int) (a4 : Int), l0.length * 64 ≤ 140737488351232 → (∀ x ∈ l0, (Lit.int .i64 x.f0).wf = true ∧ x.f1.size ≤ maxLen ∧ (Lit.int .i64 x.f2).wf = true ∧ (Lit.int .i64 x.f3.f0).wf = true ∧ (Lit.int .i64 x.f3.f1).wf = true ∧ (Lit.int .i64 x.f4).wf = true ∧ True) → (Lit.int .i64 a1).wf = true → a2.size ≤ 140737488351232 → (Lit.int .i64 a3).wf = true → (Lit.int .i64 a4).wf = true → ∃ k, cohousinglaw16_FactsValues.f k l0 a1 a2 a3 a4 = some true := by
  intro l0 a1 a2 a3 a4 hz hw w1 w2 w3 w4
  refine ⟨9001, ?_⟩
  unfold cohousinglaw16_FactsValues.f
  rw [head_up 9001 (by omega), Option.bind_some, if_pos rfl]
  by_cases hlen : (l0.length : Int) > 60
  · rw [if_pos hlen, cohousinglaw16_FactsValues.j0, if_pos rfl]
  rw [if_neg hlen]
  have hl : l0.length ≤ 60 := by omega
  have hV : facts_Valid.f l0 = some (validB l0) := by
    unfold facts_Valid.f
    rw [if_pos (by omega)]
  rw [hV, Option.bind_some, cohousinglaw16_FactsValues.j0]
  cases hv : validB l0
  · rfl
  rw [if_neg (by simp), value_f l0 a1 a2 a4 a3 (by omega), Option.bind_some]
  cases h : argB l0 a1 a2 [a4, a3]
  · simp
  simp only [if_true]
  have hd := own_days h
  obtain ⟨f1, f2, f3⟩ := vals_fact l0 [] List.nodup_nil
  refine values_loop l0 hl a1 a2 a3 a4 _ (fun k hk => ?_) l0.length 0 9000 (by omega) (by omega)
  have f4 : (l0.foldl valsF []).length ≤ 60 := by simp only [List.length_nil] at f3; omega
  have := sets_loop l0 hl a1 a2 a3 a4 h (l0.foldl valsF []) f1 (fun y => (f2 y).trans (by simp)) f4 (l0.foldl valsF []).length 0 k (by omega) (by omega)
  have e : recF.wh (ownS l0 a1 a2) (inQ (ownS l0 a1 a2) a3 ((l0.foldl valsF []).take 0)) = [] := by
    refine apart_none _ (recF.wh_apart _ hd _) fun d => ?_
    cases e1 : mem (recF.wh (ownS l0 a1 a2) (inQ (ownS l0 a1 a2) a3 ((l0.foldl valsF []).take 0))) d with
    | false => rfl
    | true =>
      have := ((inQ_mem _ hd a3 _ d).1 e1).2.2.2
      simp at this
  rw [e] at this
  exact this
end Go.Proofs.YthcjocojngochaaGreatDoor.Pure

