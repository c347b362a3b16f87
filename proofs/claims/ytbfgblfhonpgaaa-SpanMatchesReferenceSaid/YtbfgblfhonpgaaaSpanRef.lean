/- What the reference of span answers, day by day. No Go and no memory in it. (Written by wip/tools/genspanref.py.) -/
import Derived.Test.YtbfgblfhonpgaaaSpanCount
import Derived.Test.YtbfgblfhonpgaaaXx10
import Derived.Test.YtbfgblfhonpgaaaXx11
namespace Go.Proofs.Ytbfgblfhonpgaaa.Pure
open Go.RowKit Go.Proofs.Ytbfgblfhonpgaaa.X Go.Proofs.YtbfgblfhonpgaaaW.PrintWords

/-! ### valid, has, count -/
theorem rstr_eq (x y : Int) : cohousingref04_Stretch.f x y = some (strB ⟨x, y⟩) := by
  unfold cohousingref04_Stretch.f strB
  by_cases h1 : x ≥ 0
  · rw [if_pos h1, decide_eq_true (show (0 : Int) ≤ x by omega), Bool.true_and]
    by_cases h2 : x < y
    · rw [if_pos h2, decide_eq_true (show x < y from h2), Bool.true_and]
    · rw [if_neg h2, decide_eq_false (show ¬ x < y from h2), Bool.false_and]
  · rw [if_neg h1, decide_eq_false (show ¬ (0 : Int) ≤ x by omega), Bool.false_and]
theorem rvalid_l (l : List S30) (hl : l.length ≤ 8796093022208) : ∀ (j i k : Nat), i + j = l.length → cohousingref04_Valid.l0 k l (i : Int) = span_Valid.l0 k l (l.length : Int) (i : Int)
  | _, i, 0, _ => by rw [cohousingref04_Valid.l0, span_Valid.l0]
  | 0, i, k + 1, hi => by rw [cohousingref04_Valid.l0, if_neg (by omega), span_Valid.l0, if_neg (by omega)]
  | j + 1, i, k + 1, hi => by
    have w1 : wrap64 ((i : Int) + 1) = ((i + 1 : Nat) : Int) := by unfold wrap64; omega
    rw [cohousingref04_Valid.l0, if_pos (show (i : Int) < (l.length : Int) by omega), if_pos (show (0 : Int) ≤ (i : Int) by omega), rstr_eq, span_Valid.l0, if_pos (show (i : Int) < (l.length : Int) by omega), if_pos (show (0 : Int) ≤ (i : Int) by omega), if_pos (show (i : Int) < (l.length : Int) by omega), stretch_f, w1, rvalid_l l hl j (i + 1) k (by omega)]
theorem rvalid_eq (l : List S30) (k : Nat) (hl : l.length ≤ 8796093022208) (hk : l.length < k) : cohousingref04_Valid.f k l = some (tr (IsSet l)) := by
  rw [← valid_eq l k hl hk]
  unfold cohousingref04_Valid.f span_Valid.f
  exact rvalid_l l hl l.length 0 k (by omega)
theorem rhas_l (l : List S30) (d : Int) (hl : l.length ≤ 8796093022208) : ∀ (j i k : Nat), i + j = l.length → j < k → cohousingref04_Has.l0 k l d (i : Int) = some (mem (l.drop i) d, 0)
  | 0, i, k + 1, hi, _ => by rw [cohousingref04_Has.l0, if_neg (by omega), List.drop_eq_nil_of_le (by omega)]; rfl
  | j + 1, i, k + 1, hi, hk => by
    have w1 : wrap64 ((i : Int) + 1) = ((i + 1 : Nat) : Int) := by unfold wrap64; omega
    rw [cohousingref04_Has.l0, if_pos (by omega), if_pos (by omega), w1, rhas_l l d hl j (i + 1) k (by omega) (by omega), drop_one l i (by omega), mem_cons]
    generalize rd_T30 l (i : Int) = s
    by_cases h1 : s.f0 ≤ d
    · rw [if_pos h1]
      by_cases h2 : d < s.f1
      · rw [if_pos h2, (in_iff d s).mpr ⟨h1, h2⟩, Bool.true_or]
      · rw [if_neg h2, show dayIn d s = false from Bool.eq_false_iff.mpr (fun h => h2 ((in_iff d s).mp h).2), Bool.false_or]
    · rw [if_neg h1, show dayIn d s = false from Bool.eq_false_iff.mpr (fun h => h1 ((in_iff d s).mp h).1), Bool.false_or]
theorem rhas_eq (l : List S30) (d : Int) (k : Nat) (hl : l.length ≤ 8796093022208) (hk : l.length < k) : cohousingref04_Has.f k l d = some (if tr (IsSet l) = true then (mem l d, 0) else (false, 1)) := by
  unfold cohousingref04_Has.f
  rw [rvalid_eq l k hl hk, Option.bind_some]
  cases tr (IsSet l) with
  | false => rfl
  | true =>
    rw [if_pos rfl, if_pos rfl]
    exact rhas_l l d hl l.length 0 k (by omega) hk
/-- How many days. -/
def countL : List S30 → Int
  | [] => 0
  | s :: l => s.f1 - s.f0 + countL l
theorem count_l (l : List S30) (h : IsSet l) : ∀ (j i k : Nat) (x : Int), i + j = l.length → j < k → 0 ≤ x → x ≤ 36525 * (i : Int) → span_Count.l0 k x l (l.length : Int) (i : Int) = some (x + countL (l.drop i), 0)
  | 0, i, k + 1, x, hi, _, _, _ => by rw [span_Count.l0, if_neg (by omega), List.drop_eq_nil_of_le (by omega), countL, Int.add_zero]
  | j + 1, i, k + 1, x, hi, hk, h0, h1 => by
    have hl := h.2
    have w1 : wrap64 ((i : Int) + 1) = ((i + 1 : Nat) : Int) := by unfold wrap64; omega
    have hs := (str_iff _).mp ((apart_chain h.1).1 i (by omega))
    have w2 : wrap64 ((rd_T30 l (i : Int)).f1 - (rd_T30 l (i : Int)).f0) = (rd_T30 l (i : Int)).f1 - (rd_T30 l (i : Int)).f0 := by clear w1; unfold wrap64; omega
    have w3 : wrap64 (x + ((rd_T30 l (i : Int)).f1 - (rd_T30 l (i : Int)).f0)) = x + ((rd_T30 l (i : Int)).f1 - (rd_T30 l (i : Int)).f0) := by clear w1 w2; unfold wrap64; omega
    rw [span_Count.l0, if_pos (by clear w1 w2 w3; omega), if_pos (by clear w1 w2 w3; omega), if_pos (by clear w1 w2 w3; omega), w1, w2, w3, count_l l h j (i + 1) k _ (by clear w1 w2 w3; omega) (by clear w1 w2 w3; omega) (by clear w1 w2 w3; omega) (by clear w1 w2 w3; omega), drop_one l i (by clear w1 w2 w3; omega), countL, Int.add_assoc]
theorem count_eq (l : List S30) (k : Nat) (hl : l.length ≤ 8796093022208) (hk : l.length < k) : span_Count.f k l = some (if tr (IsSet l) = true then (countL l, 0) else (0, 1)) := by
  unfold span_Count.f
  rw [valid_eq l k hl hk, Option.bind_some]
  by_cases h : IsSet l
  · rw [tr_of h, if_pos rfl, if_pos rfl]
    have := count_l l h l.length 0 k 0 (by omega) hk (by omega) (by omega)
    rw [Int.zero_add] at this
    exact this
  · rw [tr_not h]; rfl
theorem rcount_l (l : List S30) (h : IsSet l) : ∀ (j i k : Nat) (x : Int), i + j = l.length → j < k → 0 ≤ x → x ≤ 36525 * (i : Int) → cohousingref04_Count.l0 k l x (i : Int) = some (x + countL (l.drop i), 0)
  | 0, i, k + 1, x, hi, _, _, _ => by rw [cohousingref04_Count.l0, if_neg (by omega), List.drop_eq_nil_of_le (by omega), countL, Int.add_zero]
  | j + 1, i, k + 1, x, hi, hk, h0, h1 => by
    have hl := h.2
    have w1 : wrap64 ((i : Int) + 1) = ((i + 1 : Nat) : Int) := by unfold wrap64; omega
    have hs := (str_iff _).mp ((apart_chain h.1).1 i (by omega))
    have w2 : wrap64 (x + (rd_T30 l (i : Int)).f1) = x + (rd_T30 l (i : Int)).f1 := by clear w1; unfold wrap64; omega
    have w3 : wrap64 (x + (rd_T30 l (i : Int)).f1 - (rd_T30 l (i : Int)).f0) = x + ((rd_T30 l (i : Int)).f1 - (rd_T30 l (i : Int)).f0) := by clear w1 w2; unfold wrap64; omega
    rw [cohousingref04_Count.l0, if_pos (by clear w1 w2 w3; omega), if_pos (by clear w1 w2 w3; omega), w1, w2, w3, rcount_l l h j (i + 1) k _ (by clear w1 w2 w3; omega) (by clear w1 w2 w3; omega) (by clear w1 w2 w3; omega) (by clear w1 w2 w3; omega), drop_one l i (by clear w1 w2 w3; omega), countL, Int.add_assoc]
theorem rcount_eq (l : List S30) (k : Nat) (hl : l.length ≤ 8796093022208) (hk : l.length < k) : cohousingref04_Count.f k l = some (if tr (IsSet l) = true then (countL l, 0) else (0, 1)) := by
  unfold cohousingref04_Count.f
  rw [rvalid_eq l k hl hk, Option.bind_some]
  by_cases h : IsSet l
  · rw [tr_of h, if_pos rfl, if_pos rfl]
    have := rcount_l l h l.length 0 k 0 (by omega) hk (by omega) (by omega)
    rw [Int.zero_add] at this
    exact this
  · rw [tr_not h]; rfl
/-! ### marks -/
/-- The marks of the first N days. -/
def mk (N : Nat) (p : Int → Bool) : List Bool := (List.range N).map (fun (d : Nat) => p (d : Int))
theorem mk_len (N : Nat) (p : Int → Bool) : (mk N p).length = N := by unfold mk; rw [List.length_map, List.length_range]
theorem mk_get (N : Nat) (p : Int → Bool) (n : Nat) (h : n < N) : rdOf false (mk N p) (n : Int) = p (n : Int) := by
  unfold rdOf
  rw [Int.toNat_natCast, List.getD_eq_getElem?_getD, List.getElem?_eq_getElem (by rw [mk_len]; exact h)]
  unfold mk
  rw [List.getElem_map, List.getElem_range]
  rfl
theorem mk_at (N : Nat) (p : Int → Bool) (i : Nat) (h : i < (mk N p).length) : (mk N p)[i]'h = p (i : Int) := by simp [mk]
theorem mk_set (N : Nat) (p : Int → Bool) (n : Nat) (v : Bool) : (mk N p).set n v = mk N (fun x => if x = (n : Int) then v else p x) := by
  refine List.ext_getElem (by rw [List.length_set, mk_len, mk_len]) fun i h1 h2 => ?_
  rw [List.getElem_set, mk_at, mk_at]
  by_cases h : n = i
  · rw [if_pos h, if_pos (by rw [h])]
  · rw [if_neg h, if_neg (by omega)]
theorem mk_false (N : Nat) : List.replicate N false = mk N (fun _ => false) := by
  refine List.ext_getElem (by rw [List.length_replicate, mk_len]) fun i h1 h2 => ?_
  rw [List.getElem_replicate, mk_at]
/-- The days from i on that are marked, one by one. -/
def ones (p : Int → Bool) : Int → Nat → List S30
  | _, 0 => []
  | i, j + 1 => if p i = true then ⟨i, i + 1⟩ :: ones p (i + 1) j else ones p (i + 1) j
theorem ones_fact (p : Int → Bool) : ∀ (j : Nat) (i : Int), (∀ s ∈ ones p i j, i ≤ s.f0 ∧ s.f1 = s.f0 + 1 ∧ s.f1 ≤ i + j) ∧ (ones p i j).Pairwise (fun a b => a.f0 ≤ b.f0) ∧ ∀ x, mem (ones p i j) x = (decide (i ≤ x) && (decide (x < i + j) && p x))
  | 0, i => by
    refine ⟨by simp [ones], by simp [ones], fun x => ?_⟩
    have : ¬ (i ≤ x ∧ x < i + (0 : Nat)) := by omega
    rw [ones]
    by_cases h1 : i ≤ x
    · rw [decide_eq_false (show ¬ x < i + (0 : Nat) by omega), Bool.false_and, Bool.and_false]; rfl
    · rw [decide_eq_false h1]; rfl
  | j + 1, i => by
    obtain ⟨h1, h2, h3⟩ := ones_fact p j (i + 1)
    rw [ones]
    have g1 : ∀ s ∈ ones p (i + 1) j, i ≤ s.f0 ∧ s.f1 = s.f0 + 1 ∧ s.f1 ≤ i + (j + 1 : Nat) := fun s hs => by have := h1 s hs; omega
    by_cases hp : p i = true
    · rw [if_pos hp]
      refine ⟨fun s hs => ?_, List.pairwise_cons.mpr ⟨fun s hs => (g1 s hs).1, h2⟩, fun x => ?_⟩
      · rcases List.mem_cons.mp hs with rfl | hs
        · exact ⟨Int.le_refl _, rfl, by simp only; omega⟩
        · exact g1 s hs
      · rw [mem_cons, h3]
        rcases Int.lt_trichotomy x i with h | h | h
        · rw [show dayIn x ⟨i, i + 1⟩ = false from Bool.eq_false_iff.mpr (fun e => by have h5 : i ≤ x ∧ x < i + 1 := (in_iff _ _).mp e; omega), decide_eq_false (show ¬ i + 1 ≤ x by omega), decide_eq_false (show ¬ i ≤ x by omega)]; rfl
        · subst h
          rw [show dayIn x ⟨x, x + 1⟩ = true from (in_iff _ _).mpr ⟨Int.le_refl _, by show x < x + 1; omega⟩, decide_eq_true (Int.le_refl x), decide_eq_true (show x < x + (j + 1 : Nat) by omega), hp]; rfl
        · rw [show dayIn x ⟨i, i + 1⟩ = false from Bool.eq_false_iff.mpr (fun e => by have h5 : i ≤ x ∧ x < i + 1 := (in_iff _ _).mp e; omega), decide_eq_true (show i + 1 ≤ x by omega), decide_eq_true (show i ≤ x by omega), Bool.false_or, show (i + 1 + (j : Int)) = i + (j + 1 : Nat) by omega]
    · rw [if_neg hp]
      refine ⟨g1, h2, fun x => ?_⟩
      rw [h3]
      rcases Int.lt_trichotomy x i with h | h | h
      · rw [decide_eq_false (show ¬ i + 1 ≤ x by omega), decide_eq_false (show ¬ i ≤ x by omega)]; rfl
      · subst h
        rw [decide_eq_false (show ¬ x + 1 ≤ x by omega), Bool.eq_false_iff.mpr hp, Bool.false_and, Bool.and_false, Bool.and_false]
      · rw [decide_eq_true (show i + 1 ≤ x by omega), decide_eq_true (show i ≤ x by omega), show (i + 1 + (j : Int)) = i + (j + 1 : Nat) by omega]
/-- The set with the days that are marked. -/
def setL (N : Nat) (p : Int → Bool) : List S30 := (ones p 0 N).foldl addF []
theorem setL_fact (N : Nat) (hN : N ≤ 36525) (p : Int → Bool) : Apart (setL N p) ∧ ∀ x, mem (setL N p) x = (decide (0 ≤ x) && (decide (x < (N : Int)) && p x)) := by
  obtain ⟨h1, h2, h3⟩ := ones_fact p N 0
  obtain ⟨g1, g2⟩ := fold_ok (ones p 0 N) [] Apart.nil (fun s hs => by have := h1 s hs; rw [str_iff]; omega) h2 (by simp)
  refine ⟨g1, fun x => ?_⟩
  unfold setL
  rw [g2, h3]
  show (false || _) = _
  rw [Bool.false_or, Int.zero_add]
theorem set_l (N : Nat) (hN : N ≤ 36525) (p : Int → Bool) : ∀ (j i k : Nat) (out : List S30), i + j = N → j < k → (∀ t ∈ out, t.f1 ≤ (i : Int)) → out.length ≤ i →
    cohousingref04_Set.l0 k (mk N p) out (i : Int) = some (limF ((ones p (i : Int) j).foldl addF out))
  | 0, i, k + 1, out, hi, _, _, _ => by
    rw [cohousingref04_Set.l0, if_neg (by rw [mk_len]; omega), ones]
    show _ = some (limF out)
    unfold limF
    by_cases h : out.length > 1000
    · rw [if_pos (by omega), if_pos h]
    · rw [if_neg (by omega), if_neg h]
  | j + 1, i, k + 1, out, hi, hk, ho, hlen => by
    have w1 : wrap64 ((i : Int) + 1) = ((i + 1 : Nat) : Int) := by unfold wrap64; omega
    have e1 : ((i + 1 : Nat) : Int) = (i : Int) + 1 := by omega
    have ih : ∀ out', (∀ t ∈ out', t.f1 ≤ ((i + 1 : Nat) : Int)) → out'.length ≤ i + 1 → cohousingref04_Set.l0 k (mk N p) out' ((i + 1 : Nat) : Int) = some (limF ((ones p ((i : Int) + 1) j).foldl addF out')) :=
      fun out' a b => by rw [set_l N hN p j (i + 1) k out' (by clear w1; omega) (by clear w1; omega) a b, e1]
    rw [cohousingref04_Set.l0, if_pos (by rw [mk_len]; clear w1; omega), if_pos (by clear w1; omega), mk_get N p i (by clear w1; omega), w1, ones]
    by_cases hp : p (i : Int) = true
    · rw [if_pos hp, if_pos hp, List.foldl_cons]
      rcases List.eq_nil_or_concat out with rfl | ⟨o, t, rfl⟩
      · rw [if_neg (by simp), if_pos (by simp), addF_nil, e1, List.nil_append, ← e1]
        rw [ih [⟨(i : Int), ((i + 1 : Nat) : Int)⟩] (fun t ht => by rw [List.mem_singleton.mp ht]; exact Int.le_refl _) (by simp), e1]
      · rw [List.concat_eq_append] at ho hlen ⊢
        have hl : (o ++ [t]).length = o.length + 1 := by simp
        have w2 : wrap64 (((o ++ [t]).length : Int) - 1) = (o.length : Int) := by clear w1; rw [hl]; unfold wrap64; rw [hl] at hlen; omega
        have hr : rd_T30 (o ++ [t]) (o.length : Int) = t := by
          rw [rd30_nat _ _ (by simp)]
          simp
        have ht := ho t (by simp)
        have hlen' : o.length + 1 ≤ i := by rw [← hl]; exact hlen
        have ho' : ∀ s ∈ o, s.f1 ≤ (i : Int) := fun s hs => ho s (List.mem_append_left _ hs)
        clear w1
        rw [if_pos (by rw [hl]; clear w2; omega), w2, if_pos (by clear w2; omega), if_pos (by rw [hl]; clear w2; omega), hr, addF_snoc]
        clear w2
        by_cases hj : t.f1 = (i : Int)
        · rw [if_pos hj, if_pos (show t.f1 ≥ (⟨(i : Int), (i : Int) + 1⟩ : S30).f0 from by show t.f1 ≥ (i : Int); omega)]
          have em : mx t.f1 ((i : Int) + 1) = ((i + 1 : Nat) : Int) := by unfold mx; split <;> omega
          have es : (o ++ [t]).set ((o.length : Int)).toNat ⟨t.f0, ((i + 1 : Nat) : Int)⟩ = o ++ [⟨t.f0, ((i + 1 : Nat) : Int)⟩] := by
            rw [Int.toNat_natCast]
            simp
          show _ = some (limF ((ones p ((i : Int) + 1) j).foldl addF (o ++ [⟨t.f0, mx t.f1 ((i : Int) + 1)⟩])))
          rw [es, em]
          refine ih _ (fun s hs => ?_) (by simp; omega)
          rcases List.mem_append.mp hs with hs | hs
          · have := ho' s hs; omega
          · rw [List.mem_singleton.mp hs]; exact Int.le_refl _
        · rw [if_neg hj, if_pos (by rw [hl]; omega), if_neg (show ¬ t.f1 ≥ (⟨(i : Int), (i : Int) + 1⟩ : S30).f0 from by show ¬ t.f1 ≥ (i : Int); omega), ← e1]
          have ih2 := ih ((o ++ [t]) ++ [(⟨(i : Int), ((i + 1 : Nat) : Int)⟩ : S30)]) (fun s hs => by
            rcases List.mem_append.mp hs with hs | hs
            · have := ho s hs; omega
            · rw [List.mem_singleton.mp hs]; exact Int.le_refl _) (by simp; omega)
          rw [← e1] at ih2
          exact ih2
    · rw [if_neg hp, if_neg hp]
      exact ih out (fun t ht => by have := ho t ht; clear w1; omega) (by clear w1; omega)
theorem set_eq (N : Nat) (hN : N ≤ 36525) (p : Int → Bool) (k : Nat) (hk : N < k) : cohousingref04_Set.f k (mk N p) = some (limF (setL N p)) := by
  unfold cohousingref04_Set.f
  exact set_l N hN p N 0 k [] (by omega) hk (by simp) (by simp)
theorem marks_l1 (N : Nat) (hN : N ≤ 36525) (l : List S30) (i : Nat) (hi : i < l.length) (hl : l.length ≤ 8796093022208) (hb : (rd_T30 l (i : Int)).f1 ≤ (N : Int)) : ∀ (j k d : Nat) (q : Int → Bool), (d : Int) + j = (rd_T30 l (i : Int)).f1 →
    cohousingref04_Marks.l1 (k + j + 1) l (mk N q) (i : Int) (d : Int) = cohousingref04_Marks.l0 k l (mk N (fun x => q x || (decide ((d : Int) ≤ x) && decide (x < (rd_T30 l (i : Int)).f1)))) ((i + 1 : Nat) : Int)
  | 0, k, d, q, hd => by
    have w1 : wrap64 ((i : Int) + 1) = ((i + 1 : Nat) : Int) := by unfold wrap64; omega
    rw [cohousingref04_Marks.l1, w1, if_pos (by clear w1; omega), if_pos (by clear w1; omega), if_neg (by clear w1; omega)]
    have : (fun x => q x || (decide ((d : Int) ≤ x) && decide (x < (rd_T30 l (i : Int)).f1))) = q := by
      funext x
      by_cases h : (d : Int) ≤ x
      · rw [decide_eq_false (show ¬ x < (rd_T30 l (i : Int)).f1 by clear w1; omega), Bool.and_false, Bool.or_false]
      · rw [decide_eq_false h, Bool.false_and, Bool.or_false]
    rw [this, Nat.add_zero]
  | j + 1, k, d, q, hd => by
    have w2 : wrap64 ((d : Int) + 1) = ((d + 1 : Nat) : Int) := by unfold wrap64; omega
    rw [cohousingref04_Marks.l1, w2, if_pos (by clear w2; omega), if_pos (by clear w2; omega), if_pos (by clear w2; omega), if_pos (by clear w2; omega), if_pos (by rw [mk_len]; clear w2; omega), Int.toNat_natCast, mk_set,
      show k + (j + 1) = k + j + 1 by clear w2; omega, marks_l1 N hN l i hi hl hb j k (d + 1) _ (by clear w2; omega)]
    have : (fun x => (if x = (d : Int) then true else q x) || (decide (((d + 1 : Nat) : Int) ≤ x) && decide (x < (rd_T30 l (i : Int)).f1))) = (fun x => q x || (decide ((d : Int) ≤ x) && decide (x < (rd_T30 l (i : Int)).f1))) := by
      clear w2
      funext x
      rcases Int.lt_trichotomy x (d : Int) with h | h | h
      · rw [if_neg (by omega), decide_eq_false (show ¬ ((d + 1 : Nat) : Int) ≤ x by omega), decide_eq_false (show ¬ (d : Int) ≤ x by omega)]
      · rw [if_pos h, decide_eq_true (show (d : Int) ≤ x by omega), decide_eq_true (show x < (rd_T30 l (i : Int)).f1 by omega)]
        simp
      · rw [if_neg (by omega), decide_eq_true (show ((d + 1 : Nat) : Int) ≤ x by omega), decide_eq_true (show (d : Int) ≤ x by omega)]
    rw [this]
theorem marks_l (N : Nat) (hN : N ≤ 36525) (l : List S30) (hl : l.length ≤ 8796093022208) (hs : ∀ n, n < l.length → 0 ≤ (rd_T30 l (n : Int)).f0 ∧ (rd_T30 l (n : Int)).f0 < (rd_T30 l (n : Int)).f1 ∧ (rd_T30 l (n : Int)).f1 ≤ (N : Int)) : ∀ (j i k : Nat) (q : Int → Bool), i + j = l.length → 36527 * j < k →
    cohousingref04_Marks.l0 k l (mk N q) (i : Int) = some (mk N (fun x => q x || mem (l.drop i) x))
  | 0, i, k, q, hi, hk => by
    obtain ⟨k, rfl⟩ : ∃ j, k = j + 1 := ⟨k - 1, by omega⟩
    rw [cohousingref04_Marks.l0, if_neg (by omega), List.drop_eq_nil_of_le (by omega)]
    have : (fun x => q x || mem ([] : List S30) x) = q := by funext x; exact Bool.or_false _
    rw [this]
  | j + 1, i, k, q, hi, hk => by
    have h := hs i (by omega)
    have e0 : (((rd_T30 l (i : Int)).f0.toNat : Nat) : Int) = (rd_T30 l (i : Int)).f0 := by omega
    have key : ∀ k', (36527 * j < k') → cohousingref04_Marks.l1 (k' + ((rd_T30 l (i : Int)).f1 - (rd_T30 l (i : Int)).f0).toNat + 1) l (mk N q) (i : Int) (rd_T30 l (i : Int)).f0 = some (mk N (fun x => q x || mem (l.drop i) x)) := by
      intro k' hk'
      have := marks_l1 N hN l i (by omega) hl h.2.2 ((rd_T30 l (i : Int)).f1 - (rd_T30 l (i : Int)).f0).toNat k' (rd_T30 l (i : Int)).f0.toNat q (by omega)
      rw [e0] at this
      rw [this, marks_l N hN l hl hs j (i + 1) k' _ (by omega) hk', drop_one l i (by omega)]
      congr 2
      funext x
      rw [mem_cons, Bool.or_assoc]
      rfl
    have hle : ((rd_T30 l (i : Int)).f1 - (rd_T30 l (i : Int)).f0).toNat ≤ 36525 := by omega
    obtain ⟨k', rfl⟩ : ∃ k', k = k' + ((rd_T30 l (i : Int)).f1 - (rd_T30 l (i : Int)).f0).toNat + 1 + 1 := ⟨k - ((rd_T30 l (i : Int)).f1 - (rd_T30 l (i : Int)).f0).toNat - 2, by omega⟩
    rw [cohousingref04_Marks.l0, if_pos (by omega), if_pos (by omega)]
    exact key k' (by omega)
theorem marks_eq (l : List S30) (hl : l.length ≤ 1200) (hs : ∀ s ∈ l, strB s = true) (k : Nat) (hk : 1200 * 36527 < k) : cohousingref04_Marks.f k l = some (mk 36525 (mem l)) := by
  unfold cohousingref04_Marks.f
  have hs' : ∀ n, n < l.length → 0 ≤ (rd_T30 l (n : Int)).f0 ∧ (rd_T30 l (n : Int)).f0 < (rd_T30 l (n : Int)).f1 ∧ (rd_T30 l (n : Int)).f1 ≤ ((36525 : Nat) : Int) := by
    intro n hn
    have := (str_iff _).mp (hs (rd_T30 l (n : Int)) (by rw [rd30_nat l n hn]; exact List.getElem_mem _))
    omega
  have := marks_l 36525 (Nat.le_refl _) l (by omega) hs' l.length 0 k (fun _ => false) (by omega) (by omega)
  rw [if_pos (by decide), mk_false]
  refine this.trans ?_
  congr 2
/-! ### the operations -/
theorem in_days (l : List S30) (hs : ∀ s ∈ l, strB s = true) (d : Int) : (decide (0 ≤ d) && (decide (d < ((36525 : Nat) : Int)) && mem l d)) = mem l d := by
  cases h : mem l d with
  | false => rw [Bool.and_false, Bool.and_false]
  | true =>
    obtain ⟨s, h1, h2, h3⟩ := (mem_iff _ _).mp h
    have := (str_iff s).mp (hs s h1)
    rw [decide_eq_true (show 0 ≤ d by omega), decide_eq_true (show d < ((36525 : Nat) : Int) by omega)]
    rfl
theorem rnorm_l (l : List S30) (hl : l.length ≤ 1200) : ∀ (j i k : Nat), i + j = l.length → 1200 * 36527 + j + 1 < k → (∀ n, n < i → strB (rd_T30 l (n : Int)) = true) → cohousingref04_Normal.l0 k l (i : Int) = some (normF l)
  | 0, i, k, hi, hk, hs => by
    have hs' : ∀ s ∈ l, strB s = true := by
      intro s h
      obtain ⟨n, hn, rfl⟩ := List.mem_iff_getElem.mp h
      rw [← rd30_nat l n hn]
      exact hs n (by omega)
    obtain ⟨k, rfl⟩ : ∃ j, k = j + 1 := ⟨k - 1, by omega⟩
    rw [cohousingref04_Normal.l0, if_neg (by omega), marks_eq l hl hs' k (by omega), Option.bind_some, set_eq 36525 (Nat.le_refl _) _ k (by omega), Option.bind_some, normF_eq, if_pos (List.all_eq_true.mpr hs')]
    obtain ⟨a1, a2⟩ := norm_ok l hs'
    obtain ⟨b1, b2⟩ := setL_fact 36525 (Nat.le_refl _) (mem l)
    rw [apart_ext _ _ b1 a1 (fun d => by rw [b2, a2]; exact in_days l hs' d)]
  | j + 1, i, k, hi, hk, hs => by
    have w1 : wrap64 ((i : Int) + 1) = ((i + 1 : Nat) : Int) := by unfold wrap64; omega
    obtain ⟨k, rfl⟩ : ∃ j, k = j + 1 := ⟨k - 1, by clear w1; omega⟩
    rw [cohousingref04_Normal.l0, if_pos (by clear w1; omega), if_pos (by clear w1; omega), rstr_eq, Option.bind_some, w1]
    clear w1
    by_cases h : strB (rd_T30 l (i : Int)) = true
    · rw [show strB (⟨(rd_T30 l (i : Int)).f0, (rd_T30 l (i : Int)).f1⟩ : S30) = strB (rd_T30 l (i : Int)) from rfl, if_pos h]
      refine rnorm_l l hl j (i + 1) k (by omega) (by omega) fun n hn => ?_
      rcases Nat.lt_or_ge n i with h1 | h1
      · exact hs n h1
      · have : n = i := by omega
        subst this; exact h
    · rw [show strB (⟨(rd_T30 l (i : Int)).f0, (rd_T30 l (i : Int)).f1⟩ : S30) = strB (rd_T30 l (i : Int)) from rfl, if_neg h, normF_eq, if_neg]
      intro h1
      exact h (List.all_eq_true.mp h1 _ (by rw [rd30_nat l i (by omega)]; exact List.getElem_mem _))
theorem rnorm_eq (l : List S30) (hl : l.length ≤ 1200) (k : Nat) (hk : 1200 * 36527 + 1202 < k) : cohousingref04_Normal.f k l = some (normF l) := by
  unfold cohousingref04_Normal.f
  exact rnorm_l l hl l.length 0 k (by omega) (by omega) (fun n h => absurd h (by omega))
theorem runion_l (N : Nat) (hN : N ≤ 36525) (p q : Int → Bool) : ∀ (j i k : Nat), i + j = N → N + j + 1 < k → cohousingref04_Union.l0 k (mk N (fun x => if x < (i : Int) then (p x || q x) else p x)) (mk N q) (i : Int) = some (limF (setL N (fun x => if x < (N : Int) then (p x || q x) else p x)))
  | 0, i, k, hi, hk => by
    obtain rfl : i = N := by omega
    obtain ⟨k, rfl⟩ : ∃ j, k = j + 1 := ⟨k - 1, by omega⟩
    rw [cohousingref04_Union.l0, if_neg (by rw [mk_len]; omega), set_eq i hN _ k (by omega), Option.bind_some]
  | j + 1, i, k, hi, hk => by
    have w1 : wrap64 ((i : Int) + 1) = ((i + 1 : Nat) : Int) := by unfold wrap64; omega
    obtain ⟨k, rfl⟩ : ∃ j, k = j + 1 := ⟨k - 1, by clear w1; omega⟩
    rw [cohousingref04_Union.l0, if_pos (by rw [mk_len]; clear w1; omega), if_pos (by clear w1; omega), mk_get N _ i (by clear w1; omega), if_neg (Int.lt_irrefl _), mk_get N q i (by clear w1; omega), w1, Int.toNat_natCast, mk_set, mk_set, mk_len]
    clear w1
    have ih := runion_l N hN p q j (i + 1) k (by omega) (by omega)
    have e : ∀ v : Bool, v = (p (i : Int) || q (i : Int)) → (fun x => if x = (i : Int) then v else if x < (i : Int) then (p x || q x) else p x) = (fun x => if x < ((i + 1 : Nat) : Int) then (p x || q x) else p x) := by
      intro v hv
      funext x
      rcases Int.lt_trichotomy x (i : Int) with h | h | h
      · rw [if_neg (by omega), if_pos h, if_pos (by omega)]
      · rw [if_pos h, if_pos (by omega), hv, h]
      · rw [if_neg (by omega), if_neg (by omega), if_neg (by omega)]
    cases hp : p (i : Int) with
    | true =>
      rw [if_pos rfl, e true (by rw [hp]; rfl)]
      exact ih
    | false =>
      rw [if_neg (by decide), if_pos (by omega), e (q (i : Int)) (by rw [hp]; rfl)]
      exact ih
theorem runion_eq (a b : List S30) (ha : a.length ≤ 1200) (hb : b.length ≤ 1200) (k : Nat) (hk : 1200 * 36527 + 80000 < k) :
    cohousingref04_Union.f k a b = some (if tr (IsSet a) = true ∧ tr (IsSet b) = true then limF (sw (fun x y => (x || y)) a b) else ([], 1)) := by
  have hj : ∀ k f, 1200 * 36527 + 79000 < k → (f = false → IsSet a ∧ IsSet b) → cohousingref04_Union.j0 k a b f = some (if f = false then limF (sw (fun x y => (x || y)) a b) else ([], 1)) := by
    intro k f hk hf
    obtain ⟨k, rfl⟩ : ∃ j, k = j + 1 := ⟨k - 1, by omega⟩
    rw [cohousingref04_Union.j0]
    cases f with
    | true => rfl
    | false =>
      obtain ⟨h1, h2⟩ := hf rfl
      rw [if_neg (by decide), marks_eq a ha h1.1.str k (by omega), marks_eq b hb h2.1.str k (by omega), Option.bind_some, Option.bind_some]
      have := runion_l 36525 (Nat.le_refl _) (mem a) (mem b) 36525 0 k (by omega) (by omega)
      have e : (fun x => if x < ((0 : Nat) : Int) then (mem a x || mem b x) else mem a x) = mem a := by
        funext x
        by_cases h : x < ((0 : Nat) : Int)
        · rw [if_pos h]
          have g : ∀ l : List S30, Apart l → mem l x = false := fun l hl => mem_none _ _ fun s hs hx => by have := (str_iff s).mp (hl.str s hs); omega
          rw [g a h1.1, g b h2.1]; rfl
        · rw [if_neg h]
      rw [e] at this
      refine this.trans ?_
      obtain ⟨a1, a2⟩ := setL_fact 36525 (Nat.le_refl _) (fun x => if x < ((36525 : Nat) : Int) then (mem a x || mem b x) else mem a x)
      obtain ⟨b1, b2⟩ := sw_ap (fun x y => (x || y)) rfl a b h1.1 h2.1
      rw [if_pos rfl, apart_ext _ _ a1 b1 (fun d => by
        rw [a2, b2]
        have g : ∀ l : List S30, Apart l → ¬ (0 ≤ d ∧ d < ((36525 : Nat) : Int)) → mem l d = false := fun l hl hd => mem_none _ _ fun s hs hx => by have := (str_iff s).mp (hl.str s hs); omega
        by_cases h : d < ((36525 : Nat) : Int)
        · rw [if_pos h, decide_eq_true h, Bool.true_and]
          by_cases h' : 0 ≤ d
          · rw [decide_eq_true h', Bool.true_and]
          · rw [decide_eq_false h', g a h1.1 (fun e => h' e.1), g b h2.1 (fun e => h' e.1)]; rfl
        · rw [if_neg h, decide_eq_false h, g a h1.1 (fun e => h e.2), g b h2.1 (fun e => h e.2)]
          simp)]
  unfold cohousingref04_Union.f
  rw [rvalid_eq a k (by omega) (by omega), Option.bind_some]
  by_cases h1 : IsSet a
  · rw [tr_of h1, if_pos rfl, rvalid_eq b k (by omega) (by omega), Option.bind_some]
    by_cases h2 : IsSet b
    · rw [tr_of h2, hj k _ (by omega) (fun _ => ⟨h1, h2⟩)]
      simp
    · rw [tr_not h2, hj k _ (by omega) (fun h => by simp at h)]
      simp
  · rw [tr_not h1, if_neg (by decide), hj k _ (by omega) (fun h => by simp at h)]
    simp
theorem rmeet_l (N : Nat) (hN : N ≤ 36525) (p q : Int → Bool) : ∀ (j i k : Nat), i + j = N → N + j + 1 < k → cohousingref04_Meet.l0 k (mk N (fun x => if x < (i : Int) then (p x && q x) else p x)) (mk N q) (i : Int) = some (limF (setL N (fun x => if x < (N : Int) then (p x && q x) else p x)))
  | 0, i, k, hi, hk => by
    obtain rfl : i = N := by omega
    obtain ⟨k, rfl⟩ : ∃ j, k = j + 1 := ⟨k - 1, by omega⟩
    rw [cohousingref04_Meet.l0, if_neg (by rw [mk_len]; omega), set_eq i hN _ k (by omega), Option.bind_some]
  | j + 1, i, k, hi, hk => by
    have w1 : wrap64 ((i : Int) + 1) = ((i + 1 : Nat) : Int) := by unfold wrap64; omega
    obtain ⟨k, rfl⟩ : ∃ j, k = j + 1 := ⟨k - 1, by clear w1; omega⟩
    rw [cohousingref04_Meet.l0, if_pos (by rw [mk_len]; clear w1; omega), if_pos (by clear w1; omega), mk_get N _ i (by clear w1; omega), if_neg (Int.lt_irrefl _), mk_get N q i (by clear w1; omega), w1, Int.toNat_natCast, mk_set, mk_set, mk_len]
    clear w1
    have ih := rmeet_l N hN p q j (i + 1) k (by omega) (by omega)
    have e : ∀ v : Bool, v = (p (i : Int) && q (i : Int)) → (fun x => if x = (i : Int) then v else if x < (i : Int) then (p x && q x) else p x) = (fun x => if x < ((i + 1 : Nat) : Int) then (p x && q x) else p x) := by
      intro v hv
      funext x
      rcases Int.lt_trichotomy x (i : Int) with h | h | h
      · rw [if_neg (by omega), if_pos h, if_pos (by omega)]
      · rw [if_pos h, if_pos (by omega), hv, h]
      · rw [if_neg (by omega), if_neg (by omega), if_neg (by omega)]
    cases hp : p (i : Int) with
    | true =>
      rw [if_pos rfl, if_pos (by omega), e (q (i : Int)) (by rw [hp]; rfl)]
      exact ih
    | false =>
      rw [if_neg (by decide), e false (by rw [hp]; rfl)]
      exact ih
theorem rmeet_eq (a b : List S30) (ha : a.length ≤ 1200) (hb : b.length ≤ 1200) (k : Nat) (hk : 1200 * 36527 + 80000 < k) :
    cohousingref04_Meet.f k a b = some (if tr (IsSet a) = true ∧ tr (IsSet b) = true then limF (sw (fun x y => (x && y)) a b) else ([], 1)) := by
  have hj : ∀ k f, 1200 * 36527 + 79000 < k → (f = false → IsSet a ∧ IsSet b) → cohousingref04_Meet.j0 k a b f = some (if f = false then limF (sw (fun x y => (x && y)) a b) else ([], 1)) := by
    intro k f hk hf
    obtain ⟨k, rfl⟩ : ∃ j, k = j + 1 := ⟨k - 1, by omega⟩
    rw [cohousingref04_Meet.j0]
    cases f with
    | true => rfl
    | false =>
      obtain ⟨h1, h2⟩ := hf rfl
      rw [if_neg (by decide), marks_eq a ha h1.1.str k (by omega), marks_eq b hb h2.1.str k (by omega), Option.bind_some, Option.bind_some]
      have := rmeet_l 36525 (Nat.le_refl _) (mem a) (mem b) 36525 0 k (by omega) (by omega)
      have e : (fun x => if x < ((0 : Nat) : Int) then (mem a x && mem b x) else mem a x) = mem a := by
        funext x
        by_cases h : x < ((0 : Nat) : Int)
        · rw [if_pos h]
          have g : ∀ l : List S30, Apart l → mem l x = false := fun l hl => mem_none _ _ fun s hs hx => by have := (str_iff s).mp (hl.str s hs); omega
          rw [g a h1.1, g b h2.1]; rfl
        · rw [if_neg h]
      rw [e] at this
      refine this.trans ?_
      obtain ⟨a1, a2⟩ := setL_fact 36525 (Nat.le_refl _) (fun x => if x < ((36525 : Nat) : Int) then (mem a x && mem b x) else mem a x)
      obtain ⟨b1, b2⟩ := sw_ap (fun x y => (x && y)) rfl a b h1.1 h2.1
      rw [if_pos rfl, apart_ext _ _ a1 b1 (fun d => by
        rw [a2, b2]
        have g : ∀ l : List S30, Apart l → ¬ (0 ≤ d ∧ d < ((36525 : Nat) : Int)) → mem l d = false := fun l hl hd => mem_none _ _ fun s hs hx => by have := (str_iff s).mp (hl.str s hs); omega
        by_cases h : d < ((36525 : Nat) : Int)
        · rw [if_pos h, decide_eq_true h, Bool.true_and]
          by_cases h' : 0 ≤ d
          · rw [decide_eq_true h', Bool.true_and]
          · rw [decide_eq_false h', g a h1.1 (fun e => h' e.1), g b h2.1 (fun e => h' e.1)]; rfl
        · rw [if_neg h, decide_eq_false h, g a h1.1 (fun e => h e.2), g b h2.1 (fun e => h e.2)]
          simp)]
  unfold cohousingref04_Meet.f
  rw [rvalid_eq a k (by omega) (by omega), Option.bind_some]
  by_cases h1 : IsSet a
  · rw [tr_of h1, if_pos rfl, rvalid_eq b k (by omega) (by omega), Option.bind_some]
    by_cases h2 : IsSet b
    · rw [tr_of h2, hj k _ (by omega) (fun _ => ⟨h1, h2⟩)]
      simp
    · rw [tr_not h2, hj k _ (by omega) (fun h => by simp at h)]
      simp
  · rw [tr_not h1, if_neg (by decide), hj k _ (by omega) (fun h => by simp at h)]
    simp
theorem rwithout_l (N : Nat) (hN : N ≤ 36525) (p q : Int → Bool) : ∀ (j i k : Nat), i + j = N → N + j + 1 < k → cohousingref04_Without.l0 k (mk N (fun x => if x < (i : Int) then (p x && !q x) else p x)) (mk N q) (i : Int) = some (limF (setL N (fun x => if x < (N : Int) then (p x && !q x) else p x)))
  | 0, i, k, hi, hk => by
    obtain rfl : i = N := by omega
    obtain ⟨k, rfl⟩ : ∃ j, k = j + 1 := ⟨k - 1, by omega⟩
    rw [cohousingref04_Without.l0, if_neg (by rw [mk_len]; omega), set_eq i hN _ k (by omega), Option.bind_some]
  | j + 1, i, k, hi, hk => by
    have w1 : wrap64 ((i : Int) + 1) = ((i + 1 : Nat) : Int) := by unfold wrap64; omega
    obtain ⟨k, rfl⟩ : ∃ j, k = j + 1 := ⟨k - 1, by clear w1; omega⟩
    rw [cohousingref04_Without.l0, if_pos (by rw [mk_len]; clear w1; omega), if_pos (by clear w1; omega), mk_get N _ i (by clear w1; omega), if_neg (Int.lt_irrefl _), mk_get N q i (by clear w1; omega), w1, Int.toNat_natCast, mk_set, mk_set, mk_len]
    clear w1
    have ih := rwithout_l N hN p q j (i + 1) k (by omega) (by omega)
    have e : ∀ v : Bool, v = (p (i : Int) && !q (i : Int)) → (fun x => if x = (i : Int) then v else if x < (i : Int) then (p x && !q x) else p x) = (fun x => if x < ((i + 1 : Nat) : Int) then (p x && !q x) else p x) := by
      intro v hv
      funext x
      rcases Int.lt_trichotomy x (i : Int) with h | h | h
      · rw [if_neg (by omega), if_pos h, if_pos (by omega)]
      · rw [if_pos h, if_pos (by omega), hv, h]
      · rw [if_neg (by omega), if_neg (by omega), if_neg (by omega)]
    cases hp : p (i : Int) with
    | true =>
      rw [if_pos rfl, if_pos (by omega), e (!q (i : Int)) (by rw [hp]; rfl)]
      exact ih
    | false =>
      rw [if_neg (by decide), e false (by rw [hp]; rfl)]
      exact ih
theorem rwithout_eq (a b : List S30) (ha : a.length ≤ 1200) (hb : b.length ≤ 1200) (k : Nat) (hk : 1200 * 36527 + 80000 < k) :
    cohousingref04_Without.f k a b = some (if tr (IsSet a) = true ∧ tr (IsSet b) = true then limF (sw (fun x y => (x && !y)) a b) else ([], 1)) := by
  have hj : ∀ k f, 1200 * 36527 + 79000 < k → (f = false → IsSet a ∧ IsSet b) → cohousingref04_Without.j0 k a b f = some (if f = false then limF (sw (fun x y => (x && !y)) a b) else ([], 1)) := by
    intro k f hk hf
    obtain ⟨k, rfl⟩ : ∃ j, k = j + 1 := ⟨k - 1, by omega⟩
    rw [cohousingref04_Without.j0]
    cases f with
    | true => rfl
    | false =>
      obtain ⟨h1, h2⟩ := hf rfl
      rw [if_neg (by decide), marks_eq a ha h1.1.str k (by omega), marks_eq b hb h2.1.str k (by omega), Option.bind_some, Option.bind_some]
      have := rwithout_l 36525 (Nat.le_refl _) (mem a) (mem b) 36525 0 k (by omega) (by omega)
      have e : (fun x => if x < ((0 : Nat) : Int) then (mem a x && !mem b x) else mem a x) = mem a := by
        funext x
        by_cases h : x < ((0 : Nat) : Int)
        · rw [if_pos h]
          have g : ∀ l : List S30, Apart l → mem l x = false := fun l hl => mem_none _ _ fun s hs hx => by have := (str_iff s).mp (hl.str s hs); omega
          rw [g a h1.1, g b h2.1]; rfl
        · rw [if_neg h]
      rw [e] at this
      refine this.trans ?_
      obtain ⟨a1, a2⟩ := setL_fact 36525 (Nat.le_refl _) (fun x => if x < ((36525 : Nat) : Int) then (mem a x && !mem b x) else mem a x)
      obtain ⟨b1, b2⟩ := sw_ap (fun x y => (x && !y)) rfl a b h1.1 h2.1
      rw [if_pos rfl, apart_ext _ _ a1 b1 (fun d => by
        rw [a2, b2]
        have g : ∀ l : List S30, Apart l → ¬ (0 ≤ d ∧ d < ((36525 : Nat) : Int)) → mem l d = false := fun l hl hd => mem_none _ _ fun s hs hx => by have := (str_iff s).mp (hl.str s hs); omega
        by_cases h : d < ((36525 : Nat) : Int)
        · rw [if_pos h, decide_eq_true h, Bool.true_and]
          by_cases h' : 0 ≤ d
          · rw [decide_eq_true h', Bool.true_and]
          · rw [decide_eq_false h', g a h1.1 (fun e => h' e.1), g b h2.1 (fun e => h' e.1)]; rfl
        · rw [if_neg h, decide_eq_false h, g a h1.1 (fun e => h e.2), g b h2.1 (fun e => h e.2)]
          simp)]
  unfold cohousingref04_Without.f
  rw [rvalid_eq a k (by omega) (by omega), Option.bind_some]
  by_cases h1 : IsSet a
  · rw [tr_of h1, if_pos rfl, rvalid_eq b k (by omega) (by omega), Option.bind_some]
    by_cases h2 : IsSet b
    · rw [tr_of h2, hj k _ (by omega) (fun _ => ⟨h1, h2⟩)]
      simp
    · rw [tr_not h2, hj k _ (by omega) (fun h => by simp at h)]
      simp
  · rw [tr_not h1, if_neg (by decide), hj k _ (by omega) (fun h => by simp at h)]
    simp
end Go.Proofs.Ytbfgblfhonpgaaa.Pure

