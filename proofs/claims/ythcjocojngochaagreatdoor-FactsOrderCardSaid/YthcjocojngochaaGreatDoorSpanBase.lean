/- What the functions of span answer, over sets of days. No Go and no memory in it. -/
import Derived.Test.YthcjocojngochaaGreatDoorSpanSweep
import Derived.Test.YthcjocojngochaaGreatDoorXx3
import Derived.Test.YthcjocojngochaaGreatDoorXx14
namespace Go.Proofs.YthcjocojngochaaGreatDoor.Pure
open Go.RowKit Go.Proofs.YthcjocojngochaaGreatDoor.X Go.Proofs.YthcjocojngochaaGreatDoorW.PrintWords

/-- The truth of a statement. -/
noncomputable def tr (p : Prop) : Bool := @decide p (Classical.propDecidable p)
theorem tr_iff (p : Prop) : tr p = true ↔ p := by unfold tr; exact @decide_eq_true_iff p (Classical.propDecidable p)
theorem tr_of {p : Prop} (h : p) : tr p = true := (tr_iff p).mpr h
theorem tr_not {p : Prop} (h : ¬ p) : tr p = false := by
  cases e : tr p with
  | false => rfl
  | true => exact absurd ((tr_iff p).mp e) h
theorem tr_eq {p : Prop} {b : Bool} (h : b = true ↔ p) : b = tr p := by
  rw [Bool.eq_iff_iff, tr_iff]; exact h
/-- A set: in order, apart, and not too long. -/
def IsSet (l : List S24) : Prop := Apart l ∧ l.length ≤ 1000
theorem chain_apart (l : List S24) (hs : ∀ n, n < l.length → strB (rd_T24 l (n : Int)) = true) (hc : ∀ n, 0 < n → n < l.length → (rd_T24 l ((n : Int) - 1)).f1 < (rd_T24 l (n : Int)).f0) : Apart l := by
  refine ⟨fun s hs' => ?_, ?_⟩
  · obtain ⟨j, hj, rfl⟩ := List.mem_iff_getElem.mp hs'
    rw [← rd30_nat l j hj]
    exact hs j hj
  · rw [List.pairwise_iff_getElem]
    intro i j hi hj hij
    rw [← rd30_nat l i hi, ← rd30_nat l j hj]
    induction j with
    | zero => omega
    | succ j ih =>
      have h1 := hc (j + 1) (by omega) hj
      rw [show ((j + 1 : Nat) : Int) - 1 = (j : Int) by omega] at h1
      rcases Nat.lt_or_ge i j with h2 | h2
      · have h3 := ih (by omega) h2
        have h4 := (str_iff _).mp (hs j (by omega))
        omega
      · have : i = j := by omega
        subst this
        exact h1
theorem apart_chain {l : List S24} (h : Apart l) : (∀ n, n < l.length → strB (rd_T24 l (n : Int)) = true) ∧ ∀ n, 0 < n → n < l.length → (rd_T24 l ((n : Int) - 1)).f1 < (rd_T24 l (n : Int)).f0 := by
  refine ⟨fun n hn => ?_, fun n h0 hn => ?_⟩
  · rw [rd30_nat l n hn]
    exact h.str _ (List.getElem_mem hn)
  · rw [show (n : Int) - 1 = ((n - 1 : Nat) : Int) by omega, rd30_nat l n hn, rd30_nat l (n - 1) (by omega)]
    exact List.pairwise_iff_getElem.mp h.pw _ _ _ _ (by omega)
theorem valid_l (l : List S24) (hl : l.length ≤ 8796093022208) : ∀ (j i k : Nat), i + j = l.length → j < k →
    ∃ b, span_Valid.l0 k l (l.length : Int) (i : Int) = some b ∧ (b = true ↔ ((∀ n, i ≤ n → n < l.length → strB (rd_T24 l (n : Int)) = true) ∧ ∀ n, 0 < n → i ≤ n → n < l.length → (rd_T24 l ((n : Int) - 1)).f1 < (rd_T24 l (n : Int)).f0) ∧ l.length ≤ 1000)
  | 0, i, k + 1, hi, _ => by
    rw [span_Valid.l0, if_neg (by omega)]
    refine ⟨_, rfl, ?_⟩
    rw [decide_eq_true_eq]
    constructor
    · intro h
      exact ⟨⟨fun n h1 h2 => absurd h2 (by omega), fun n _ h1 h2 => absurd h2 (by omega)⟩, by omega⟩
    · rintro ⟨_, h⟩
      omega
  | j + 1, i, k + 1, hi, hk => by
    obtain ⟨b, e, hb⟩ := valid_l l hl j (i + 1) k (by omega) (by omega)
    rw [span_Valid.l0, if_pos (by omega), if_pos (by omega), if_pos (by omega), stretch_f, Option.bind_some]
    have w1 : wrap64 ((i : Int) + 1) = ((i + 1 : Nat) : Int) := by unfold wrap64; omega
    have hst : strB ⟨(rd_T24 l (i : Int)).f0, (rd_T24 l (i : Int)).f1⟩ = strB (rd_T24 l (i : Int)) := rfl
    rw [hst]
    by_cases hs : strB (rd_T24 l (i : Int)) = true
    · rw [if_pos hs, w1, e]
      by_cases h0 : 0 < i
      · have w2 : wrap64 ((i : Int) - 1) = (i : Int) - 1 := by unfold wrap64; omega
        rw [if_pos (by omega), w2, if_pos (by omega), if_pos (by omega)]
        by_cases hc : (rd_T24 l ((i : Int) - 1)).f1 ≥ (rd_T24 l (i : Int)).f0
        · rw [if_pos hc]
          refine ⟨_, rfl, ?_⟩
          constructor
          · intro h; exact absurd h (by simp)
          · rintro ⟨⟨_, h⟩, _⟩
            have := h i h0 (Nat.le_refl _) (by omega)
            omega
        · rw [if_neg hc]
          refine ⟨_, rfl, hb.trans ?_⟩
          constructor
          · rintro ⟨⟨h1, h2⟩, h3⟩
            refine ⟨⟨fun n hn => ?_, fun n h4 hn => ?_⟩, h3⟩
            · rcases Nat.lt_or_ge i n with h5 | h5
              · exact h1 n h5
              · have : n = i := by omega
                subst this; exact fun _ => hs
            · rcases Nat.lt_or_ge i n with h5 | h5
              · exact h2 n h4 h5
              · have : n = i := by omega
                subst this; intro _; omega
          · rintro ⟨⟨h1, h2⟩, h3⟩
            exact ⟨⟨fun n hn => h1 n (by omega), fun n h4 hn => h2 n h4 (by omega)⟩, h3⟩
      · have : i = 0 := by omega
        subst this
        rw [if_neg (by omega)]
        refine ⟨_, rfl, hb.trans ?_⟩
        constructor
        · rintro ⟨⟨h1, h2⟩, h3⟩
          refine ⟨⟨fun n hn => ?_, fun n h4 hn => h2 n h4 (by omega)⟩, h3⟩
          rcases Nat.lt_or_ge 0 n with h5 | h5
          · exact h1 n h5
          · have : n = 0 := by omega
            subst this; exact fun _ => hs
        · rintro ⟨⟨h1, h2⟩, h3⟩
          exact ⟨⟨fun n hn => h1 n (by omega), fun n h4 hn => h2 n h4 (by omega)⟩, h3⟩
    · rw [if_neg hs]
      refine ⟨_, rfl, ?_⟩
      constructor
      · intro h; exact absurd h (by simp)
      · rintro ⟨⟨h, _⟩, _⟩
        exact absurd (h i (Nat.le_refl _) (by omega)) hs
theorem valid_eq (l : List S24) (k : Nat) (hl : l.length ≤ 8796093022208) (hk : l.length < k) : span_Valid.f k l = some (tr (IsSet l)) := by
  obtain ⟨b, e, hb⟩ := valid_l l hl l.length 0 k (by omega) hk
  unfold span_Valid.f
  rw [show (0 : Int) = ((0 : Nat) : Int) from rfl, e]
  congr 1
  refine tr_eq (hb.trans ?_)
  constructor
  · rintro ⟨⟨h1, h2⟩, h3⟩
    exact ⟨chain_apart l (fun n => h1 n (Nat.zero_le _)) (fun n h => h2 n h (Nat.zero_le _)), h3⟩
  · rintro ⟨h1, h3⟩
    have := apart_chain h1
    exact ⟨⟨fun n _ => this.1 n, fun n h _ => this.2 n h⟩, h3⟩
theorem same_l (a b : List S24) (hl : a.length ≤ 8796093022208) (he : a.length = b.length) : ∀ (j i k : Nat), i + j = a.length → j < k →
    ∃ r, cohousingref04_Same.l0 k a b (i : Int) = some r ∧ (r = true ↔ ∀ n, i ≤ n → n < a.length → rd_T24 a (n : Int) = rd_T24 b (n : Int))
  | 0, i, k + 1, hi, _ => by
    rw [cohousingref04_Same.l0, if_neg (by omega)]
    exact ⟨_, rfl, ⟨fun _ n h1 h2 => absurd h2 (by omega), fun _ => rfl⟩⟩
  | j + 1, i, k + 1, hi, hk => by
    obtain ⟨r, e, hr⟩ := same_l a b hl he j (i + 1) k (by omega) (by omega)
    have w1 : wrap64 ((i : Int) + 1) = ((i + 1 : Nat) : Int) := by unfold wrap64; omega
    rw [cohousingref04_Same.l0, if_pos (by omega), if_pos (by omega), if_pos (by omega), w1, e]
    have hst : ∀ s t : S24, s = t ↔ s.f0 = t.f0 ∧ s.f1 = t.f1 := by
      intro s t
      constructor
      · intro h; subst h; exact ⟨rfl, rfl⟩
      · cases s; cases t; rintro ⟨h1, h2⟩; simp only at h1 h2; rw [h1, h2]
    by_cases h : rd_T24 a (i : Int) = rd_T24 b (i : Int)
    · have h1 := (hst _ _).mp h
      rw [if_neg (by rw [h1.1, h1.2]; simp)]
      refine ⟨_, rfl, hr.trans ?_⟩
      constructor
      · intro h2 n hn
        rcases Nat.lt_or_ge i n with h5 | h5
        · exact h2 n h5
        · have : n = i := by omega
          subst this; exact fun _ => h
      · intro h2 n hn
        exact h2 n (by omega)
    · rw [if_pos (by
        have h1 : ¬ ((rd_T24 a (i : Int)).f0 = (rd_T24 b (i : Int)).f0 ∧ (rd_T24 a (i : Int)).f1 = (rd_T24 b (i : Int)).f1) := fun h2 => h ((hst _ _).mpr h2)
        simp only [Bool.or_eq_true, Bool.not_eq_true', beq_eq_false_iff_ne]
        by_cases h3 : (rd_T24 a (i : Int)).f0 = (rd_T24 b (i : Int)).f0
        · exact Or.inr fun h4 => h1 ⟨h3, h4⟩
        · exact Or.inl h3)]
      refine ⟨_, rfl, ?_⟩
      constructor
      · intro h2; exact absurd h2 (by simp)
      · intro h2; exact absurd (h2 i (Nat.le_refl _) (by omega)) h
theorem same_eq (a b : List S24) (k : Nat) (hl : a.length ≤ 8796093022208) (hk : a.length < k) : cohousingref04_Same.f k a b = some (tr (a = b)) := by
  unfold cohousingref04_Same.f
  by_cases h : a.length = b.length
  · rw [if_pos (by omega)]
    obtain ⟨r, e, hr⟩ := same_l a b hl h a.length 0 k (by omega) hk
    rw [show (0 : Int) = ((0 : Nat) : Int) from rfl, e]
    congr 1
    refine tr_eq (hr.trans ?_)
    constructor
    · intro h1
      refine List.ext_getElem h fun n h2 h3 => ?_
      rw [← rd30_nat a n h2, ← rd30_nat b n h3]
      exact h1 n (Nat.zero_le _) h2
    · intro h1 n _ _
      rw [h1]
  · rw [if_neg (by omega), tr_not (fun e => h (by rw [e]))]
/-- What a sweep over two sets gives. -/
def sw (kf : Bool → Bool → Bool) (a b : List S24) : List S24 := sweepL kf (endsF a b) a b []
theorem sweepO_eq (kf : Bool → Bool → Bool) (k : Nat) (a b : List S24) (ha : a.length ≤ 8796093022208) (hb : b.length ≤ 8796093022208) (ka : a.length < k) (kb : b.length < k) :
    sweepO kf k a b = some (if tr (IsSet a) = true ∧ tr (IsSet b) = true then limF (sw kf a b) else ([], 1)) := by
  unfold sweepO
  rw [valid_eq a k ha ka, Option.bind_some, valid_eq b k hb kb, Option.bind_some]
  cases tr (IsSet a) <;> cases tr (IsSet b) <;> simp [sw]
theorem lim_len (l : List S24) : (limF l).1.length ≤ 1000 := by
  unfold limF
  split
  · simp
  · simp only; omega
theorem lim_ok {l : List S24} (h : (limF l).2 = 0) : limF l = (l, 0) ∧ l.length ≤ 1000 := by
  unfold limF at *
  split at h
  · simp at h
  · rename_i h1
    exact ⟨by rw [if_neg h1], by omega⟩
theorem lim_small {l : List S24} (h : l.length ≤ 1000) : limF l = (l, 0) := by
  unfold limF
  rw [if_neg (by omega)]
theorem lim_err (l : List S24) : (limF l).2 = 0 ∨ (limF l).2 = 2 ∧ 1000 < l.length := by
  unfold limF
  split
  · rename_i h
    exact Or.inr ⟨rfl, h⟩
  · exact Or.inl rfl
theorem normF_len (l : List S24) : (normF l).1.length ≤ 1000 := by
  rw [normF_eq]
  split
  · exact lim_len _
  · simp
/-- Lists with the same stretches have the same normal form. -/
theorem norm_same (a b : List S24) (h : ∀ s, s ∈ a ↔ s ∈ b) : normF a = normF b := by
  rw [normF_eq, normF_eq]
  by_cases hs : ∀ s ∈ a, strB s = true
  · have hs' : ∀ s ∈ b, strB s = true := fun s h1 => hs s ((h s).mpr h1)
    rw [if_pos (List.all_eq_true.mpr hs), if_pos (List.all_eq_true.mpr hs')]
    obtain ⟨a1, a2⟩ := norm_ok a hs
    obtain ⟨b1, b2⟩ := norm_ok b hs'
    rw [apart_ext _ _ a1 b1 (fun d => by
      rw [a2, b2, Bool.eq_iff_iff, mem_iff, mem_iff]
      exact ⟨fun ⟨s, h1, h2⟩ => ⟨s, (h s).mp h1, h2⟩, fun ⟨s, h1, h2⟩ => ⟨s, (h s).mpr h1, h2⟩⟩)]
  · have hs' : ¬ ∀ s ∈ b, strB s = true := fun k => hs fun s h1 => k s ((h s).mp h1)
    rw [if_neg (fun k => hs (List.all_eq_true.mp k)), if_neg (fun k => hs' (List.all_eq_true.mp k))]
theorem norm_set (l : List S24) (h : IsSet l) : normF l = (l, 0) := by
  rw [normF_eq, if_pos (List.all_eq_true.mpr h.1.str)]
  obtain ⟨a1, a2⟩ := norm_ok l h.1.str
  rw [apart_ext _ _ a1 h.1 a2]
  exact lim_small h.2
theorem norm_eq (l : List S24) (h : l.length < 8796093022208) : span_Normal.f l = some (normF l) := by
  unfold span_Normal.f
  rw [if_pos h]
end Go.Proofs.YthcjocojngochaaGreatDoor.Pure

