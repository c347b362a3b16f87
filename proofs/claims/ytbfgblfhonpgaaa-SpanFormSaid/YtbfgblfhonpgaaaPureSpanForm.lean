/- The law SpanForm as a statement over lists of stretches: every input answers true. No Go and no memory in it. -/
import Derived.Test.YtbfgblfhonpgaaaSpanHead
import Derived.Test.YtbfgblfhonpgaaaXx15
namespace Go.Proofs.Ytbfgblfhonpgaaa.Pure
open Go.RowKit Go.Proofs.Ytbfgblfhonpgaaa.X Go.Proofs.YtbfgblfhonpgaaaW.PrintWords

/-- The place that the law picks. -/
theorem pick_in (x n : Int) (h1 : -9223372036854775808 ≤ x) (h2 : x ≤ 9223372036854775807) (hn : 0 < n) (hb : n ≤ 8796093022208) :
    (Int.tmod x n < 0 → 0 ≤ wrap64 (Int.tmod x n + n) ∧ wrap64 (Int.tmod x n + n) < n) ∧ (¬ Int.tmod x n < 0 → 0 ≤ Int.tmod x n ∧ Int.tmod x n < n) := by
  have a1 : Int.tmod x n < n := Int.tmod_lt_of_pos x hn
  have a2 : -n < Int.tmod x n := by
    have := Int.tmod_lt_of_pos (-x) hn
    rw [Int.neg_tmod] at this
    omega
  generalize Int.tmod x n = t at *
  constructor
  · intro h
    unfold wrap64
    omega
  · intro h
    omega
theorem rd30_mem (l : List S30) (i : Int) (h0 : 0 ≤ i) (h1 : i < l.length) : rd_T30 l i ∈ l := by
  rw [show i = ((i.toNat : Nat) : Int) by omega, rd30_nat l i.toNat (by omega)]
  exact List.getElem_mem _
theorem form_j3 (k : Nat) (a b : List S30) (x : Bool) (hx : x = true ∨ (IsSet a ∧ IsSet b)) (hk : 1000 < k) : cohousinglaw04_SpanForm.j3 (k + 1) a b true x = some true := by
  rw [cohousinglaw04_SpanForm.j3]
  cases x with
  | true => rfl
  | false =>
    obtain ⟨ha, hb⟩ : IsSet a ∧ IsSet b := by simpa using hx
    have la := ha.2
    have lb := hb.2
    rw [if_neg (by decide), show span_Without.f k a b = sweepO (fun x y => x && !y) k a b from rfl, show span_Without.f k b a = sweepO (fun x y => x && !y) k b a from rfl,
      sweepO_eq _ k a b (by omega) (by omega) (by omega) (by omega), sweepO_eq _ k b a (by omega) (by omega) (by omega) (by omega), if_pos ⟨tr_of ha, tr_of hb⟩, if_pos ⟨tr_of hb, tr_of ha⟩, Option.bind_some, Option.bind_some]
    obtain ⟨p1, p2⟩ := sw_fact (fun x y => x && !y) rfl a b ha hb
    obtain ⟨q1, q2⟩ := sw_fact (fun x y => x && !y) rfl b a hb ha
    generalize sw (fun x y => x && !y) a b = p at *
    generalize sw (fun x y => x && !y) b a = q at *
    by_cases e1 : (limF p).2 = 0
    · rw [if_pos e1]
      by_cases e2 : (limF q).2 = 0
      · rw [if_pos e2, if_pos rfl, (lim_ok e1).1, (lim_ok e2).1, same_eq a b k (by omega) (by omega)]
        simp only [Option.bind_some]
        have key : (p = [] ∧ q = []) ↔ a = b := by
          constructor
          · rintro ⟨rfl, rfl⟩
            refine apart_ext a b ha.1 hb.1 fun d => ?_
            have h1 := p2 d
            have h2 := q2 d
            simp only [show mem ([] : List S30) d = false from rfl] at h1 h2
            revert h1 h2
            cases mem a d <;> cases mem b d <;> simp
          · rintro rfl
            have hn : ∀ l : List S30, Apart l → (∀ d, mem l d = (mem a d && !mem a d)) → l = [] := by
              intro l hl h
              refine apart_ext l [] hl Apart.nil fun d => ?_
              rw [h d]
              cases mem a d <;> rfl
            exact ⟨hn p p1 p2, hn q q1 q2⟩
        by_cases hp : p = []
        · subst hp
          rw [if_pos (by simp)]
          by_cases hq : q = []
          · subst hq
            rw [tr_of (key.mp ⟨rfl, rfl⟩)]
            simp
          · rw [tr_not (fun h => hq (key.mpr h).2)]
            have : ((q.length : Int) == 0) = false := by
              rw [beq_eq_false_iff_ne]
              intro h
              exact hq (List.eq_nil_of_length_eq_zero (by omega))
            rw [this]
            simp
        · rw [if_neg (fun h => hp (List.eq_nil_of_length_eq_zero (by omega))), tr_not (fun h => hp (key.mpr h).1)]
          simp
      · rw [if_neg e2]; rfl
    · rw [if_neg e1]; rfl
theorem form_j2 (k : Nat) (a b : List S30) (ha : a.length ≤ 8796093022208) (hb : b.length ≤ 8796093022208) (ka : a.length + 1000 < k) (kb : b.length < k) : cohousinglaw04_SpanForm.j2 (k + 2) a b true = some true := by
  rw [cohousinglaw04_SpanForm.j2, valid_eq a _ ha (by omega), Option.bind_some, valid_eq b _ hb (by omega)]
  by_cases h : IsSet a
  · rw [tr_of h, if_pos rfl, Option.bind_some]
    refine form_j3 k a b _ ?_ (by omega)
    by_cases h' : IsSet b
    · exact Or.inr ⟨h, h'⟩
    · rw [tr_not h']; exact Or.inl rfl
  · rw [tr_not h, if_neg (by decide)]
    exact form_j3 k a b _ (Or.inl rfl) (by omega)
theorem form_l0 (a b l : List S30) (x : Int) (w1 : -9223372036854775808 ≤ x) (w2 : x ≤ 9223372036854775807) (ha : a.length ≤ 8796093022208) (hb : b.length ≤ 8796093022208) (hl : l.length * 16 ≤ 140737488351232) (h0 : 0 < l.length) :
    ∀ (m k : Nat), m ≤ l.length → a.length + b.length + 1010 < k → cohousinglaw04_SpanForm.l0 (k + m) a b l x true (l.drop m).reverse ((m : Int) - 1) = some true
  | 0, k + 4, _, hk => by
    obtain ⟨i1, i2⟩ := pick_in x (l.length : Int) w1 w2 (by omega) (by omega)
    have hlen : ((l.drop 0).reverse).length = l.length := by simp
    have body : ∀ i : Int, 0 ≤ i → i < (l.length : Int) → ((span_Normal.f ((l.drop 0).reverse ++ [(⟨(rd_T30 l i).f0, (rd_T30 l i).f1⟩ : S30)])).bind fun bt386 => (if true = true then ((cohousingref04_Same.f (k + 3) (normF l).1 bt386.1).bind fun t390 => (if t390 = true then (cohousinglaw04_SpanForm.j2 (k + 3) a b ((normF l).2 == bt386.2)) else (cohousinglaw04_SpanForm.j2 (k + 3) a b false))) else (cohousinglaw04_SpanForm.j2 (k + 3) a b false))) = some true := by
      intro i h1 h2
      rw [norm_eq _ (by simp; omega), Option.bind_some, norm_same ((l.drop 0).reverse ++ [(⟨(rd_T30 l i).f0, (rd_T30 l i).f1⟩ : S30)]) l (fun s => by
        have hm := rd30_mem l i h1 h2
        rw [List.mem_append, List.mem_reverse, List.drop_zero, List.mem_singleton]
        constructor
        · rintro (h | h)
          · exact h
          · rw [h]; exact hm
        · exact Or.inl)]
      have := normF_len l
      rw [if_pos rfl, same_eq _ _ _ (by omega) (by omega), tr_of rfl, Option.bind_some, if_pos rfl, beq_self_eq_true]
      exact form_j2 (k + 1) a b ha hb (by omega) (by omega)
    rw [Nat.add_zero, cohousinglaw04_SpanForm.l0, if_neg (by omega), if_neg (by omega)]
    by_cases ht : Int.tmod x (l.length : Int) < 0
    · rw [if_pos ht, norm_eq l (by omega), Option.bind_some, if_pos (i1 ht).1, if_pos (i1 ht).2, if_pos (by rw [hlen]; omega)]
      exact body _ (i1 ht).1 (i1 ht).2
    · rw [if_neg ht, norm_eq l (by omega), Option.bind_some, if_pos (i2 ht).1, if_pos (i2 ht).2, if_pos (by rw [hlen]; omega)]
      exact body _ (i2 ht).1 (i2 ht).2
  | m + 1, k, hm, hk => by
    have ih := form_l0 a b l x w1 w2 ha hb hl h0 m k (by omega) hk
    have w3 : wrap64 (((m + 1 : Nat) : Int) - 1 - 1) = (m : Int) - 1 := by unfold wrap64; omega
    rw [show k + (m + 1) = (k + m) + 1 by omega, cohousinglaw04_SpanForm.l0, if_pos (by omega), if_pos (by omega), if_pos (by omega), if_pos (by simp; omega), w3]
    have e1 : ((m + 1 : Nat) : Int) - 1 = (m : Int) := by omega
    rw [e1]
    have e2 : (l.drop (m + 1)).reverse ++ [(⟨(rd_T30 l (m : Int)).f0, (rd_T30 l (m : Int)).f1⟩ : S30)] = (l.drop m).reverse := by
      rw [drop_one l m (by omega), List.reverse_cons]
    rw [e2]
    exact ih
  | 0, 0, _, hk => by omega
  | 0, 1, _, hk => by omega
  | 0, 2, _, hk => by omega
  | 0, 3, _, hk => by omega
theorem form_j0 (a b l : List S30) (x : Int) (w1 : -9223372036854775808 ≤ x) (w2 : x ≤ 9223372036854775807) (ha : a.length ≤ 8796093022208) (hb : b.length ≤ 8796093022208) (hl : l.length * 16 ≤ 140737488351232) (k : Nat) (hk : a.length + b.length + 1010 < k) :
    cohousinglaw04_SpanForm.j0 (k + l.length + 1) a b l x true = some true := by
  rw [cohousinglaw04_SpanForm.j0]
  by_cases h : (l.length : Int) > 0
  · have w3 : wrap64 ((l.length : Int) - 1) = (l.length : Int) - 1 := by unfold wrap64; omega
    rw [if_pos h, w3]
    have := form_l0 a b l x w1 w2 ha hb hl (by omega) l.length k (Nat.le_refl _) hk
    rw [List.drop_length, List.reverse_nil] at this
    exact this
  · rw [if_neg h]
    have := form_j2 (k + l.length - 2) a b ha hb (by omega) (by omega)
    rw [show k + l.length - 2 + 2 = k + l.length by omega] at this
    exact this
theorem SpanForm : ∀ (l0 : List S30) (l1 : List S30) (l2 : List S30) (a3 : Int), l0.length * 16 ≤ 140737488351232 → (∀ x ∈ l0, (Lit.int .i64 x.f0).wf = true ∧ (Lit.int .i64 x.f1).wf = true) → l1.length * 16 ≤ 140737488351232 → (∀ x ∈ l1, (Lit.int .i64 x.f0).wf = true ∧ (Lit.int .i64 x.f1).wf = true) → l2.length * 16 ≤ 140737488351232 → (∀ x ∈ l2, (Lit.int .i64 x.f0).wf = true ∧ (Lit.int .i64 x.f1).wf = true) → (Lit.int .i64 a3).wf = true → ∃ k, cohousinglaw04_SpanForm.f k l0 l1 l2 a3 = some true := by
  intro a b l x ha _ hb _ hl _ hx
  have hx' : -9223372036854775808 ≤ x ∧ x ≤ 9223372036854775807 := by simpa [Lit.wf, IntKind.min, IntKind.max, IntKind.signed, IntKind.bits] using hx
  refine ⟨(a.length + b.length + 1020) + l.length + 1, ?_⟩
  have hj := form_j0 a b l x hx'.1 hx'.2 (by omega) (by omega) hl (a.length + b.length + 1020) (by omega)
  have hh : cohousinglaw04_head.f ((a.length + b.length + 1020) + l.length + 1) = some true := by
    exact at_rounds (g := fun k => cohousinglaw04_head.f k) cohousinglaw04_head.mono (by omega) head_ok
  unfold cohousinglaw04_SpanForm.f
  rw [hh, Option.bind_some, valid_eq a _ (by omega) (by omega), Option.bind_some]
  by_cases h : IsSet a
  · rw [tr_of h, if_pos rfl, norm_eq a (by omega), norm_set a h, Option.bind_some, if_pos rfl, same_eq a a _ (by omega) (by omega), tr_of rfl, Option.bind_some, if_pos rfl]
    exact hj
  · rw [tr_not h, if_neg (by decide)]
    exact hj
end Go.Proofs.Ytbfgblfhonpgaaa.Pure

