/- A sweep over the ends of two sets: the days that are kept. No Go and no memory in it. -/
import Derived.Test.YthcjocojngochaaGreatDoorSpanSets
namespace Go.Proofs.YthcjocojngochaaGreatDoor.Pure
open Go.RowKit Go.Proofs.YthcjocojngochaaGreatDoor.X Go.Proofs.YthcjocojngochaaGreatDoorW.PrintWords

/-! ### the ends -/
theorem upto_ok (d : Array Int) (hm : ∀ i j, i ≤ j → j < d.size → d[i]! ≤ d[j]!) : ∀ m, m ≤ d.size →
    (Lib.compactUpTo d m).Pairwise (· < ·) ∧ (∀ x ∈ Lib.compactUpTo d m, ∃ j, j < m ∧ x = d[j]!) ∧ (∀ j, j < m → d[j]! ∈ Lib.compactUpTo d m)
  | 0, _ => ⟨by simp [Lib.compactUpTo], by simp [Lib.compactUpTo], fun j h => absurd h (by omega)⟩
  | m + 1, h => by
    obtain ⟨p1, p2, p3⟩ := upto_ok d hm m (by omega)
    rw [Lib.compactUpTo_succ]
    cases hk : Lib.keeps d m with
    | true =>
      rw [if_pos rfl]
      refine ⟨List.pairwise_append.mpr ⟨p1, by simp, ?_⟩, ?_, ?_⟩
      · intro a ha b hb
        rw [List.mem_singleton.mp hb]
        obtain ⟨j, hj, rfl⟩ := p2 a ha
        have h1 := hm j (m - 1) (by omega) (by omega)
        have h2 := hm (m - 1) m (by omega) (by omega)
        have h3 : m = 0 ∨ d[m]! ≠ d[m - 1]! := of_decide_eq_true hk
        rcases h3 with h3 | h3
        · omega
        · omega
      · intro x hx
        rcases List.mem_append.mp hx with hx | hx
        · obtain ⟨j, hj, e⟩ := p2 x hx
          exact ⟨j, by omega, e⟩
        · exact ⟨m, by omega, List.mem_singleton.mp hx⟩
      · intro j hj
        rcases Nat.lt_or_ge j m with h1 | h1
        · exact List.mem_append_left _ (p3 j h1)
        · have : j = m := by omega
          subst this
          exact List.mem_append_right _ (by simp)
    | false =>
      rw [if_neg (by decide), List.append_nil]
      have h3 : ¬ (m = 0 ∨ d[m]! ≠ d[m - 1]!) := of_decide_eq_false hk
      refine ⟨p1, fun x hx => ?_, fun j hj => ?_⟩
      · obtain ⟨j, hj, e⟩ := p2 x hx
        exact ⟨j, by omega, e⟩
      · rcases Nat.lt_or_ge j m with h1 | h1
        · exact p3 j h1
        · have : j = m := by omega
          subst this
          have h4 : j ≠ 0 := fun e => h3 (Or.inl e)
          have h5 : d[j]! = d[j - 1]! := Classical.byContradiction fun e => h3 (Or.inr e)
          rw [h5]
          exact p3 (j - 1) (by omega)
theorem compact_ok (zs : List Int) (h : zs.Pairwise (· ≤ ·)) : (Lib.compact zs).Pairwise (· < ·) ∧ ∀ x, x ∈ Lib.compact zs ↔ x ∈ zs := by
  have hm : ∀ i j, i ≤ j → j < zs.toArray.size → zs.toArray[i]! ≤ zs.toArray[j]! := by
    intro i j hij hj
    rcases Nat.lt_or_ge i j with h1 | h1
    · rw [getElem!_pos _ i (by omega), getElem!_pos _ j hj]
      simp only [List.getElem_toArray]
      exact List.pairwise_iff_getElem.mp h i j _ _ h1
    · have : i = j := by omega
      subst this
      exact Int.le_refl _
  obtain ⟨p1, p2, p3⟩ := upto_ok zs.toArray hm zs.length (by simp)
  refine ⟨p1, fun x => ⟨fun hx => ?_, fun hx => ?_⟩⟩
  · obtain ⟨j, hj, rfl⟩ := p2 x hx
    rw [getElem!_pos _ j (by simpa using hj)]
    simp
  · obtain ⟨j, hj, rfl⟩ := List.mem_iff_getElem.mp hx
    have := p3 j hj
    rw [getElem!_pos _ j (by simpa using hj)] at this
    rw [List.getElem_toArray] at this
    exact this
theorem flZ_mem (l : List S24) (x : Int) : x ∈ flZ l ↔ ∃ s ∈ l, x = s.f0 ∨ x = s.f1 := by
  unfold flZ
  rw [List.mem_flatMap]
  simp
theorem ends_fact (a b : List S24) : (endsF a b).Pairwise (· < ·) ∧ ∀ x, x ∈ endsF a b ↔ ((∃ s ∈ a, x = s.f0 ∨ x = s.f1) ∨ ∃ s ∈ b, x = s.f0 ∨ x = s.f1) := by
  have hs : (sorted (flZ a ++ flZ b)).Pairwise (· ≤ ·) := by
    have := List.pairwise_mergeSort (le := fun x y : Int => decide (x ≤ y)) (fun a b c h1 h2 => by simp only [decide_eq_true_eq] at *; omega) (fun a b => by simp only [Bool.or_eq_true, decide_eq_true_eq]; omega) (flZ a ++ flZ b)
    exact this.imp (fun h => of_decide_eq_true h)
  obtain ⟨p1, p2⟩ := compact_ok _ hs
  refine ⟨p1, fun x => ?_⟩
  show x ∈ Lib.compact (sorted (flZ a ++ flZ b)) ↔ _
  rw [p2]
  unfold sorted
  rw [List.mem_mergeSort, List.mem_append, flZ_mem, flZ_mem]
/-! ### the walk over a set -/
theorem Apart.past {l : List S24} (h : Apart l) (d : Int) : Apart (pastD l d) := by
  unfold pastD
  have hs := List.dropWhile_sublist (fun s : S24 => decide (s.f1 ≤ d)) (l := l)
  exact ⟨fun s hs' => h.str s (hs.subset hs'), h.pw.sublist hs⟩
theorem mem_past : ∀ (l : List S24) (d x : Int), d ≤ x → mem (pastD l d) x = mem l x
  | [], _, _, _ => rfl
  | s :: l, d, x, h => by
    unfold pastD
    rw [List.dropWhile_cons]
    by_cases hs : s.f1 ≤ d
    · rw [if_pos (decide_eq_true hs), mem_cons]
      have ih := mem_past l d x h
      unfold pastD at ih
      rw [ih]
      have : dayIn x s = false := by
        cases hd : dayIn x s with
        | false => rfl
        | true => have := (in_iff x s).mp hd; omega
      rw [this, Bool.false_or]
    · rw [if_neg (by simpa using hs)]
theorem past_head (l : List S24) (d : Int) (s : S24) (r : List S24) (h : pastD l d = s :: r) : ¬ s.f1 ≤ d := by
  unfold pastD at h
  intro hn
  have := List.head_dropWhile_not (fun s : S24 => decide (s.f1 ≤ d)) (l := l) (by rw [h]; simp)
  simp only [h, List.head_cons] at this
  rw [decide_eq_true hn] at this
  exact absurd this (by simp)
theorem in_past {l : List S24} (h : Apart l) (d : Int) : inD l d = mem l d := by
  rw [← mem_past l d d (Int.le_refl _)]
  have hp := h.past d
  have hh := past_head l d
  unfold inD
  generalize pastD l d = p at hp hh
  cases p with
  | nil => rfl
  | cons s r =>
    have h1 := hh s r rfl
    show decide (s.f0 ≤ d) = mem (s :: r) d
    rw [Bool.eq_iff_iff, decide_eq_true_eq]
    constructor
    · intro h2
      exact (mem_iff _ _).mpr ⟨s, List.mem_cons_self, h2, by omega⟩
    · exact hp.low d
/-- The stretches between the ends that are kept. -/
def segs (kf : Bool → Bool → Bool) (ma mb : Int → Bool) : List Int → List S24
  | d :: e :: r => if kf (ma d) (mb d) then ⟨d, e⟩ :: segs kf ma mb (e :: r) else segs kf ma mb (e :: r)
  | _ => []
theorem sweep_segs (kf : Bool → Bool → Bool) (ma mb : Int → Bool) : ∀ (zs : List Int) (ra rb out : List S24), zs.Pairwise (· < ·) → Apart ra → Apart rb →
    (∀ d ∈ zs, mem ra d = ma d) → (∀ d ∈ zs, mem rb d = mb d) → sweepL kf zs ra rb out = (segs kf ma mb zs).foldl addF out
  | [], _, _, _, _, _, _, _, _ => by simp [sweepL, segs]
  | [_], _, _, _, _, _, _, _, _ => by simp [sweepL, segs]
  | d :: e :: r, ra, rb, out, hz, ha, hb, h1, h2 => by
    obtain ⟨q1, q2⟩ := List.pairwise_cons.mp hz
    rw [sweepL, segs, in_past ha, in_past hb, h1 d List.mem_cons_self, h2 d List.mem_cons_self]
    rw [sweep_segs kf ma mb (e :: r) (pastD ra d) (pastD rb d) _ q2 (ha.past d) (hb.past d)
      (fun x hx => by rw [mem_past _ _ _ (Int.le_of_lt (q1 x hx)), h1 x (List.mem_cons_of_mem _ hx)])
      (fun x hx => by rw [mem_past _ _ _ (Int.le_of_lt (q1 x hx)), h2 x (List.mem_cons_of_mem _ hx)])]
    split <;> rfl
theorem segs_fact (kf : Bool → Bool → Bool) (ma mb : Int → Bool) : ∀ (zs : List Int), zs.Pairwise (· < ·) →
    (∀ s ∈ segs kf ma mb zs, s.f0 < s.f1 ∧ s.f0 ∈ zs ∧ s.f1 ∈ zs) ∧ (segs kf ma mb zs).Pairwise (fun a b => a.f0 ≤ b.f0) ∧ (∀ d r, zs = d :: r → ∀ s ∈ segs kf ma mb zs, d ≤ s.f0)
  | [], _ => by simp [segs]
  | [_], _ => by simp [segs]
  | d :: e :: r, hz => by
    obtain ⟨q1, q2⟩ := List.pairwise_cons.mp hz
    obtain ⟨a1, a2, a3⟩ := segs_fact kf ma mb (e :: r) q2
    have hde := q1 e List.mem_cons_self
    have b1 : ∀ s ∈ segs kf ma mb (e :: r), s.f0 < s.f1 ∧ s.f0 ∈ d :: e :: r ∧ s.f1 ∈ d :: e :: r := fun s hs => ⟨(a1 s hs).1, List.mem_cons_of_mem _ (a1 s hs).2.1, List.mem_cons_of_mem _ (a1 s hs).2.2⟩
    have b3 : ∀ s ∈ segs kf ma mb (e :: r), d ≤ s.f0 := fun s hs => by have := a3 e r rfl s hs; omega
    rw [segs]
    split
    · refine ⟨?_, List.pairwise_cons.mpr ⟨b3, a2⟩, ?_⟩
      · intro s hs
        rcases List.mem_cons.mp hs with rfl | hs
        · exact ⟨hde, List.mem_cons_self, List.mem_cons_of_mem _ List.mem_cons_self⟩
        · exact b1 s hs
      · intro d' r' e' s hs
        injection e' with e1 _
        subst e1
        rcases List.mem_cons.mp hs with rfl | hs
        · exact Int.le_refl _
        · exact b3 s hs
    · refine ⟨b1, a2, ?_⟩
      intro d' r' e' s hs
      injection e' with e1 _
      subst e1
      exact b3 s hs
theorem mem_none (l : List S24) (x : Int) (h : ∀ s ∈ l, ¬ (s.f0 ≤ x ∧ x < s.f1)) : mem l x = false := by
  cases hm : mem l x with
  | false => rfl
  | true =>
    obtain ⟨s, hs, h1⟩ := (mem_iff _ _).mp hm
    exact absurd h1 (h s hs)
theorem mem_same (l : List S24) (d x : Int) (h : ∀ s ∈ l, (s.f0 ≤ d ∧ d < s.f1) ↔ (s.f0 ≤ x ∧ x < s.f1)) : mem l d = mem l x := by
  rw [Bool.eq_iff_iff, mem_iff, mem_iff]
  constructor
  · rintro ⟨s, hs, h1⟩; exact ⟨s, hs, (h s hs).mp h1⟩
  · rintro ⟨s, hs, h1⟩; exact ⟨s, hs, (h s hs).mpr h1⟩
/-- Every end of l that does not come before d is one of zs. -/
def Ends (l : List S24) (d : Int) (zs : List Int) : Prop := ∀ s ∈ l, (d ≤ s.f0 → s.f0 ∈ zs) ∧ (d ≤ s.f1 → s.f1 ∈ zs)
theorem Ends.tail {l : List S24} {d e : Int} {r : List Int} (h : Ends l d (d :: e :: r)) (hde : d < e) : Ends l e (e :: r) := by
  intro s hs
  refine ⟨fun h1 => ?_, fun h1 => ?_⟩
  · rcases List.mem_cons.mp ((h s hs).1 (by omega)) with h2 | h2
    · omega
    · exact h2
  · rcases List.mem_cons.mp ((h s hs).2 (by omega)) with h2 | h2
    · omega
    · exact h2
theorem Ends.flat {l : List S24} {d e : Int} {r : List Int} (h : Ends l d (d :: e :: r)) (hz : (d :: e :: r).Pairwise (· < ·)) (x : Int) (h1 : d ≤ x) (h2 : x < e) : mem l d = mem l x := by
  obtain ⟨q1, q2⟩ := List.pairwise_cons.mp hz
  obtain ⟨q3, _⟩ := List.pairwise_cons.mp q2
  have low : ∀ y ∈ d :: e :: r, d < y → e ≤ y := by
    intro y hy hdy
    rcases List.mem_cons.mp hy with rfl | hy
    · omega
    · rcases List.mem_cons.mp hy with rfl | hy
      · exact Int.le_refl _
      · have := q3 y hy; omega
  refine mem_same _ _ _ fun s hs => ?_
  obtain ⟨k0, k1⟩ := h s hs
  constructor
  · intro hd
    have := low s.f1 (k1 (by omega)) (by omega)
    omega
  · intro hx
    refine ⟨?_, by omega⟩
    rcases Int.lt_or_le d s.f0 with h3 | h3
    · have := low s.f0 (k0 (by omega)) h3
      omega
    · exact h3
theorem Ends.last {l : List S24} {d : Int} (h : Ends l d [d]) (x : Int) (h1 : d ≤ x) : mem l x = false := by
  refine mem_none _ _ fun s hs hx => ?_
  have := (h s hs).2 (by omega)
  have := List.mem_singleton.mp this
  omega
theorem segs_mem (kf : Bool → Bool → Bool) (h0 : kf false false = false) (a b : List S24) : ∀ (r : List Int) (d : Int), (d :: r).Pairwise (· < ·) → Ends a d (d :: r) → Ends b d (d :: r) → ∀ x,
    mem (segs kf (mem a) (mem b) (d :: r)) x = (decide (d ≤ x) && kf (mem a x) (mem b x))
  | [], d, _, ha, hb, x => by
    by_cases h : d ≤ x
    · rw [ha.last x h, hb.last x h, h0, Bool.and_false]; rfl
    · rw [decide_eq_false h]; rfl
  | e :: r, d, hz, ha, hb, x => by
    obtain ⟨q1, q2⟩ := List.pairwise_cons.mp hz
    have hde := q1 e List.mem_cons_self
    have ih := segs_mem kf h0 a b r e q2 (ha.tail hde) (hb.tail hde) x
    have main : mem (segs kf (mem a) (mem b) (d :: e :: r)) x = ((kf (mem a d) (mem b d) && (decide (d ≤ x) && decide (x < e))) || mem (segs kf (mem a) (mem b) (e :: r)) x) := by
      rw [segs]
      cases hk : kf (mem a d) (mem b d) with
      | true => rw [if_pos rfl, mem_cons, Bool.true_and]; rfl
      | false => rw [if_neg (by decide)]; rfl
    rw [main, ih]
    rcases Int.lt_or_le x d with h1 | h1
    · rw [decide_eq_false (show ¬ d ≤ x by omega), decide_eq_false (show ¬ e ≤ x by omega)]
      simp
    · rcases Int.lt_or_le x e with h2 | h2
      · rw [decide_eq_true h1, decide_eq_true h2, decide_eq_false (show ¬ e ≤ x by omega), ha.flat hz x h1 h2, hb.flat hz x h1 h2]
        simp
      · rw [decide_eq_true h1, decide_eq_true h2, decide_eq_false (show ¬ x < e by omega)]
        simp
/-- What a sweep gives: in order and apart, with the days that are kept; each stretch begins where one of the kept ones begins. -/
theorem sweep_fact (kf : Bool → Bool → Bool) (h0 : kf false false = false) (a b : List S24) (ha : Apart a) (hb : Apart b) :
    Apart (sweepL kf (endsF a b) a b []) ∧ ∀ x, mem (sweepL kf (endsF a b) a b []) x = kf (mem a x) (mem b x) := by
  obtain ⟨e1, e2⟩ := ends_fact a b
  rw [sweep_segs kf (mem a) (mem b) (endsF a b) a b [] e1 ha hb (fun _ _ => rfl) (fun _ _ => rfl)]
  have hr : ∀ x ∈ endsF a b, 0 ≤ x ∧ x ≤ 36525 := by
    intro x hx
    rcases (e2 x).mp hx with ⟨s, hs, h⟩ | ⟨s, hs, h⟩
    · have := (str_iff s).mp (ha.str s hs); omega
    · have := (str_iff s).mp (hb.str s hs); omega
  obtain ⟨f1, f2, _⟩ := segs_fact kf (mem a) (mem b) (endsF a b) e1
  obtain ⟨g1, g2⟩ := fold_ok (segs kf (mem a) (mem b) (endsF a b)) [] Apart.nil
    (fun s hs => by have h := f1 s hs; have h1 := hr _ h.2.1; have h2 := hr _ h.2.2; rw [str_iff]; omega) f2 (by simp)
  refine ⟨g1, fun x => ?_⟩
  rw [g2]
  have ea : ∀ d, Ends a d (endsF a b) := fun d s hs => ⟨fun _ => (e2 _).mpr (Or.inl ⟨s, hs, Or.inl rfl⟩), fun _ => (e2 _).mpr (Or.inl ⟨s, hs, Or.inr rfl⟩)⟩
  have eb : ∀ d, Ends b d (endsF a b) := fun d s hs => ⟨fun _ => (e2 _).mpr (Or.inr ⟨s, hs, Or.inl rfl⟩), fun _ => (e2 _).mpr (Or.inr ⟨s, hs, Or.inr rfl⟩)⟩
  show (false || _) = _
  rw [Bool.false_or]
  generalize endsF a b = zs at *
  cases zs with
  | nil =>
    have : ∀ l : List S24, (∀ d, Ends l d []) → mem l x = false := fun l hl => mem_none _ _ fun s hs hx => by have := (hl s.f0 s hs).1 (Int.le_refl _); simp at this
    rw [this a ea, this b eb, h0]; rfl
  | cons d r =>
    rw [segs_mem kf h0 a b r d e1 (ea d) (eb d) x]
    by_cases h : d ≤ x
    · rw [decide_eq_true h, Bool.true_and]
    · have low : ∀ y ∈ d :: r, d ≤ y := by
        intro y hy
        rcases List.mem_cons.mp hy with rfl | hy
        · exact Int.le_refl _
        · exact Int.le_of_lt ((List.pairwise_cons.mp e1).1 y hy)
      have : ∀ l : List S24, (∀ d', Ends l d' (d :: r)) → mem l x = false := fun l hl => mem_none _ _ fun s hs hx => by have := low _ ((hl s.f0 s hs).1 (Int.le_refl _)); omega
      rw [decide_eq_false h, this a ea, this b eb, h0]; rfl
end Go.Proofs.YthcjocojngochaaGreatDoor.Pure

