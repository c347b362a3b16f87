/- What money.Split computes, over numbers and lists: the parts, their sum, and who gets the cents that are left. No Go and no memory in it. -/
import Derived.Test.YtcbhaoaameiacaaDoorMoneyBase
namespace Go.Proofs.YtcbhaoaameiacaaDoor.Pure
open Go.RowKit Go.Proofs.YtcbhaoaameiacaaDoor.X Go.Proofs.YtcbhaoaameiacaaDoorW.PrintWords

theorem incs_length : ∀ (L P : List Int), (incs P L).length = P.length
  | [], P => rfl
  | i :: r, P => by rw [incs, incs_length r, List.length_set]
theorem rd_nat (P : List Int) (i : Nat) (h : i < P.length) : rd P (i : Int) = P[i] := by unfold rd; simp [h]
theorem rd_setn (P : List Int) (j i : Nat) (v : Int) (hj : j < P.length) : rd (P.set j v) (i : Int) = if j = i then v else rd P (i : Int) := by
  unfold rd
  rw [Int.toNat_natCast, List.getD_eq_getElem?_getD, List.getElem?_set]
  split
  · rename_i h
    subst h
    first | rfl | (rw [if_pos hj]; rfl)
  · rw [List.getD_eq_getElem?_getD]
theorem rd_incs : ∀ (L P : List Int), L.Nodup → (∀ x ∈ L, 0 ≤ x ∧ x < (P.length : Int)) → ∀ i : Nat, rd (incs P L) (i : Int) = rd P (i : Int) + if (i : Int) ∈ L then 1 else 0
  | [], P, _, _, i => by simp [incs]
  | a :: r, P, hn, hb, i => by
    have ha := hb a List.mem_cons_self
    obtain ⟨j, rfl⟩ : ∃ j : Nat, a = j := ⟨a.toNat, by omega⟩
    rw [incs, rd_incs r _ (List.nodup_cons.mp hn).2 (fun x hx => by rw [List.length_set]; exact hb x (List.mem_cons_of_mem _ hx)) i, Int.toNat_natCast, rd_setn _ _ _ _ (by omega)]
    by_cases h : j = i
    · subst h
      rw [if_pos rfl, if_neg (List.nodup_cons.mp hn).1, if_pos List.mem_cons_self]
      omega
    · rw [if_neg h]
      have e : ((i : Int) ∈ (j : Int) :: r) ↔ ((i : Int) ∈ r) := by
        rw [List.mem_cons]
        constructor
        · rintro (h2 | h2)
          · omega
          · exact h2
        · exact Or.inr
      simp only [e]
theorem sum_setn : ∀ (P : List Int) (j : Nat) (v : Int), j < P.length → (P.set j v).sum = P.sum - P.getD j 0 + v
  | [], j, v, h => absurd h (Nat.not_lt_zero _)
  | a :: P, 0, v, _ => by simp; omega
  | a :: P, j + 1, v, h => by
    have := sum_setn P j v (by simpa using h)
    simp only [List.set_cons_succ, List.sum_cons, List.getD_cons_succ]
    omega
theorem sum_incs : ∀ (L P : List Int), (∀ x ∈ L, 0 ≤ x ∧ x < (P.length : Int)) → (incs P L).sum = P.sum + (L.length : Int)
  | [], P, _ => by simp [incs]
  | a :: r, P, hb => by
    have ha := hb a List.mem_cons_self
    obtain ⟨j, rfl⟩ : ∃ j : Nat, a = j := ⟨a.toNat, by omega⟩
    rw [incs, sum_incs r _ (fun x hx => by rw [List.length_set]; exact hb x (List.mem_cons_of_mem _ hx)), Int.toNat_natCast, sum_setn _ _ _ (by omega)]
    unfold rd
    rw [Int.toNat_natCast, List.length_cons]
    omega
/-- The remainders in the order of the list. -/
theorem rem_sum (size T : Int) (hT : 1 ≤ T) : ∀ l : List Int, T * (qs size T l).sum + (l.map (fun x => size * x % T)).sum = size * l.sum
  | [] => by simp [qs]
  | x :: l => by
    have ih := rem_sum size T hT l
    have e := Int.mul_ediv_add_emod (size * x) T
    simp only [qs, List.map_cons, List.sum_cons, Int.mul_add] at *
    omega
theorem sum_fin (f : Nat → Int) : ∀ (n : Nat), ((List.range n).map f).sum = ((List.finRange n).map (fun i => f i.val)).sum := by
  intro n
  have : (List.finRange n).map (fun i => f i.val) = ((List.finRange n).map (·.val)).map f := by rw [List.map_map]; rfl
  rw [this]
  congr 2
  apply List.ext_getElem
  · simp
  · intro i h1 h2; simp
theorem sum_le_mul {α : Type} (f : α → Int) (b : Int) : ∀ l : List α, (∀ x ∈ l, f x ≤ b) → (l.map f).sum ≤ b * (l.length : Int)
  | [], _ => by simp
  | x :: l, h => by
    have ih := sum_le_mul f b l (fun y hy => h y (List.mem_cons_of_mem _ hy))
    have hx := h x List.mem_cons_self
    have e : b * ((x :: l).length : Int) = b * (l.length : Int) + b := by rw [List.length_cons, Int.natCast_succ, Int.mul_add, Int.mul_one]
    rw [e, List.map_cons, List.sum_cons]
    omega
theorem sum_nonneg {α : Type} (f : α → Int) : ∀ l : List α, (∀ x ∈ l, 0 ≤ f x) → 0 ≤ (l.map f).sum
  | [], _ => by simp
  | x :: l, h => by
    have ih := sum_nonneg f l (fun y hy => h y (List.mem_cons_of_mem _ hy))
    have hx := h x List.mem_cons_self
    rw [List.map_cons, List.sum_cons]
    omega
theorem perm_sum {α : Type} (f : α → Int) {a b : List α} (h : a.Perm b) : (a.map f).sum = (b.map f).sum := by
  induction h with
  | nil => rfl
  | cons x _ ih => simp [ih]
  | swap x y l => simp only [List.map_cons, List.sum_cons]; omega
  | trans _ _ i1 i2 => exact i1.trans i2
theorem map_rem (size T : Int) (l : List Int) : l.map (fun x => size * x % T) = (List.range l.length).map (remOf size T l) := by
  apply List.ext_getElem
  · simp
  · intro i h1 h2
    simp only [List.getElem_map, List.getElem_range, remOf]
    have : i < l.length := by simpa using h1
    simp [this]
/-- What an order of the indices gives the cents that are left to. -/
theorem give_ok (size T : Int) (l : List Int) (hT : 1 ≤ T) (e : T = l.sum) (z : List (Fin l.length)) (hp : z.Perm (List.finRange l.length)) (hs : z.Pairwise (ltF size T l l.length)) (m : Nat) (hm : (m : Int) = size - (qs size T l).sum) :
    m ≤ l.length ∧ (∀ x ∈ z.take m, 0 < remOf size T l x.val) ∧ (∀ x ∈ z.take m, ∀ y, y ∉ z.take m → ltF size T l l.length x y) := by
  have hlen : z.length = l.length := by rw [hp.length_eq, List.length_finRange]
  have hr0 : ∀ i, 0 ≤ remOf size T l i := fun i => Int.emod_nonneg _ (by omega)
  have hr1 : ∀ i, remOf size T l i ≤ T - 1 := fun i => by have := Int.emod_lt_of_pos (size * l.getD i 0) (show 0 < T by omega); unfold remOf; omega
  have hsum : (z.map (fun x => remOf size T l x.val)).sum = T * (m : Int) := by
    rw [perm_sum _ hp, ← sum_fin (remOf size T l), ← map_rem, hm, Int.mul_sub]
    have := rem_sum size T hT l
    rw [← e, Int.mul_comm size T] at this
    omega
  have hmn : m ≤ l.length := by
    have h1 := sum_le_mul (fun x : Fin l.length => remOf size T l x.val) (T - 1) z (fun x _ => hr1 _)
    rw [hsum, hlen] at h1
    rcases Nat.lt_or_ge l.length m with h | h
    · have h2 : T * (l.length : Int) ≤ T * (m : Int) := Int.mul_le_mul_of_nonneg_left (by omega) (by omega)
      have h3 : (T - 1) * (l.length : Int) = T * (l.length : Int) - (l.length : Int) := by rw [Int.sub_mul, Int.one_mul]
      have h4 : T * ((l.length : Int) + 1) ≤ T * (m : Int) := Int.mul_le_mul_of_nonneg_left (by omega) (by omega)
      rw [Int.mul_add, Int.mul_one] at h4
      omega
    · exact h
  have hcut : ∀ x ∈ z.take m, ∀ y, y ∉ z.take m → ltF size T l l.length x y := by
    intro x hx y hy
    have hyz : y ∈ z := hp.mem_iff.mpr (List.mem_finRange y)
    rw [← List.take_append_drop m z] at hyz hs
    rcases List.mem_append.mp hyz with h | h
    · exact absurd h hy
    · exact (List.pairwise_append.mp hs).2.2 x hx y h
  refine ⟨hmn, ?_, hcut⟩
  intro x hx
  have h0 := hr0 x.val
  rcases Int.lt_or_eq_of_le h0 with h | h
  · exact h
  · exfalso
    have hnd : (z.take m ++ z.drop m).Nodup := by rw [List.take_append_drop]; exact hp.symm.nodup (List.nodup_finRange _)
    have hd0 : ∀ y ∈ z.drop m, remOf size T l y.val ≤ 0 := by
      intro y hy
      have hyt : y ∉ z.take m := fun hy2 => absurd rfl ((List.nodup_append.mp hnd).2.2 y hy2 y hy)
      have := hcut x hx y hyt
      unfold ltF at this
      omega
    have e1 : (z.map (fun x => remOf size T l x.val)).sum = ((z.take m).map (fun x => remOf size T l x.val)).sum + ((z.drop m).map (fun x => remOf size T l x.val)).sum := by
      rw [← List.sum_append, ← List.map_append, List.take_append_drop]
    have h2 := sum_le_mul (fun x : Fin l.length => remOf size T l x.val) 0 (z.drop m) hd0
    have h3 := sum_le_mul (fun x : Fin l.length => remOf size T l x.val) (T - 1) (z.take m) (fun x _ => hr1 _)
    have hl : (z.take m).length = m := by rw [List.length_take]; omega
    have hm1 : 1 ≤ m := by
      rcases Nat.eq_zero_or_pos m with h | h
      · subst h; simp at hx
      · exact h
    rw [hl] at h3
    have h4 : (T - 1) * (m : Int) = T * (m : Int) - (m : Int) := by rw [Int.sub_mul, Int.one_mul]
    omega
theorem ord_sorted (size T : Int) (l : List Int) (hn : 0 < l.length) : (ordA size T l hn).toList.Perm (List.finRange l.length) ∧ (ordA size T l hn).toList.Pairwise (ltF size T l l.length) := by
  letI : Inhabited (Fin l.length) := ⟨⟨0, hn⟩⟩
  obtain ⟨y, y1, y2, y3⟩ := ins_sort (cfF size T l l.length) (ltF size T l l.length) (ltF_trans size T l l.length) [] (idF l.length).toList [] (id_later size T l l.length)
  have e : (ordA size T l hn).toList = y := ordA_is size T l hn y y1 y2
  rw [e]
  have e2 : (idF l.length).toList = List.finRange l.length := by
    simp only [idF, List.finRange, Array.toList_ofFn]
    rfl
  rw [← e2]
  exact ⟨y1, y2⟩
/-- What is known of a split: who gets one more (B), the parts, their sum. -/
structure SplitOK (size sgn T : Int) (l res : List Int) (B : Nat → Bool) : Prop where
  len : res.length = l.length
  part : ∀ i : Nat, i < l.length → rd res (i : Int) = sgn * (size * rd l (i : Int) / T + if B i = true then 1 else 0)
  pos : ∀ i : Nat, i < l.length → B i = true → 0 < size * rd l (i : Int) % T
  cut : ∀ i k : Nat, i < l.length → k < l.length → B i = true → B k = false → size * rd l (k : Int) % T < size * rd l (i : Int) % T ∨ (size * rd l (i : Int) % T = size * rd l (k : Int) % T ∧ i < k)
  sum : res.sum = sgn * size
theorem remOf_rd (size T : Int) (l : List Int) (i : Nat) : remOf size T l i = size * rd l (i : Int) % T := by unfold remOf rd; rw [Int.toNat_natCast]
theorem sum_mul (b : Int) : ∀ l : List Int, (l.map (· * b)).sum = l.sum * b
  | [] => by simp
  | x :: l => by rw [List.map_cons, List.sum_cons, List.sum_cons, sum_mul b l, Int.add_mul]
theorem rd_map (b : Int) (l : List Int) (i : Nat) (hi : i < l.length) : rd (l.map (· * b)) (i : Int) = rd l (i : Int) * b := by
  unfold rd
  simp [hi]
theorem split_ok (c T : Int) (l : List Int) (hn : 0 < l.length) (hT : 1 ≤ T) (e : T = l.sum) (hb : ∀ x ∈ l, 0 ≤ x ∧ x ≤ 1000000) :
    ∃ B, SplitOK (if c < 0 then -c else c) (if c < 0 then -1 else 1) T l (splitRes c T l hn) B := by
  unfold splitRes
  have hs : 0 ≤ (if c < 0 then -c else c) := by split <;> omega
  generalize (if c < 0 then -c else c) = size at hs ⊢
  generalize (if c < 0 then (-1 : Int) else 1) = sgn
  have hL := leftAt_bd size T l l.length hs hT hb e
  obtain ⟨m, hm⟩ : ∃ m : Nat, leftAt size T l l.length = m := ⟨(leftAt size T l l.length).toNat, by omega⟩
  have hm2 : (m : Int) = size - (qs size T l).sum := by rw [← hm]; unfold leftAt; rw [List.take_length]
  rw [hm, Int.toNat_natCast]
  obtain ⟨hp, hso⟩ := ord_sorted size T l hn
  obtain ⟨g1, g2, g3⟩ := give_ok size T l hT e _ hp hso m hm2
  have eL : (ordL size T l hn).take m = ((ordA size T l hn).toList.take m).map (fun x => (x.val : Int)) := by unfold ordL; rw [List.map_take]
  rw [eL]
  generalize hz : (ordA size T l hn).toList.take m = z at g2 g3
  have hzn : z.Nodup := by
    rw [← hz]
    exact List.Nodup.sublist (List.take_sublist _ _) (hp.symm.nodup (List.nodup_finRange _))
  have hLn : (z.map (fun x => (x.val : Int))).Nodup := by
    rw [List.nodup_iff_pairwise_ne] at hzn ⊢
    rw [List.pairwise_map]
    exact hzn.imp (fun h h2 => h (Fin.ext (by omega)))
  have hql : (qs size T l).length = l.length := by unfold qs; rw [List.length_map]
  have hLb : ∀ x ∈ z.map (fun x => (x.val : Int)), 0 ≤ x ∧ x < ((qs size T l).length : Int) := by
    intro x hx
    obtain ⟨y, _, rfl⟩ := List.mem_map.mp hx
    have := y.isLt
    omega
  have hmem : ∀ (i : Nat) (hi : i < l.length), ((i : Int) ∈ z.map (fun x => (x.val : Int))) ↔ (⟨i, hi⟩ : Fin l.length) ∈ z := by
    intro i hi
    constructor
    · intro h
      obtain ⟨y, hy, e2⟩ := List.mem_map.mp h
      have e3 : (y.val : Int) = (i : Int) := e2
      have : y = ⟨i, hi⟩ := Fin.ext (by show y.val = i; omega)
      rw [← this]
      exact hy
    · intro h
      exact List.mem_map.mpr ⟨_, h, rfl⟩
  have hil := incs_length (z.map (fun x => (x.val : Int))) (qs size T l)
  have hq : ∀ i : Nat, i < l.length → rd (qs size T l) (i : Int) = size * rd l (i : Int) / T := by
    intro i hi
    unfold rd qs
    simp [hi]
  refine ⟨fun i => decide ((i : Int) ∈ z.map (fun x => (x.val : Int))), ?_, ?_, ?_, ?_, ?_⟩
  · rw [List.length_map, hil, hql]
  · intro i hi
    rw [rd_map _ _ _ (by rw [hil, hql]; exact hi), rd_incs _ _ hLn hLb, hq i hi, Int.mul_comm]
    simp only [decide_eq_true_eq]
  · intro i hi h
    rw [← remOf_rd]
    exact g2 ⟨i, hi⟩ ((hmem i hi).mp (of_decide_eq_true h))
  · intro i k hi hk h1 h2
    have := g3 ⟨i, hi⟩ ((hmem i hi).mp (of_decide_eq_true h1)) ⟨k, hk⟩ (fun h3 => absurd ((hmem k hk).mpr h3) (of_decide_eq_false h2))
    unfold ltF at this
    rw [← remOf_rd, ← remOf_rd]
    exact this
  · have hzl : z.length = m := by rw [← hz, List.length_take, hp.length_eq, List.length_finRange]; omega
    rw [sum_mul, sum_incs _ _ hLb, List.length_map, hzl, Int.mul_comm]
    congr 1
    omega
/-- The sum of the weights, or 0. -/
def wholeF (l : List Int) : Int := if 1 ≤ l.length ∧ l.length ≤ 64 then (splitTotal l 0).getD 0 else 0
theorem whole_loop (l : List Int) (hl : l.length ≤ 64) : ∀ (d k i : Nat) (s : Int), i + d = l.length → d < k → cohousingref02_Whole.l0 k l s (i : Int) = some ((splitTotal (l.drop i) s).getD 0)
  | _, 0, _, _, _, h => absurd h (Nat.not_lt_zero _)
  | d, k + 1, i, s, h1, h2 => by
    rw [cohousingref02_Whole.l0]
    by_cases hi : i < l.length
    · rw [if_pos (by omega), if_pos (by omega), splitTotal_drop l i s hi]
      by_cases h3 : rd l (i : Int) < 0
      · rw [if_pos h3, if_pos (Or.inl h3)]
        rfl
      · rw [if_neg h3]
        by_cases h4 : rd l (i : Int) > 1000000
        · rw [if_pos h4, if_pos (Or.inr h4)]
          rfl
        · have hw : wrap64 ((i : Int) + 1) = ((i + 1 : Nat) : Int) := by unfold wrap64; omega
          rw [if_neg h4, if_neg (by omega), hw, whole_loop l hl (d - 1) k (i + 1) _ (by omega) (by omega)]
    · rw [if_neg (by omega), List.drop_of_length_le (by omega)]
      rfl
theorem whole_eq (l : List Int) (k : Nat) (hk : 100 ≤ k) : cohousingref02_Whole.f k l = some (wholeF l) := by
  unfold cohousingref02_Whole.f wholeF
  obtain ⟨k, rfl⟩ : ∃ m, k = m + 1 := ⟨k - 1, by omega⟩
  by_cases h1 : (l.length : Int) < 1
  · rw [if_pos h1, if_neg (by omega), cohousingref02_Whole.j0, if_pos rfl]
  · rw [if_neg h1]
    by_cases h2 : (l.length : Int) > 64
    · rw [decide_eq_true h2, if_neg (by omega), cohousingref02_Whole.j0, if_pos rfl]
    · rw [decide_eq_false h2, if_pos (by omega), cohousingref02_Whole.j0, if_neg (by decide)]
      exact whole_loop l (by omega) l.length k 0 0 (by omega) (by omega)
/-- What Split answers. -/
theorem split_bad (c : Int) (l : List Int) (h : ¬ (Amt c ∧ wholeF l ≠ 0)) : money_Split.f c l = some ([], 1) := by
  unfold money_Split.f
  unfold wholeF at h
  cases ht : splitTotal l 0 with
  | none => rfl
  | some T =>
    rw [ht] at h
    simp only
    by_cases h2 : ¬ (-1000000000 ≤ c ∧ c ≤ 1000000000) ∨ 64 < l.length ∨ T = 0
    · rw [if_pos h2]
    · exfalso
      have hl : 1 ≤ l.length := by
        cases l with
        | nil =>
          simp only [splitTotal, Option.some.injEq] at ht
          omega
        | cons => simp
      apply h
      rw [if_pos ⟨hl, by omega⟩]
      exact ⟨by unfold Amt; omega, by simp only [Option.getD_some]; omega⟩
theorem split_good (c : Int) (l : List Int) (h : Amt c ∧ wholeF l ≠ 0) : ∃ hn : 0 < l.length, l.length ≤ 64 ∧ 1 ≤ wholeF l ∧ wholeF l = l.sum ∧ (∀ x ∈ l, 0 ≤ x ∧ x ≤ 1000000) ∧ money_Split.f c l = some (splitRes c (wholeF l) l hn, 0) := by
  obtain ⟨hc, hw⟩ := h
  by_cases hl : 1 ≤ l.length ∧ l.length ≤ 64
  · cases ht : splitTotal l 0 with
    | none =>
      unfold wholeF at hw
      rw [if_pos hl, ht] at hw
      exact absurd rfl hw
    | some T =>
      have e : wholeF l = T := by unfold wholeF; rw [if_pos hl, ht]; rfl
      obtain ⟨e2, hm⟩ := splitTotal_sum l 0 T ht (by omega) (by omega)
      have h0 := (sum_nonneg_le l 0 hm).1
      rw [e] at hw ⊢
      refine ⟨by omega, hl.2, by omega, by omega, hm, ?_⟩
      unfold money_Split.f
      rw [ht]
      simp only
      rw [if_neg (by unfold Amt at hc; omega), dif_pos ⟨hl.2, hl.1⟩]
  · unfold wholeF at hw
    rw [if_neg hl] at hw
    exact absurd rfl hw
theorem le_sum : ∀ (l : List Int), (∀ x ∈ l, 0 ≤ x ∧ x ≤ 1000000) → ∀ x ∈ l, x ≤ l.sum
  | [], _, x, h => by cases h
  | y :: l, hb, x, h => by
    have h0 := (sum_nonneg_le l 0 (fun z hz => hb z (List.mem_cons_of_mem _ hz))).1
    have hy := hb y List.mem_cons_self
    rw [List.sum_cons]
    rcases List.mem_cons.mp h with rfl | h
    · omega
    · have := le_sum l (fun z hz => hb z (List.mem_cons_of_mem _ hz)) x h
      omega
/-- The absolute value. -/
theorem size_f (a : Int) (h : Amt a) : cohousinglaw02_size.f a = some (if a < 0 then -a else a) := by
  unfold cohousinglaw02_size.f
  have w : wrap64 (-a) = -a := wrap_ok (by unfold Amt at h; omega) (by unfold Amt at h; omega)
  rw [w]
  unfold mx
  congr 1
  split <;> split <;> omega
/-- What the laws ask of the parts. -/
structure PartsOK (c T : Int) (l res : List Int) : Prop where
  len : res.length = l.length
  amt : ∀ i : Nat, i < l.length → Amt (rd res (i : Int))
  pos : 0 ≤ c → ∀ i : Nat, i < l.length → 0 ≤ rd res (i : Int)
  neg : c ≤ 0 → ∀ i : Nat, i < l.length → rd res (i : Int) ≤ 0
  zero : ∀ i : Nat, i < l.length → rd l (i : Int) = 0 → rd res (i : Int) = 0
  wt : ∀ i : Nat, i < l.length → 0 ≤ rd l (i : Int) ∧ rd l (i : Int) ≤ 1000000 ∧ rd l (i : Int) ≤ T
  lo : ∀ i : Nat, i < l.length → -T < rd res (i : Int) * T - c * rd l (i : Int)
  hi : ∀ i : Nat, i < l.length → rd res (i : Int) * T - c * rd l (i : Int) < T
  mono : ∀ i k : Nat, i < l.length → k < l.length → rd l (k : Int) < rd l (i : Int) → (if rd res (k : Int) < 0 then -rd res (k : Int) else rd res (k : Int)) ≤ (if rd res (i : Int) < 0 then -rd res (i : Int) else rd res (i : Int))
  sum : res.sum = c
theorem parts_ok (c : Int) (l : List Int) (hc : Amt c) (hn : 0 < l.length) (hT : 1 ≤ l.sum) (hb : ∀ x ∈ l, 0 ≤ x ∧ x ≤ 1000000) : PartsOK c l.sum l (splitRes c l.sum l hn) := by
  obtain ⟨B, h⟩ := split_ok c l.sum l hn hT rfl hb
  generalize splitRes c l.sum l hn = res at h ⊢
  have hle := le_sum l hb
  have hw : ∀ i : Nat, i < l.length → 0 ≤ rd l (i : Int) ∧ rd l (i : Int) ≤ 1000000 ∧ rd l (i : Int) ≤ l.sum := by
    intro i hi
    have hm : rd l (i : Int) ∈ l := by rw [rd_nat l i hi]; exact List.getElem_mem hi
    exact ⟨(hb _ hm).1, (hb _ hm).2, hle _ hm⟩
  generalize l.sum = T at *
  have hs0 : 0 ≤ (if c < 0 then -c else c) := by split <;> omega
  have hs1 : (if c < 0 then -c else c) ≤ 1000000000 := by unfold Amt at hc; split <;> omega
  have hsc : c = (if c < 0 then (-1 : Int) else 1) * (if c < 0 then -c else c) := by split <;> omega
  have hsg : ((if c < 0 then (-1 : Int) else 1) = -1 ∧ c < 0) ∨ ((if c < 0 then (-1 : Int) else 1) = 1 ∧ 0 ≤ c) := by
    by_cases h : c < 0
    · rw [if_pos h]; exact .inl ⟨rfl, h⟩
    · rw [if_neg h]; exact .inr ⟨rfl, by omega⟩
  generalize (if c < 0 then -c else c) = size at *
  generalize (if c < 0 then (-1 : Int) else 1) = sgn at *
  -- a part without its sign
  have key : ∀ i : Nat, i < l.length → ∃ a : Int, rd res (i : Int) = sgn * a ∧ 0 ≤ a ∧ a ≤ size ∧ -T < a * T - size * rd l (i : Int) ∧ a * T - size * rd l (i : Int) < T ∧ (rd l (i : Int) = 0 → a = 0) ∧ a = size * rd l (i : Int) / T + (if B i = true then 1 else 0) := by
    intro i hi
    obtain ⟨w1, w2, w3⟩ := hw i hi
    have hp := h.pos i hi
    have hz : rd l (i : Int) = 0 → size * rd l (i : Int) = 0 := fun e => by rw [e, Int.mul_zero]
    have hpn : 0 ≤ size * rd l (i : Int) := Int.mul_nonneg hs0 w1
    have hpm : size * rd l (i : Int) ≤ size * T := Int.mul_le_mul_of_nonneg_left w3 hs0
    have hpart := h.part i hi
    refine ⟨_, hpart, ?_⟩
    generalize size * rd l (i : Int) = p at *
    have e1 := Int.mul_ediv_add_emod p T
    have e2 := Int.emod_nonneg p (show T ≠ 0 by omega)
    have e3 := Int.emod_lt_of_pos p (show 0 < T by omega)
    have e4 : 0 ≤ p / T := Int.ediv_nonneg hpn (by omega)
    have e5 : (p / T + (if B i = true then 1 else 0)) * T = T * (p / T) + (if B i = true then T else 0) := by
      rw [Int.add_mul, Int.mul_comm (p / T) T]
      congr 1
      split
      · rw [Int.one_mul]
      · rw [Int.zero_mul]
    cases hBi : B i with
    | true =>
      rw [hBi] at e5
      simp only [if_true] at e5 ⊢
      have hp2 := hp hBi
      refine ⟨by omega, ?_, by omega, by omega, fun e => ?_, trivial⟩
      · have h1 : (p / T + 1) * T < size * T + T := by omega
        have h2 : size * T + T = (size + 1) * T := by rw [Int.add_mul, Int.one_mul]
        rw [h2] at h1
        have := Int.lt_of_mul_lt_mul_right h1 (by omega)
        omega
      · exfalso
        have e0 := hz e
        rw [e0] at hp2
        simp at hp2
    | false =>
      rw [hBi] at e5
      simp only [Bool.false_eq_true, if_false] at e5 ⊢
      refine ⟨by omega, ?_, by omega, by omega, fun e => ?_, trivial⟩
      · have h1 : (p / T + 0) * T < (size + 1) * T := by rw [Int.add_mul size, Int.one_mul]; omega
        have := Int.lt_of_mul_lt_mul_right h1 (by omega)
        omega
      · rw [hz e]
        simp
  refine ⟨h.len, ?_, ?_, ?_, ?_, hw, ?_, ?_, ?_, ?_⟩
  · intro i hi
    obtain ⟨a, e, a1, a2, _⟩ := key i hi
    rw [e]
    unfold Amt
    rcases hsg with ⟨e1, _⟩ | ⟨e1, _⟩ <;> rw [e1] <;> omega
  · intro h0 i hi
    obtain ⟨a, e, a1, a2, _⟩ := key i hi
    rw [e]
    rcases hsg with ⟨e1, _⟩ | ⟨e1, _⟩ <;> rw [e1] <;> omega
  · intro h0 i hi
    obtain ⟨a, e, a1, a2, _⟩ := key i hi
    rw [e]
    rcases hsg with ⟨e1, _⟩ | ⟨e1, _⟩ <;> rw [e1] at hsc ⊢ <;> omega
  · intro i hi hz
    obtain ⟨a, e, a1, a2, a3, a4, a5, _⟩ := key i hi
    rw [e, a5 hz, Int.mul_zero]
  · intro i hi
    obtain ⟨a, e, a1, a2, a3, a4, a5, _⟩ := key i hi
    have e2 : rd res (i : Int) * T - c * rd l (i : Int) = sgn * (a * T - size * rd l (i : Int)) := by rw [e, hsc, Int.mul_assoc, Int.mul_assoc, ← Int.mul_sub]
    rw [e2]
    rcases hsg with ⟨e1, _⟩ | ⟨e1, _⟩ <;> rw [e1] <;> omega
  · intro i hi
    obtain ⟨a, e, a1, a2, a3, a4, a5, _⟩ := key i hi
    have e2 : rd res (i : Int) * T - c * rd l (i : Int) = sgn * (a * T - size * rd l (i : Int)) := by rw [e, hsc, Int.mul_assoc, Int.mul_assoc, ← Int.mul_sub]
    rw [e2]
    rcases hsg with ⟨e1, _⟩ | ⟨e1, _⟩ <;> rw [e1] <;> omega
  · intro i k hi hk hlt
    obtain ⟨a, e, a1, a2, a3, a4, a5, a6⟩ := key i hi
    obtain ⟨b, f, b1, b2, b3, b4, b5, b6⟩ := key k hk
    have hba : b ≤ a := by
      rcases Int.lt_or_eq_of_le hs0 with hs | hs
      · have hp : size * rd l (k : Int) < size * rd l (i : Int) := Int.mul_lt_mul_of_pos_left hlt hs
        have hcut := h.cut k i hk hi
        generalize size * rd l (k : Int) = pk at *
        generalize size * rd l (i : Int) = pi at *
        have hq : pk / T ≤ pi / T := Int.ediv_le_ediv (by omega) (by omega)
        have m1 := Int.mul_ediv_add_emod pk T
        have m2 := Int.mul_ediv_add_emod pi T
        cases hBk : B k with
        | false => rw [hBk] at b6; rw [a6, b6]; simp only [Bool.false_eq_true, if_false]; split <;> omega
        | true =>
          cases hBi : B i with
          | true => rw [hBk] at b6; rw [hBi] at a6; rw [a6, b6]; omega
          | false =>
            rw [hBk] at b6; rw [hBi] at a6; rw [a6, b6]
            simp only [Bool.false_eq_true, if_false, if_true]
            have := hcut hBk hBi
            rcases Int.lt_or_eq_of_le hq with h3 | h3
            · omega
            · rw [h3] at m1
              omega
      · omega
    rw [e, f]
    rcases hsg with ⟨e1, _⟩ | ⟨e1, _⟩ <;> rw [e1] <;> split <;> split <;> omega
  · rw [h.sum]
    exact hsc.symm
end Go.Proofs.YtcbhaoaameiacaaDoor.Pure

