/- Facts: the law's mixed has the same records; Order is one list; the reference's Before and Same. No Go and no memory in it. -/
import Derived.Test.YthcjocojngochaaGreatDoorFactsHead
import Derived.Test.YthcjocojngochaaGreatDoorXx20
import Derived.Test.YthcjocojngochaaGreatDoorXx21
namespace Go.Proofs.YthcjocojngochaaGreatDoor.Pure
open Go.RowKit Go.Proofs.YthcjocojngochaaGreatDoor.X Go.Proofs.YthcjocojngochaaGreatDoorW.PrintWords Go.Proofs.YthcjocojngochaaGreatDoorW.PrintMore
set_option linter.unusedVariables false
/-! ### mixed -/
theorem getD_mem (l : List Rec) (i : Nat) (h : i < l.length) (z : Rec) : l.getD i z ∈ l := by
  rw [List.getD_eq_getElem?_getD, List.getElem?_eq_getElem h]
  exact List.getElem_mem h
theorem erase_mem (l : List Rec) (i : Nat) (h : i < l.length) (z x : Rec) (hx : x ∈ l) : x = l.getD i z ∨ x ∈ l.eraseIdx i := by
  rw [List.getD_eq_getElem?_getD, List.getElem?_eq_getElem h]
  have e : l = l.take i ++ l[i] :: l.drop (i + 1) := by rw [← List.drop_eq_getElem_cons h, List.take_append_drop]
  rw [e] at hx
  rw [List.eraseIdx_eq_take_drop_succ]
  rcases List.mem_append.1 hx with h1 | h1
  · exact .inr (List.mem_append_left _ h1)
  · rcases List.mem_cons.1 h1 with h2 | h2
    · exact .inl h2
    · exact .inr (List.mem_append_right _ h2)
/-- What the picks keep. -/
def MixOK (l : List Rec) (n : Nat) (st : List Rec × List Rec) : Prop :=
  (∀ x ∈ st.1, x ∈ l) ∧ (∀ x ∈ st.2, x ∈ l) ∧ (∀ x ∈ l, x ∈ st.1 ∨ x ∈ st.2) ∧ st.1.length ≤ 2 * n ∧ st.2.length ≤ l.length
theorem mix_step (l : List Rec) (hl : 0 < l.length) (n : Nat) (st : List Rec × List Rec) (h : MixOK l n st) (k : Int) : MixOK l (n + 1) (mixS l st k) := by
  obtain ⟨h1, h2, h3, h4, h5⟩ := h
  have hi : mixI k l.length < l.length := Nat.mod_lt _ hl
  unfold mixS
  by_cases h0 : st.2.length = 0
  · rw [if_pos h0]
    refine ⟨fun x hx => ?_, h2, fun x hx => ?_, ?_, h5⟩
    · rcases List.mem_append.1 hx with h6 | h6
      · exact h1 x h6
      · rw [List.mem_singleton.1 h6]
        exact getD_mem l _ hi _
    · rcases h3 x hx with h6 | h6
      · exact .inl (List.mem_append_left _ h6)
      · exact .inr h6
    · simp only [List.length_append, List.length_singleton]
      omega
  · rw [if_neg h0]
    have hr : mixI k st.2.length < st.2.length := Nat.mod_lt _ (by omega)
    refine ⟨fun x hx => ?_, fun x hx => h2 x (List.mem_of_mem_eraseIdx hx), fun x hx => ?_, ?_, ?_⟩
    · rcases List.mem_append.1 hx with h6 | h6
      · rcases List.mem_append.1 h6 with h7 | h7
        · exact h1 x h7
        · rw [List.mem_singleton.1 h7]
          exact getD_mem l _ hi _
      · rw [List.mem_singleton.1 h6]
        exact h2 _ (getD_mem _ _ hr _)
    · rcases h3 x hx with h6 | h6
      · exact .inl (List.mem_append_left _ (List.mem_append_left _ h6))
      · rcases erase_mem st.2 _ hr z26 x h6 with h7 | h7
        · exact .inl (List.mem_append_right _ (List.mem_singleton.2 h7))
        · exact .inr h7
    · simp only [List.length_append, List.length_singleton]
      omega
    · have := List.length_eraseIdx_le st.2 (mixI k st.2.length)
      exact Nat.le_trans this h5
theorem mix_fold (l : List Rec) (hl : 0 < l.length) : ∀ (ps : List Int) (n : Nat) (st : List Rec × List Rec), MixOK l n st → MixOK l (n + ps.length) (ps.foldl (mixS l) st)
  | [], n, st, h => h
  | k :: ps, n, st, h => by
    have := mix_fold l hl ps (n + 1) _ (mix_step l hl n st h k)
    rw [List.foldl_cons, List.length_cons, show n + (ps.length + 1) = n + 1 + ps.length by omega]
    exact this
theorem mix_mem (l : List Rec) (ps : List Int) : (∀ x, x ∈ mixL l ps ↔ x ∈ l) ∧ (mixL l ps).length ≤ 2 * ps.length + l.length := by
  unfold mixL
  by_cases h0 : l.length = 0
  · rw [if_pos h0]
    obtain rfl := List.length_eq_zero_iff.mp h0
    exact ⟨fun x => by simp, by simp⟩
  · rw [if_neg h0]
    obtain ⟨h1, h2, h3, h4, h5⟩ := mix_fold l (by omega) ps 0 ([], l) ⟨by simp, fun x hx => hx, fun x hx => .inr hx, by simp, Nat.le_refl _⟩
    refine ⟨fun x => ⟨fun hx => ?_, fun hx => ?_⟩, by rw [List.length_append]; omega⟩
    · rcases List.mem_append.1 hx with h | h
      · exact h1 x h
      · exact h2 x h
    · exact List.mem_append.2 (h3 x hx)
theorem valid_mix (l : List Rec) (ps : List Int) (h : validB l = true) (hl : l.length ≤ 60) (hp : ps.length ≤ 60) : validB (mixL l ps) = true := by
  obtain ⟨h1, h2⟩ := mix_mem l ps
  unfold validB at h ⊢
  simp only [Bool.and_eq_true, decide_eq_true_eq, List.all_eq_true] at h ⊢
  exact ⟨by omega, fun x hx => h.2 x ((h1 x).1 hx)⟩
/-! ### Order -/
theorem uptoR_ok (d : Array Rec) (hm : ∀ i j, i ≤ j → j < d.size → ltR d[j]! d[i]! = false) : ∀ m, m ≤ d.size →
    (Lib.compactUpTo d m).Pairwise (fun a b => ltR a b = true) ∧ (∀ x ∈ Lib.compactUpTo d m, ∃ j, j < m ∧ x = d[j]!) ∧ (∀ j, j < m → d[j]! ∈ Lib.compactUpTo d m)
  | 0, _ => ⟨by simp [Lib.compactUpTo], by simp [Lib.compactUpTo], fun j h => absurd h (by omega)⟩
  | m + 1, h => by
    obtain ⟨p1, p2, p3⟩ := uptoR_ok d hm m (by omega)
    rw [Lib.compactUpTo_succ]
    cases hk : Lib.keeps d m with
    | true =>
      rw [if_pos rfl]
      refine ⟨List.pairwise_append.mpr ⟨p1, by simp, ?_⟩, ?_, ?_⟩
      · intro a ha b hb
        rw [List.mem_singleton.mp hb]
        obtain ⟨j, hj, rfl⟩ := p2 a ha
        have h1 := hm j (m - 1) (by omega) (by omega)
        have h2 := hm (m - 1) m (by omega) (by omega)
        have h3 : m = 0 ∨ d[m]! ≠ d[m - 1]! := of_decide_eq_true hk
        rcases h3 with h3 | h3
        · omega
        · cases h4 : ltR d[m - 1]! d[m]! with
          | false => exact absurd (ltR_lin.tri _ _ h2 h4) h3
          | true =>
            cases h5 : ltR d[j]! d[m - 1]! with
            | true => exact ltR_lin.tra _ _ _ h5 h4
            | false =>
              have h6 := ltR_lin.tri _ _ h1 h5
              rw [← h6]
              exact h4
      · intro x hx
        rcases List.mem_append.mp hx with hx | hx
        · obtain ⟨j, hj, e⟩ := p2 x hx
          exact ⟨j, by omega, e⟩
        · exact ⟨m, by omega, List.mem_singleton.mp hx⟩
      · intro j hj
        rcases Nat.lt_or_ge j m with h1 | h1
        · exact List.mem_append_left _ (p3 j h1)
        · have : j = m := by omega
          subst this
          exact List.mem_append_right _ (by simp)
    | false =>
      rw [if_neg (by decide), List.append_nil]
      have h3 : ¬ (m = 0 ∨ d[m]! ≠ d[m - 1]!) := of_decide_eq_false hk
      refine ⟨p1, fun x hx => ?_, fun j hj => ?_⟩
      · obtain ⟨j, hj, e⟩ := p2 x hx
        exact ⟨j, by omega, e⟩
      · rcases Nat.lt_or_ge j m with h1 | h1
        · exact p3 j h1
        · have : j = m := by omega
          subst this
          have h4 : j ≠ 0 := fun e => h3 (Or.inl e)
          have h5 : d[j]! = d[j - 1]! := Classical.byContradiction fun e => h3 (Or.inr e)
          rw [h5]
          exact p3 (j - 1) (by omega)
/-- What Order returns. -/
def ordR (l : List Rec) : List Rec := Lib.compact (sortR l)
theorem ord_ok (l : List Rec) : (ordR l).Pairwise (fun a b => ltR a b = true) ∧ ∀ x, x ∈ ordR l ↔ x ∈ l := by
  have hm : ∀ i j, i ≤ j → j < (sortR l).toArray.size → ltR (sortR l).toArray[j]! (sortR l).toArray[i]! = false := by
    intro i j hij hj
    rcases Nat.lt_or_ge i j with h1 | h1
    · rw [getElem!_pos _ i (by omega), getElem!_pos _ j hj]
      simp only [List.getElem_toArray]
      exact List.pairwise_iff_getElem.mp (sortR_up l) i j _ _ h1
    · have : i = j := by omega
      subst this
      exact ltR_lin.irr _
  obtain ⟨p1, p2, p3⟩ := uptoR_ok (sortR l).toArray hm (sortR l).length (by simp)
  refine ⟨p1, fun x => ?_⟩
  rw [← (sortR_perm l).mem_iff]
  constructor
  · intro hx
    obtain ⟨j, hj, rfl⟩ := p2 x hx
    rw [getElem!_pos _ j (by simpa using hj)]
    simp
  · intro hx
    obtain ⟨j, hj, rfl⟩ := List.mem_iff_getElem.1 hx
    have := p3 j hj
    rw [getElem!_pos _ j (by simpa using hj)] at this
    rw [List.getElem_toArray] at this
    exact this
theorem ord_len (l : List Rec) : (ordR l).length ≤ l.length := by
  have := compact_len (sortR l)
  have := (sortR_perm l).length_eq
  unfold ordR
  omega
theorem ord_mix (l : List Rec) (ps : List Int) : ordR (mixL l ps) = ordR l :=
  sorted_ext ltR_lin _ _ (ord_ok _).1 (ord_ok _).1 fun z => ((ord_ok _).2 z).trans (((mix_mem l ps).1 z).trans ((ord_ok _).2 z).symm)
theorem order_f (l : List Rec) (hv : validB l = true) (hl : l.length ≤ 4000) : facts_Order.f l = some (ordR l, 0) := by
  unfold facts_Order.f
  rw [if_pos (by omega), if_pos hv]
  rfl
/-! ### the reference -/
theorem before_lt (x y : Rec) : cohousingref16_Before.f x.f0 x.f1 x.f2 x.f3.f0 x.f3.f1 x.f4 x.f5 y.f0 y.f1 y.f2 y.f3.f0 y.f3.f1 y.f4 y.f5 = some (ltR x y) := by
  have ci : ∀ a b : Int, a ≠ b → cmpI a b ≠ 0 ∧ decide (cmpI a b < 0) = decide (a < b) := by
    intro a b h
    refine ⟨fun e => h (cmpI_zero.1 e), ?_⟩
    unfold cmpI
    by_cases h1 : a < b
    · rw [if_pos h1]; simp [h1]
    · rw [if_neg h1, if_pos (by omega)]; simp [h1]
  have ce : ∀ a b : Int, a = b → cmpI a b = 0 := fun a b h => cmpI_zero.2 h
  have th : ∀ (f g : Rec → Rec → Int), f x y ≠ 0 → thenC f g x y = f x y := fun f g h => by unfold thenC; rw [if_pos h]
  have tz : ∀ (f g : Rec → Rec → Int), f x y = 0 → thenC f g x y = g x y := fun f g h => by unfold thenC; rw [if_neg (fun k => k h)]
  unfold cohousingref16_Before.f ltR cmpR
  by_cases h1 : x.f4 = y.f4
  · rw [if_pos h1, tz _ _ (ce _ _ h1)]
    by_cases h2 : x.f0 = y.f0
    · rw [if_pos h2, tz _ _ (ce _ _ h2)]
      by_cases h3 : x.f1.toList = y.f1.toList
      · rw [if_pos h3, tz _ _ (by show cmpL _ _ = 0; rw [h3]; exact cmpL_refl _)]
        by_cases h4 : x.f3.f0 = y.f3.f0
        · rw [if_pos h4, tz _ _ (ce _ _ h4)]
          by_cases h5 : x.f3.f1 = y.f3.f1
          · rw [if_pos h5, tz _ _ (ce _ _ h5)]
            by_cases h6 : x.f2 = y.f2
            · rw [if_pos h6, tz _ _ (ce _ _ h6)]
              cases x.f5 <;> cases y.f5 <;> rfl
            · rw [if_neg h6, th _ _ (ci _ _ h6).1, (ci _ _ h6).2]
          · rw [if_neg h5, th _ _ (ci _ _ h5).1, (ci _ _ h5).2]
        · rw [if_neg h4, th _ _ (ci _ _ h4).1, (ci _ _ h4).2]
      · rw [if_neg h3, th _ _ (fun e => h3 (nat_inj _ _ (cmpL_zero _ _ e))), cmpL_less]
    · rw [if_neg h2, th _ _ (ci _ _ h2).1, (ci _ _ h2).2]
  · rw [if_neg h1, th _ _ (ci _ _ h1).1, (ci _ _ h1).2]
theorem sameR_l (l : List Rec) (hl : l.length ≤ 8796093022208) : ∀ (j i k : Nat), i + j = l.length → j < k → cohousingref16_Same.l0 k l l (i : Int) = some true
  | 0, i, k + 1, hi, _ => by rw [cohousingref16_Same.l0, if_neg (by omega)]
  | j + 1, i, k + 1, hi, hk => by
    have w1 : wrap64 ((i : Int) + 1) = ((i + 1 : Nat) : Int) := by unfold wrap64; omega
    rw [cohousingref16_Same.l0, if_pos (by omega), if_pos (by omega), if_pos (by omega), w1, sameR_l l hl j (i + 1) k (by omega) (by omega)]
    simp
theorem sameR_self (l : List Rec) (hl : l.length ≤ 8796093022208) (k : Nat) (hk : l.length < k) : cohousingref16_Same.f k l l = some true := by
  unfold cohousingref16_Same.f
  rw [if_pos rfl]
  exact sameR_l l hl l.length 0 k (by omega) hk
/-! ### the same facts -/
theorem own_mix (l : List Rec) (ps : List Int) (a1 : Int) (a2 : ByteArray) (z : Rec) : z ∈ ownS (mixL l ps) a1 a2 ↔ z ∈ ownS l a1 a2 := by
  rw [own_mem, own_mem, (mix_mem l ps).1]
theorem on_mix (l : List Rec) (ps : List Int) (a1 : Int) (a2 : ByteArray) (d known : Int) : recF.on (ownS (mixL l ps) a1 a2) d known = recF.on (ownS l a1 a2) d known :=
  recF.on_same ltR_lin _ _ (own_up _ _ _) (own_up _ _ _) (own_mix l ps a1 a2) d known
theorem wh_mix (l : List Rec) (ps : List Int) (a1 : Int) (a2 : ByteArray) (q : Int → Bool) : recF.wh (ownS (mixL l ps) a1 a2) q = recF.wh (ownS l a1 a2) q := by
  unfold Fld.wh
  rw [recF.cuts_same _ _ (own_mix l ps a1 a2)]
theorem dayP_mix (l : List Rec) (ps : List Int) (a1 : Int) (a2 : ByteArray) (v known : Int) : recF.dayP (ownS (mixL l ps) a1 a2) v known = recF.dayP (ownS l a1 a2) v known := by
  funext d
  unfold Fld.dayP
  rw [on_mix]
theorem difP_mix (l : List Rec) (ps : List Int) (a1 : Int) (a2 : ByteArray) (a b : Int) : recF.difP (ownS (mixL l ps) a1 a2) a b = recF.difP (ownS l a1 a2) a b := by
  funext d
  unfold Fld.difP
  rw [on_mix, on_mix]
theorem has1 (l : List Rec) (hl : l.length ≤ 60) (x2 : Int) (x3 : ByteArray) (x4 x5 x6 : Int) (x16 x17 x79 : List Rec) (x80 x81 : Int) (x : Rec) : ∀ (j m n : Nat) (tw : Bool), m + j = l.length →
    cohousinglaw16_FactsOrder.l1 (n + j + 1) l x2 x3 x4 x5 x6 true x16 x17 tw x79 x80 x81 l (l.length : Int) (m : Int) x.f0 x.f1 x.f2 x.f3.f0 x.f3.f1 x.f4 x.f5
      = if (tw || (l.drop m).any (fun y => eq26 x y)) = true then cohousinglaw16_FactsOrder.l0 n l x2 x3 x4 x5 x6 true x16 x17 x79 x80 (wrap64 (x81 + 1)) else none
  | 0, m, n, tw, hm => by
    obtain rfl : m = l.length := by omega
    rw [cohousinglaw16_FactsOrder.l1, if_neg (by omega), if_pos rfl, List.drop_length]
    cases tw <;> simp
  | j + 1, m, n, tw, hm => by
    have hlt : m < l.length := by omega
    have w1 : wrap64 ((m : Int) + 1) = ((m + 1 : Nat) : Int) := by unfold wrap64; omega
    have ih := fun t => has1 l hl x2 x3 x4 x5 x6 x16 x17 x79 x80 x81 x j (m + 1) n t (by omega)
    rw [show n + (j + 1) + 1 = (n + j + 1) + 1 from by omega, cohousinglaw16_FactsOrder.l1, if_pos (by omega), if_pos (by omega), if_pos (by omega), rd_rec l m hlt, w1, List.drop_eq_getElem_cons hlt]
    cases tw
    · rw [if_neg (by simp)]
      refine (ih (eq26 x l[m])).trans ?_
      rw [List.any_cons, Bool.false_or]
    · rw [if_pos rfl, ih]
      simp
theorem has3 (l a : List Rec) (hl : a.length ≤ 60) (x2 : Int) (x3 : ByteArray) (x4 x5 x6 : Int) (x16 : List Rec) (x117 x118 : Int) (y : Rec) : ∀ (j m n : Nat) (tw : Bool), m + j = a.length →
    cohousinglaw16_FactsOrder.l3 (n + j + 1) l x2 x3 x4 x5 x6 true x16 a tw l x117 x118 a (a.length : Int) (m : Int) y.f0 y.f1 y.f2 y.f3.f0 y.f3.f1 y.f4 y.f5
      = if (tw || (a.drop m).any (fun x => eq26 x y)) = true then cohousinglaw16_FactsOrder.l2 n l x2 x3 x4 x5 x6 true x16 a l x117 (wrap64 (x118 + 1)) else none
  | 0, m, n, tw, hm => by
    obtain rfl : m = a.length := by omega
    rw [cohousinglaw16_FactsOrder.l3, if_neg (by omega), if_pos rfl, List.drop_length]
    cases tw <;> simp
  | j + 1, m, n, tw, hm => by
    have hlt : m < a.length := by omega
    have w1 : wrap64 ((m : Int) + 1) = ((m + 1 : Nat) : Int) := by unfold wrap64; omega
    have ih := fun t => has3 l a hl x2 x3 x4 x5 x6 x16 x117 x118 y j (m + 1) n t (by omega)
    rw [show n + (j + 1) + 1 = (n + j + 1) + 1 from by omega, cohousinglaw16_FactsOrder.l3, if_pos (by omega), if_pos (by omega), if_pos (by omega), rd_rec a m hlt, w1, List.drop_eq_getElem_cons hlt]
    cases tw
    · rw [if_neg (by simp)]
      refine (ih (eq26 a[m] y)).trans ?_
      rw [List.any_cons, Bool.false_or]
    · rw [if_pos rfl, ih]
      simp
theorem order_loop (l a : List Rec) (hl : l.length ≤ 60) (ha : a.length ≤ 60) (hu : a.Pairwise (fun x y => ltR x y = true)) (hm : ∀ x ∈ a, x ∈ l) (x2 : Int) (x3 : ByteArray) (x4 x5 x6 : Int) (x16 : List Rec)
    (hend : ∀ k, 8000 ≤ k → cohousinglaw16_FactsOrder.l2 k l x2 x3 x4 x5 x6 true x16 a l (l.length : Int) 0 = some true) :
    ∀ (j i k : Nat), i + j = a.length → j * 70 + 8001 ≤ k → cohousinglaw16_FactsOrder.l0 k l x2 x3 x4 x5 x6 true x16 a a (a.length : Int) (i : Int) = some true
  | 0, i, k + 1, hi, hk => by
    rw [cohousinglaw16_FactsOrder.l0, if_neg (by omega)]
    exact hend k (by omega)
  | j + 1, i, k + 2, hi, hk => by
    have hlt : i < a.length := by omega
    have w1 : wrap64 ((i : Int) + 1) = ((i + 1 : Nat) : Int) := by unfold wrap64; omega
    have ih := order_loop l a hl ha hu hm x2 x3 x4 x5 x6 x16 hend j (i + 1) (k - l.length - 1) (by omega) (by omega)
    have h1 := has1 l hl x2 x3 x4 x5 x6 x16 a a (a.length : Int) (i : Int) a[i] l.length 0 (k - l.length - 1) false (by omega)
    have hany : (l.drop 0).any (fun y => eq26 a[i] y) = true := by
      rw [List.drop_zero, List.any_eq_true]
      exact ⟨a[i], hm _ (List.getElem_mem hlt), (eq26_iff _ _).2 rfl⟩
    rw [show k - l.length - 1 + l.length + 1 = k by omega, hany, Bool.false_or, if_pos rfl, w1, ih] at h1
    rw [cohousinglaw16_FactsOrder.l0, if_pos (by omega), if_pos (by omega), if_pos (by omega), rd_rec a i hlt]
    by_cases h0 : (i : Int) > 0
    · have w2 : wrap64 ((i : Int) - 1) = ((i - 1 : Nat) : Int) := by unfold wrap64; omega
      have hb : ltR a[i - 1] a[i] = true := List.pairwise_iff_getElem.mp hu (i - 1) i (by omega) hlt (by omega)
      rw [if_pos h0, w2, if_pos (by omega), if_pos (by omega), rd_rec a (i - 1) (by omega), before_lt, hb, Option.bind_some, cohousinglaw16_FactsOrder.j3, if_neg (by simp)]
      exact h1
    · rw [if_neg h0, cohousinglaw16_FactsOrder.j3, if_neg (by simp)]
      exact h1
theorem back_loop (l a : List Rec) (hl : l.length ≤ 60) (ha : a.length ≤ 60) (hm : ∀ x ∈ l, x ∈ a) (x2 : Int) (x3 : ByteArray) (x4 x5 x6 : Int) (x16 : List Rec)
    (hend : ∀ k, 3000 ≤ k → cohousinglaw16_FactsOrder.l2 k l x2 x3 x4 x5 x6 true x16 a l (l.length : Int) (l.length : Int) = some true) :
    ∀ (j i k : Nat), i + j = l.length → j * 70 + 3001 ≤ k → cohousinglaw16_FactsOrder.l2 k l x2 x3 x4 x5 x6 true x16 a l (l.length : Int) (i : Int) = some true
  | 0, i, k, hi, hk => by
    obtain rfl : i = l.length := by omega
    exact hend k (by omega)
  | j + 1, i, k + 1, hi, hk => by
    have hlt : i < l.length := by omega
    have w1 : wrap64 ((i : Int) + 1) = ((i + 1 : Nat) : Int) := by unfold wrap64; omega
    have ih := back_loop l a hl ha hm x2 x3 x4 x5 x6 x16 hend j (i + 1) (k - a.length - 1) (by omega) (by omega)
    have h1 := has3 l a ha x2 x3 x4 x5 x6 x16 (l.length : Int) (i : Int) l[i] a.length 0 (k - a.length - 1) false (by omega)
    have hany : (a.drop 0).any (fun x => eq26 x l[i]) = true := by
      rw [List.drop_zero, List.any_eq_true]
      exact ⟨l[i], hm _ (List.getElem_mem hlt), (eq26_iff _ _).2 rfl⟩
    rw [show k - a.length - 1 + a.length + 1 = k by omega, hany, Bool.false_or, if_pos rfl, w1, ih] at h1
    rw [cohousinglaw16_FactsOrder.l2, if_pos (by omega), if_pos (by omega), if_pos (by omega), rd_rec l i hlt]
    exact h1
theorem dayso_len (l : List Rec) (a1 : Int) (a2 : ByteArray) (hl : l.length ≤ 400) (q : Int → Bool) : (recF.wh (ownS l a1 a2) q).length ≤ 1000 := by
  have h1 := norm_len (partsS q (recF.cuts (ownS l a1 a2)))
  have h2 := parts_len q (recF.cuts (ownS l a1 a2))
  have h3 := cuts_len (ownS l a1 a2)
  rw [cuts_eq] at h3
  have h4 := own_len l a1 a2
  unfold Fld.wh
  omega
theorem FactsOrder : ∀ (l0 : List S26) (l1 : List Int) (a2 : Int) (a3 : ByteArray) (a4 : Int) (a5 : Int) (a6 : Int), l0.length * 64 ≤ 140737488351232 → (∀ x ∈ l0, (Lit.int .i64 x.f0).wf = true ∧ x.f1.size ≤ maxLen ∧ (Lit.int .i64 x.f2).wf = true ∧ (Lit.int .i64 x.f3.f0).wf = true ∧ (Lit.int .i64 x.f3.f1).wf = true ∧ (Lit.int .i64 x.f4).wf = true ∧ True) → l1.length ≤ maxLen → l1.length * 8 ≤ 140737488351232 → (∀ x ∈ l1, (Lit.int .i64 x).wf = true) → (Lit.int .i64 a2).wf = true → a3.size ≤ 140737488351232 → (Lit.int .i64 a4).wf = true → (Lit.int .i64 a5).wf = true → (Lit.int .i64 a6).wf = true → ∃ k, cohousinglaw16_FactsOrder.f k l0 l1 a2 a3 a4 a5 a6 = some true := by
  intro l0 l1 a2 a3 a4 a5 a6 hz hw
  intros
  refine ⟨20002, ?_⟩
  unfold cohousinglaw16_FactsOrder.f
  rw [head_up 20002 (by omega), Option.bind_some, if_pos rfl]
  by_cases hlen : (l0.length : Int) > 60
  · rw [if_pos hlen, cohousinglaw16_FactsOrder.j0, if_pos rfl]
  rw [if_neg hlen]
  by_cases hlen1 : (l1.length : Int) > 60
  · rw [if_pos hlen1, cohousinglaw16_FactsOrder.j0, if_pos rfl]
  rw [if_neg hlen1]
  have hl : l0.length ≤ 60 := by omega
  have hp : l1.length ≤ 60 := by omega
  have hV : facts_Valid.f l0 = some (validB l0) := by
    unfold facts_Valid.f
    rw [if_pos (by omega)]
  rw [hV, Option.bind_some, cohousinglaw16_FactsOrder.j0]
  cases hv : validB l0
  · rfl
  have hv2 := valid_mix l0 l1 hv hl hp
  have hml := (mix_mem l0 l1).2
  have hM : cohousinglaw16_mixed.f l0 l1 = some (mixL l0 l1) := by
    unfold cohousinglaw16_mixed.f
    rw [if_pos ⟨by omega, by omega⟩]
  have hol := ord_len l0
  rw [if_neg (by simp), hM, Option.bind_some, order_f l0 hv (by omega), order_f _ hv2 (by omega), ord_mix, Option.bind_some, Option.bind_some, if_pos rfl, if_pos rfl, sameR_self (ordR l0) (by omega) _ (by omega), Option.bind_some, cohousinglaw16_FactsOrder.j1, if_neg (by simp)]
  obtain ⟨o1, o2⟩ := ord_ok l0
  refine order_loop l0 (ordR l0) hl (by omega) o1 (fun x hx => (o2 x).1 hx) a2 a3 a4 a5 a6 (mixL l0 l1) (fun k hk => ?_) (ordR l0).length 0 20000 (by omega) (by omega)
  refine back_loop l0 (ordR l0) hl (by omega) (fun x hx => (o2 x).2 hx) a2 a3 a4 a5 a6 (mixL l0 l1) (fun k hk => ?_) l0.length 0 k (by omega) (by omega)
  obtain ⟨k, rfl⟩ : ∃ m, k = m + 1 := ⟨k - 1, by omega⟩
  have hab : ∀ ds, argB (mixL l0 l1) a2 a3 ds = argB l0 a2 a3 ds := by
    intro ds
    unfold argB
    rw [hv, hv2]
  have hs : ∀ q, cohousingref04_Same.f k (recF.wh (ownS l0 a2 a3) q) (recF.wh (ownS l0 a2 a3) q) = some true := fun q => by
    have := dayso_len l0 a2 a3 (by omega) q
    exact same_self _ (by omega) k (by omega)
  have hn : cohousingref04_Same.f k [] [] = some true := same_self _ (by simp) k (by simp; omega)
  rw [cohousinglaw16_FactsOrder.l2, if_neg (by omega), value_f l0 a2 a3 a5 a6 (by omega), value_f (mixL l0 l1) a2 a3 a5 a6 (by omega), hab, on_mix, Option.bind_some, Option.bind_some, if_pos rfl, if_pos rfl, if_pos (by simp), if_pos rfl]
  rw [days_f l0 a2 a3 a4 a6 (by omega), days_f (mixL l0 l1) a2 a3 a4 a6 (by omega), hab, wh_mix, dayP_mix, Option.bind_some, Option.bind_some]
  rw [differ_f l0 a2 a3 a5 a6 (by omega), differ_f (mixL l0 l1) a2 a3 a5 a6 (by omega), hab, wh_mix, difP_mix]
  cases ha : argB l0 a2 a3 [a6] <;> cases hb : argB l0 a2 a3 [a5, a6]
  all_goals
    simp only [if_true, if_false, Bool.false_eq_true, Option.bind_some, hs, hn]
end Go.Proofs.YthcjocojngochaaGreatDoor.Pure

