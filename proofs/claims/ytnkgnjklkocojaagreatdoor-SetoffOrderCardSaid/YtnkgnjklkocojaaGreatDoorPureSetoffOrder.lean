/- The law SetoffOrder as a statement over numbers and lists: every input answers true. No Go and no memory in it. -/
import Derived.Test.YtnkgnjklkocojaaGreatDoorSoCall
import Derived.Test.YtnkgnjklkocojaaGreatDoorSoClosed
import Derived.Test.YtnkgnjklkocojaaGreatDoorXx18
namespace Go.Proofs.YtnkgnjklkocojaaGreatDoor.Pure
open Go.RowKit Go.Proofs.YtnkgnjklkocojaaGreatDoor.X Go.Proofs.YtnkgnjklkocojaaGreatDoorW.PrintWords
set_option linter.unusedVariables false
theorem before_f (x y : S39) : cohousingref34_Before.f x.f0 x.f1 x.f2 x.f3 y.f0 y.f1 y.f2 y.f3 = some (decide (Bef x y)) := by
  unfold cohousingref34_Before.f
  have e : ∀ (p : Prop) [Decidable p], (Bef x y ↔ p) → some (decide p) = some (decide (Bef x y)) := fun p _ h => by rw [decide_eq_decide.mpr h]
  split
  · split
    · exact e _ (by unfold Bef; omega)
    · exact e _ (by unfold Bef; omega)
  · exact e _ (by unfold Bef; omega)
theorem filt_le (p q : S39 → Bool) : ∀ (l : List S39), (∀ x ∈ l, 0 ≤ x.f3) → (∀ x, p x = true → q x = true) → sumO (l.filter p) ≤ sumO (l.filter q)
  | [], _, _ => Int.le_refl _
  | a :: l, h0, h => by
    have ih := filt_le p q l (fun x hx => h0 x (List.mem_cons_of_mem _ hx)) h
    have ha := h0 a List.mem_cons_self
    cases e1 : p a with
    | true =>
      rw [List.filter_cons_of_pos e1, List.filter_cons_of_pos (h a e1), sumO_cons, sumO_cons]
      omega
    | false =>
      rw [List.filter_cons_of_neg (by simp [e1])]
      cases e2 : q a with
      | true => rw [List.filter_cons_of_pos e2, sumO_cons]; omega
      | false => rw [List.filter_cons_of_neg (by simp [e2])]; exact ih
theorem filt_lt (p q : S39 → Bool) (x : S39) (hp : p x = false) (hq : q x = true) : ∀ (l : List S39), (∀ x ∈ l, 0 ≤ x.f3) → (∀ x, p x = true → q x = true) → x ∈ l → sumO (l.filter p) + x.f3 ≤ sumO (l.filter q)
  | [], _, _, hx => by simp at hx
  | a :: l, h0, h, hx => by
    have hl : ∀ x ∈ l, 0 ≤ x.f3 := fun x hx => h0 x (List.mem_cons_of_mem _ hx)
    have ha := h0 a List.mem_cons_self
    rcases List.mem_cons.mp hx with rfl | hx
    · rw [List.filter_cons_of_neg (by simp [hp]), List.filter_cons_of_pos hq, sumO_cons]
      have := filt_le p q l hl h
      omega
    · have ih := filt_lt p q x hp hq l hl h hx
      cases e1 : p a with
      | true =>
        rw [List.filter_cons_of_pos e1, List.filter_cons_of_pos (h a e1), sumO_cons, sumO_cons]
        omega
      | false =>
        rw [List.filter_cons_of_neg (by simp [e1])]
        cases e2 : q a with
        | true => rw [List.filter_cons_of_pos e2, sumO_cons]; omega
        | false => rw [List.filter_cons_of_neg (by simp [e2])]; exact ih
theorem open_low {l : List S39} (h : Debts l) : ∀ x ∈ l, 0 ≤ x.f3 := fun x hx => ((dOk_iff x).mp (h.ok x hx)).2.2.2.1
/-- Of two debts, the later one is reduced only if nothing is open of the other one. -/
theorem later_whole {l : List S39} (h : Debts l) (c : Int) (x y : S39) (hx : x ∈ l) (hy : y ∈ l) (hb : Bef x y) (ho : (paidOne l c x).f3 > 0) : paidOne l c y = y := by
  have h1 := filt_lt (fun z => decide (Bef z x)) (fun z => decide (Bef z y)) x (by simpa using bef_self x) (by simpa using hb) l (open_low h) (fun z hz => by
    have hz' : Bef z x := by simpa using hz
    simpa using bef_trans hz' hb) hx
  have e1 : sumO (l.filter (fun z => decide (Bef z x))) = ahead l x := rfl
  have e2 : sumO (l.filter (fun z => decide (Bef z y))) = ahead l y := rfl
  rw [e1, e2] at h1
  have ux := open_low h x hx
  have uy := open_low h y hy
  have ho' : x.f3 - pt x.f3 (pos (c - ahead l x)) > 0 := ho
  have hz : pos (c - ahead l y) = 0 := by
    unfold pos pt at *
    split at ho' <;> split at ho' <;> split <;> omega
  unfold paidOne
  rw [hz]
  have : pt y.f3 0 = 0 := by unfold pt; split <;> omega
  rw [this, Int.sub_zero]
  rfl
/-! ### debts in another order -/
def turnIx (n s : Nat) : List Nat := (List.range n).map (fun i => (i + s) % n)
theorem turn_perm (n s : Nat) (hn : 0 < n) : (turnIx n s).Perm (List.range n) := by
  have hs := Nat.mod_lt s hn
  have e : turnIx n s = (List.range n).drop (s % n) ++ (List.range n).take (s % n) := by
    refine List.ext_getElem (by simp [turnIx]; omega) (fun i h1 h2 => ?_)
    have hi : i < n := by simpa [turnIx] using h1
    have e1 : (turnIx n s)[i] = (i + s) % n := by simp [turnIx]
    have e2 : (i + s) % n = (i + s % n) % n := by rw [Nat.add_mod_mod]
    rw [e1, e2, List.getElem_append]
    split
    · rename_i hlt
      have : i + s % n < n := by simp at hlt; omega
      rw [Nat.mod_eq_of_lt this, List.getElem_drop, List.getElem_range, Nat.add_comm]
    · rename_i hge
      have hge' : n ≤ i + s % n := by simp at hge; omega
      rw [Nat.mod_eq_sub_mod hge', Nat.mod_eq_of_lt (by omega), List.getElem_take, List.getElem_range]
      simp only [List.length_drop, List.length_range]
      omega
  rw [e]
  exact List.perm_append_comm.trans (List.Perm.of_eq (List.take_append_drop _ _))
def turnF (l : List S39) (s : Nat) : List S39 := (at_ l (turnIx l.length s)).reverse
theorem turnF_perm (l : List S39) (s : Nat) : (turnF l s).Perm l := by
  unfold turnF
  by_cases hn : 0 < l.length
  · refine (List.reverse_perm _).trans ?_
    have h := (turn_perm l.length s hn).map (fun i => l.getD i z39)
    have e := at_range l
    unfold at_ at e ⊢
    rw [e] at h
    exact h
  · have : l = [] := List.length_eq_zero_iff.mp (by omega)
    subst this
    exact List.Perm.refl _
theorem and_low (a : Int) : 0 ≤ Go.bits .and .i64 a 1023 ∧ Go.bits .and .i64 a 1023 ≤ 1023 := by
  have e : Go.bits .and .i64 a 1023 = IntKind.i64.wrap ((BitVec.ofInt 64 a &&& BitVec.ofInt 64 1023).toNat : Int) := rfl
  have h : (BitVec.ofInt 64 a &&& BitVec.ofInt 64 1023).toNat ≤ 1023 := by
    rw [BitVec.toNat_and]
    exact Nat.le_trans Nat.and_le_right (by decide)
  rw [e, IntKind.wrap_i64]
  omega
theorem turn_loop (l : List S39) (a : Int) (s : Nat) (hs : Go.bits .and .i64 a 1023 = (s : Int)) (hs2 : s ≤ 1023) (hl : l.length ≤ 1000) : ∀ (i k : Nat) (out : List S39), i ≤ l.length → i < k → out.length + i = l.length →
    cohousinglaw34_turned.l0 k l a out ((i : Int) - 1) = some (out ++ (at_ l ((List.range i).map (fun j => (j + s) % l.length))).reverse)
  | 0, k, out, h1, h2, h3 => by
    obtain ⟨k, rfl⟩ : ∃ n, k = n + 1 := ⟨k - 1, by omega⟩
    rw [cohousinglaw34_turned.l0, if_neg (by omega)]
    simp [at_]
  | i + 1, k, out, h1, h2, h3 => by
    obtain ⟨k, rfl⟩ : ∃ n, k = n + 1 := ⟨k - 1, by omega⟩
    have e0 : (((i + 1 : Nat) : Int) - 1) = (i : Int) := by omega
    have w : wrap64 ((i : Int) + (s : Int)) = ((i + s : Nat) : Int) := wrapIn _ (by omega)
    have hpos : 0 < l.length := by omega
    have hm := Nat.mod_lt (i + s) hpos
    have et : Int.tmod ((i + s : Nat) : Int) (l.length : Int) = (((i + s) % l.length : Nat) : Int) := by rw [Int.ofNat_tmod]
    rw [e0, cohousinglaw34_turned.l0, if_pos (by omega), if_neg (by omega), hs, w, et, if_pos (by omega), if_pos (by omega), if_pos (by omega), rdNat]
    have w1 : wrap64 ((i : Int) - 1) = (i : Int) - 1 := wrapIn _ (by omega)
    rw [w1, turn_loop l a s hs hs2 hl i k _ (by omega) (by omega) (by simp; omega)]
    rw [List.range_succ, List.map_append, List.append_assoc]
    have e2 : ∀ (u v : List Nat), at_ l (u ++ v) = at_ l u ++ at_ l v := fun u v => List.map_append
    rw [e2, List.reverse_append]
    rfl
theorem turned_f (l : List S39) (a : Int) (hl : l.length ≤ 1000) (k : Nat) (hk : l.length < k) : ∃ s, cohousinglaw34_turned.f k l a = some (turnF l s) := by
  obtain ⟨b1, b2⟩ := and_low a
  obtain ⟨s, hs⟩ := Int.eq_ofNat_of_zero_le b1
  refine ⟨s, ?_⟩
  unfold cohousinglaw34_turned.f
  rw [wrapIn _ (by omega), turn_loop l a s hs (by omega) hl l.length k [] (Nat.le_refl _) hk (by simp)]
  rfl
/-! ### a debt by its name -/
theorem find_loop (l : List S39) (x : S39) (hnd : (l.map (·.f0)).Nodup) (hl : l.length ≤ 1000) (hx : x ∈ l) : ∀ (j i k : Nat), i + j = l.length → j < k → (∀ n, n < i → l.getD n z39 ≠ x) → cohousinglaw34_find.l0 k x.f0 l (l.length : Int) (i : Int) = some (x.f0, x.f1, x.f2, x.f3) := by
  intro j
  obtain ⟨p, hp, ep⟩ := List.mem_iff_getElem.mp hx
  have gp : l.getD p z39 = x := by rw [List.getD_eq_getElem?_getD, List.getElem?_eq_getElem hp, Option.getD_some, ep]
  induction j with
  | zero =>
    intro i k hi hk hb
    exact absurd gp (hb p (by omega))
  | succ j ih =>
    intro i k hi hk hb
    obtain ⟨k, rfl⟩ : ∃ n, k = n + 1 := ⟨k - 1, by omega⟩
    rw [cohousinglaw34_find.l0, if_pos (by omega), if_pos (by omega), if_pos (by omega), rdNat]
    by_cases he : (l.getD i z39).f0 = x.f0
    · have hip : i = p := by
        refine Classical.byContradiction (fun hne => ?_)
        exact ids_ne l hnd i p (by omega) hp hne (by rw [he, gp])
      rw [if_pos he, hip, gp]
    · rw [if_neg he, wrapUp i (by omega)]
      refine ih (i + 1) k (by omega) (by omega) (fun n hn => ?_)
      by_cases hni : n = i
      · subst hni
        intro e
        exact he (by rw [e])
      · exact hb n (by omega)
theorem find_f (l : List S39) (x : S39) (hnd : (l.map (·.f0)).Nodup) (hl : l.length ≤ 1000) (hx : x ∈ l) (k : Nat) (hk : l.length < k) : cohousinglaw34_find.f k l x.f0 = some (x.f0, x.f1, x.f2, x.f3) := by
  unfold cohousinglaw34_find.f
  exact find_loop l x hnd hl hx l.length 0 k (by omega) hk (by simp)
theorem getD_in (l : List S39) (i : Nat) (h : i < l.length) : l.getD i z39 ∈ l := by
  rw [List.getD_eq_getElem?_getD, List.getElem?_eq_getElem h, Option.getD_some]
  exact List.getElem_mem _
theorem ord_last (o m : List S39) (hnd : (o.map (·.f0)).Nodup) (hl : o.length ≤ 1000) (hm : m.length ≤ 1000) (hin : ∀ x ∈ m, x ∈ o) : ∀ (j i k : Nat), i + j = m.length → j + 1001 < k → cohousinglaw34_SetoffOrder.l2 k true o m (m.length : Int) (i : Int) = some true := by
  intro j
  induction j with
  | zero =>
    intro i k hi hk
    obtain ⟨k, rfl⟩ : ∃ n, k = n + 1 := ⟨k - 1, by omega⟩
    rw [cohousinglaw34_SetoffOrder.l2, if_neg (by omega), if_pos rfl]
  | succ j ih =>
    intro i k hi hk
    obtain ⟨k, rfl⟩ : ∃ n, k = n + 1 := ⟨k - 1, by omega⟩
    rw [cohousinglaw34_SetoffOrder.l2, if_pos (by omega), if_pos (by omega), if_pos (by omega), if_pos rfl, rdNat, find_f o _ hnd hl (hin _ (getD_in m i (by omega))) k (by omega), Option.bind_some]
    rw [if_pos (by simp), wrapUp i (by omega)]
    exact ih (i + 1) k (by omega) (by omega)
theorem ord_tail (l : List S39) (h : Debts l) (c a2 : Int) (h0 : 0 ≤ c) (h1 : c ≤ 1000000000) (k : Nat) (hk : 2000 < k) : ∀ (m : List S39) (left : Int), m = l.map (paidOne l c) → left = (payF l c).2 →
    ((cohousinglaw34_turned.f k l a2).bind fun t298 => ((setoff_Pay.f t298 c).bind fun bt301 => (if bt301.2.2 = 0 then (if bt301.2.1 = left then (cohousinglaw34_SetoffOrder.j2 k true m bt301.1 ((bt301.1.length : Int) != (l.length : Int))) else (cohousinglaw34_SetoffOrder.j2 k true m bt301.1 true)) else (cohousinglaw34_SetoffOrder.j2 k true m bt301.1 true)))) = some true := by
  intro m left em el
  obtain ⟨s, es⟩ := turned_f l a2 (by have := h.len; omega) k (by have := h.len; omega)
  obtain ⟨hm, ep⟩ := pay_perm (turnF_perm l s) h c h0 h1
  rw [es, Option.bind_some, pay_f hm c h0 h1, Option.bind_some, ep]
  dsimp only
  have hlen : (turnF l s).length = l.length := (turnF_perm l s).length_eq
  have hb : ((((turnF l s).map (paidOne l c)).length : Int) != (l.length : Int)) = false := by simp [hlen]
  rw [if_pos rfl, if_pos el.symm, hb]
  obtain ⟨k, rfl⟩ : ∃ n, k = n + 1 := ⟨k - 1, by omega⟩
  rw [cohousinglaw34_SetoffOrder.j2, if_neg (by simp)]
  have hids : ((turnF l s).map (paidOne l c)).map (·.f0) = (turnF l s).map (·.f0) := by
    rw [List.map_map]
    exact List.map_congr_left (fun x _ => rfl)
  have hml : m.length = l.length := by rw [em, List.length_map]
  have := h.len
  refine ord_last _ m (by rw [hids]; exact hm.nd) (by rw [List.length_map]; omega) (by omega) (fun x hx => ?_) m.length 0 k (by omega) (by omega)
  rw [em] at hx
  obtain ⟨y, hy, rfl⟩ := List.mem_map.mp hx
  exact List.mem_map_of_mem ((turnF_perm l s).mem_iff.mpr hy)
theorem ord_loop (l : List S39) (h : Debts l) (c a2 : Int) (h0 : 0 ≤ c) (h1 : c ≤ 1000000000) (m : List S39) (left : Int) (em : m = l.map (paidOne l c)) (el : left = (payF l c).2) :
    ∀ (u i k : Nat), i + u = l.length → u * 102 + 3000 < k → cohousinglaw34_SetoffOrder.l0 k l c a2 true m left (l.length : Int) (i : Int) = some true := by
  have hn := h.len
  have hml : m.length = l.length := by rw [em, List.length_map]
  have gm : ∀ i, i < l.length → m.getD i z39 = paidOne l c (l.getD i z39) := fun i hi => by rw [em]; simp [List.getD_eq_getElem?_getD, hi]
  intro u
  induction u with
  | zero =>
    intro i k hi hk
    obtain ⟨k, rfl⟩ : ∃ n, k = n + 1 := ⟨k - 1, by omega⟩
    rw [cohousinglaw34_SetoffOrder.l0, if_neg (by omega)]
    exact ord_tail l h c a2 h0 h1 k (by omega) m left em el
  | succ u ih =>
    intro i k hi hk
    obtain ⟨k, rfl⟩ : ∃ n, k = n + 1 := ⟨k - 1, by omega⟩
    rw [cohousinglaw34_SetoffOrder.l0, if_pos (by omega)]
    obtain ⟨M, hM⟩ : ∃ M : Nat, M = u * 102 + 3000 := ⟨_, rfl⟩
    have inner : ∀ (v j k : Nat), j + v = l.length → v + M + 1 < k → cohousinglaw34_SetoffOrder.l1 k l c a2 true m left (i : Int) (l.length : Int) (i : Int) (l.length : Int) (j : Int) = some true := by
      intro v
      induction v with
      | zero =>
        intro j k hj hk
        obtain ⟨k, rfl⟩ : ∃ n, k = n + 1 := ⟨k - 1, by omega⟩
        rw [cohousinglaw34_SetoffOrder.l1, if_neg (by omega), wrapUp i (by omega)]
        exact ih (i + 1) k (by omega) (by omega)
      | succ v ih2 =>
        intro j k hj hk
        obtain ⟨k, rfl⟩ : ∃ n, k = n + 1 := ⟨k - 1, by omega⟩
        have g := ih2 (j + 1) k (by omega) (by omega)
        rw [cohousinglaw34_SetoffOrder.l1, if_pos (by omega), if_pos (by omega), if_pos (by omega), if_pos (by omega), if_pos (by omega), rdNat, rdNat, before_f, Option.bind_some, wrapUp j (by omega), rdNat, rdNat, gm j (by omega), gm i (by omega)]
        by_cases hb : Bef (l.getD j z39) (l.getD i z39)
        · rw [decide_eq_true hb, if_pos rfl, if_pos (by omega)]
          by_cases ho : (paidOne l c (l.getD j z39)).f3 > 0
          · rw [if_pos ho, if_pos rfl, if_pos (by omega), if_pos, g]
            rw [later_whole h c _ _ (getD_in l j (by omega)) (getD_in l i (by omega)) hb ho]
            simp
          · rw [if_neg ho, g]
        · rw [decide_eq_false hb, if_neg (by decide), g]
    exact inner l.length 0 k (by omega) (by omega)
theorem SetoffOrder : ∀ (l0 : List S39) (a1 : Int) (a2 : Int), l0.length * 32 ≤ 140737488351232 → (∀ x ∈ l0, (Lit.int .i64 x.f0).wf = true ∧ (Lit.int .i64 x.f1).wf = true ∧ (Lit.int .i64 x.f2).wf = true ∧ (Lit.int .i64 x.f3).wf = true) → (Lit.int .i64 a1).wf = true → (Lit.int .i64 a2).wf = true → ∃ k, cohousinglaw34_SetoffOrder.f k l0 a1 a2 = some true := by
  intro l0 a1 a2 y0 hw0 w1 w2
  obtain ⟨K, hK⟩ : ∃ K : Nat, 20000 ≤ K := ⟨_, Nat.le_refl _⟩
  refine ⟨20 + K, ?_⟩
  unfold cohousinglaw34_SetoffOrder.f
  rw [head_true, Option.bind_some, if_pos rfl]
  have hin := so_in l0 y0 hw0
  by_cases hc : Debts l0 ∧ 0 ≤ a1 ∧ a1 ≤ 1000000000
  · obtain ⟨hd, h0, h1⟩ := hc
    have off := pay_off l0 a1 hd h0 h1
    have ec := pay_closed l0 hd a1 h0 h1
    rw [pay_f hd a1 h0 h1, Option.bind_some]
    dsimp only
    rw [if_pos rfl, if_pos (by rw [off.len])]
    have := hd.len
    exact ord_loop l0 hd a1 a2 h0 h1 _ _ (by rw [ec]) rfl l0.length 0 _ (by omega) (by omega)
  · have e : setoff_Pay.f l0 a1 = some ([], 0, 1) := by
      unfold setoff_Pay.f
      rw [if_pos hin, if_neg (fun q => hc ⟨(valid_iff l0).mp ⟨q.1, q.2.1⟩, q.2.2⟩)]
    rw [e, Option.bind_some]
    dsimp only
    rw [if_neg (by decide)]
end Go.Proofs.YtnkgnjklkocojaaGreatDoor.Pure

