/- What the reference of the lexer computes, second part: values of numbers, tokens, the whole source. No Go and no memory in it. -/
import Derived.Test.YtmpjoaljincclaaDoorLexRef
namespace Go.Proofs.YtmpjoaljincclaaDoor.Pure
open Go.RowKit Go.Proofs.YtmpjoaljincclaaDoor.X Go.Proofs.YtmpjoaljincclaaDoorW.PrintWords

/-- How many digits a list begins with. -/
def dl (l : List UInt8) : Nat := (l.takeWhile isDigit).length
theorem dl_cons (c : UInt8) (l : List UInt8) : dl (c :: l) = if isDigit c then dl l + 1 else 0 := by
  unfold dl
  rw [List.takeWhile_cons]
  split <;> rfl
theorem dl_le (l : List UInt8) : dl l ≤ l.length := (List.takeWhile_sublist isDigit).length_le
theorem value_l0 (s : ByteArray) (hs : s.size ≤ 100000) : ∀ (n i k : Nat), s.size - i ≤ n → i ≤ s.size → cohousingref07_Value.l0 (k + dl (s.data.toList.drop i) + 1) s (i : Int) = cohousingref07_Value.j1 k s ((i + dl (s.data.toList.drop i) : Nat) : Int)
  | 0, i, k, h, hi => by
    have e : s.data.toList.drop i = [] := List.drop_of_length_le (by simp; omega)
    rw [e, cohousingref07_Value.l0, if_neg (by omega)]
    rfl
  | n + 1, i, k, h, hi => by
    by_cases hlt : i < s.size
    · rw [drop_cons s i hlt, dl_cons]
      have hw : wrap64 ((i : Int) + 1) = ((i + 1 : Nat) : Int) := by unfold wrap64; omega
      cases hd : isDigit s[i] with
      | true =>
        simp only [if_true]
        rw [show k + (dl (s.data.toList.drop (i + 1)) + 1) + 1 = (k + dl (s.data.toList.drop (i + 1)) + 1) + 1 by omega, cohousingref07_Value.l0, if_pos (by omega), if_pos (by omega), bt_nat s i hlt, ref_digit, hd, Option.bind_some, if_pos rfl, hw, value_l0 s hs n (i + 1) k (by omega) (by omega)]
        congr 1
        omega
      | false =>
        simp only [Bool.false_eq_true, if_false]
        rw [show k + 0 + 1 = k + 1 by omega, cohousingref07_Value.l0, if_pos (by omega), if_pos (by omega), bt_nat s i hlt, ref_digit, hd, Option.bind_some, if_neg (by decide)]
        rfl
    · have e : s.data.toList.drop i = [] := List.drop_of_length_le (by simp; omega)
      rw [e, cohousingref07_Value.l0, if_neg (by omega)]
      rfl
theorem step_num (b : UInt8) (n : Nat) (hb : isDigit b = true) (hn : n < 1000000000000) : wrap64 (wrap64 (wrap64 (10 * (n : Int)) + wrap64 (b.toNat : Int)) - 48) = ((10 * n + (b.toNat - 48) : Nat) : Int) := by
  unfold isDigit at hb
  simp only [Bool.and_eq_true, decide_eq_true_iff] at hb
  have w1 : wrap64 (10 * (n : Int)) = 10 * (n : Int) := wrap_ok (by omega) (by omega)
  have w2 : wrap64 (b.toNat : Int) = (b.toNat : Int) := wrap_ok (by omega) (by omega)
  have w3 : wrap64 (10 * (n : Int) + (b.toNat : Int)) = 10 * (n : Int) + (b.toNat : Int) := wrap_ok (by omega) (by omega)
  have w4 : wrap64 (10 * (n : Int) + (b.toNat : Int) - 48) = 10 * (n : Int) + (b.toNat : Int) - 48 := wrap_ok (by omega) (by omega)
  rw [w1, w2, w3, w4]
  omega
/-- The digits ahead of the point. -/
theorem value_pre (s : ByteArray) (W : Nat) (hW : W ≤ s.size) (hs : s.size ≤ 100000) (h9 : W ≤ 9) (hd : ∀ (j : Nat) (h : j < s.size), j < W → isDigit s[j] = true) : ∀ (m j n k : Nat), j + m = W → n < 10 ^ j →
    cohousingref07_Value.l1 (k + m) s (W : Int) (n : Int) 1 (j : Int) = cohousingref07_Value.l1 k s (W : Int) ((numOf ((s.data.toList.drop j).take m) n : Nat) : Int) 1 (W : Int)
  | 0, j, n, k, e, _ => by
    have : j = W := by omega
    subst this
    rfl
  | m + 1, j, n, k, e, hn => by
    have hlt : j < s.size := by omega
    have hw : wrap64 ((j : Int) + 1) = ((j + 1 : Nat) : Int) := by unfold wrap64; omega
    have hdj := hd j hlt (by omega)
    have h9' : (10 : Nat) ^ j ≤ 10 ^ 9 := Nat.pow_le_pow_right (by omega) (by omega)
    have e9 : (10 : Nat) ^ 9 = 1000000000 := by decide
    have hb := hdj
    unfold isDigit at hb
    simp only [Bool.and_eq_true, decide_eq_true_iff] at hb
    have hsx : (10 : Nat) ^ (j + 1) = 10 * 10 ^ j := by rw [Nat.pow_succ, Nat.mul_comm]
    rw [show k + (m + 1) = (k + m) + 1 by omega, cohousingref07_Value.l1, if_pos (by omega), if_neg (by omega), if_pos (by omega), bt_nat s j hlt, ref_digit, hdj, Option.bind_some, if_pos rfl, if_neg (by omega), step_num _ _ hdj (by omega), hw, value_pre s W hW hs h9 hd m (j + 1) _ k (by omega) (by omega), drop_cons s j hlt, List.take_succ_cons]
    rfl
/-- The digits behind the point. -/
theorem value_post (s : ByteArray) (W : Nat) (hs : s.size ≤ 100000) (h9 : W ≤ 9) (h3 : s.size ≤ W + 3) : ∀ (m j n p k : Nat), j + m = s.size → W < j → n < 10 ^ (j - 1) → p + m ≤ 2 → Big k →
    cohousingref07_Value.l1 (k + m + 1) s (W : Int) (n : Int) ((10 ^ p : Nat) : Int) (j : Int) = some (if (s.data.toList.drop j).all isDigit then ratMk (numOf (s.data.toList.drop j) n : Nat) ((10 ^ (p + m) : Nat) : Int) else (0, 0, 8))
  | 0, j, n, p, k, e, hW, hn, hp, hk => by
    have h12 : (10 : Nat) ^ (j - 1) ≤ 10 ^ 12 := Nat.pow_le_pow_right (by omega) (by omega)
    have e12 : (10 : Nat) ^ 12 = 1000000000000 := by decide
    have hp2 : (10 : Nat) ^ p ≤ 10 ^ 2 := Nat.pow_le_pow_right (by omega) (by omega)
    have e2 : (10 : Nat) ^ 2 = 100 := by decide
    rw [List.drop_of_length_le (by simp; omega), Nat.add_zero]
    generalize (10 : Nat) ^ p = P at *
    rw [show k + 0 + 1 = k + 1 by omega, cohousingref07_Value.l1, if_neg (by omega), ref_make k hk _ _ (by unfold inI64; omega) (by unfold inI64; omega), Option.bind_some]
    rfl
  | m + 1, j, n, p, k, e, hW, hn, hp, hk => by
    have hlt : j < s.size := by omega
    have hw : wrap64 ((j : Int) + 1) = ((j + 1 : Nat) : Int) := by unfold wrap64; omega
    have h12 : (10 : Nat) ^ (j - 1) ≤ 10 ^ 11 := Nat.pow_le_pow_right (by omega) (by omega)
    have e12 : (10 : Nat) ^ 11 = 100000000000 := by decide
    have hp2 : (10 : Nat) ^ p ≤ 10 ^ 2 := Nat.pow_le_pow_right (by omega) (by omega)
    have e2 : (10 : Nat) ^ 2 = 100 := by decide
    rw [show k + (m + 1) + 1 = (k + m + 1) + 1 by omega, cohousingref07_Value.l1, if_pos (by omega), if_neg (by omega), if_pos (by omega), bt_nat s j hlt, ref_digit, Option.bind_some, drop_cons s j hlt, List.all_cons]
    cases hdj : isDigit s[j] with
    | false => simp
    | true =>
      have hb := hdj
      unfold isDigit at hb
      simp only [Bool.and_eq_true, decide_eq_true_iff] at hb
      have hsx : (10 : Nat) ^ (j + 1 - 1) = 10 * 10 ^ (j - 1) := by rw [show j + 1 - 1 = (j - 1) + 1 by omega, Nat.pow_succ, Nat.mul_comm]
      have hpx : (10 : Nat) ^ (p + 1) = 10 * 10 ^ p := by rw [Nat.pow_succ, Nat.mul_comm]
      have wp : wrap64 (10 * ((10 ^ p : Nat) : Int)) = ((10 ^ (p + 1) : Nat) : Int) := by
        rw [wrap_ok (by omega) (by omega), hpx]
        omega
      rw [if_pos rfl, if_pos (by omega), step_num _ _ hdj (by omega), hw, wp, value_post s W hs h9 h3 m (j + 1) _ (p + 1) k (by omega) (by omega) (by omega) (by omega) hk, Bool.true_and, show p + 1 + m = p + (m + 1) by omega]
      rfl
theorem dl_all : ∀ l : List UInt8, ∀ b ∈ l.take (dl l), isDigit b = true
  | [], b, h => by simp at h
  | c :: l, b, h => by
    rw [dl_cons] at h
    cases hc : isDigit c with
    | false => rw [hc] at h; simp at h
    | true =>
      rw [hc] at h
      simp only [if_true, List.take_succ_cons, List.mem_cons] at h
      rcases h with rfl | h
      · exact hc
      · exact dl_all l b h
theorem dl_next : ∀ (l : List UInt8) (c : UInt8) (r : List UInt8), l.drop (dl l) = c :: r → isDigit c = false
  | [], c, r, h => by simp at h
  | b :: l, c, r, h => by
    rw [dl_cons] at h
    cases hb : isDigit b with
    | false =>
      rw [hb] at h
      simp only [Bool.false_eq_true, if_false, List.drop_zero, List.cons.injEq] at h
      rw [← h.1]
      exact hb
    | true =>
      rw [hb] at h
      simp only [if_true, List.drop_succ_cons] at h
      exact dl_next l c r h
/-- A byte that is no digit and no point is left by the cut. -/
theorem cut_keeps (s : ByteArray) (c : UInt8) (hc : c ∈ s.data.toList) (h46 : c ≠ 46) : c ∈ ((cutAt s 46).1 ++ (cutAt s 46).2.1).data.toList := by
  rw [ByteArray.data_append, Array.toList_append, List.mem_append]
  unfold cutAt
  split
  · rename_i h0
    have hlt := indexByte_lt s.data.toList 46
    have hat : ∀ (l : List UInt8), 0 ≤ Lib.indexByte l 46 → l.drop (Lib.indexByte l 46).toNat = 46 :: l.drop ((Lib.indexByte l 46).toNat + 1) := by
      intro l
      induction l with
      | nil => intro h; simp [Lib.indexByte] at h
      | cons b l ih =>
        intro h
        rw [Lib.indexByte] at h ⊢
        by_cases hb : (b == 46) = true
        · rw [if_pos hb]
          rw [beq_iff_eq] at hb
          subst hb
          rfl
        · rw [if_neg hb] at h ⊢
          by_cases h1 : (Lib.indexByte l 46 == -1) = true
          · rw [if_pos h1] at h
            omega
          · rw [if_neg h1] at h ⊢
            rw [beq_iff_eq] at h1
            have hge := Lib.indexByte_ge l 46
            have := ih (by omega)
            rw [show (Lib.indexByte l 46 + 1).toNat = (Lib.indexByte l 46).toNat + 1 by omega, List.drop_succ_cons, List.drop_succ_cons]
            exact this
    have h := hat s.data.toList h0
    have e := List.take_append_drop (Lib.indexByte s.data.toList 46).toNat s.data.toList
    rw [h] at e
    rw [← e, List.mem_append, List.mem_cons] at hc
    simp only [ByteArray.data_extract, Array.toList_extract, List.extract]
    rcases hc with hc | hc | hc
    · left
      simpa using hc
    · exact absurd hc h46
    · right
      rw [List.take_of_length_le (by rw [List.length_drop]; simp)]
      exact hc
  · left
    exact hc
theorem value_point (s : ByteArray) (W : Nat) (hs : s.size ≤ 8000) (h9 : W ≤ 9) (h2 : W + 2 ≤ s.size) (h3 : s.size ≤ W + 3) (hlt : W < s.size) (hp46 : s[W] = 46) (hdig : ∀ (j : Nat) (h : j < s.size), j < W → isDigit s[j] = true) (hD : ∀ b ∈ s.data.toList.take W, isDigit b = true) (k : Nat) (hk : Big k) :
    cohousingref07_Value.l1 (k + 20) s (W : Int) 0 1 0 = some (if (s.data.toList.drop (W + 1)).all isDigit then ratMk (numOf (s.data.toList.take W ++ s.data.toList.drop (W + 1)) 0 : Nat) (if s.size - (W + 1) = 0 then 1 else if s.size - (W + 1) = 1 then 10 else 100) else (0, 0, 8)) := by
  have hL : s.data.toList.length = s.size := by simp
  unfold Big at hk
  obtain ⟨m, hm⟩ : ∃ m, s.size = W + 1 + m := ⟨s.size - (W + 1), by omega⟩
  obtain ⟨k3, rfl⟩ : ∃ k3, k = k3 + m + 1 + W := ⟨k - m - 1 - W, by omega⟩
  have hwx : wrap64 ((W : Int) + 1) = ((W + 1 : Nat) : Int) := by unfold wrap64; omega
  have hpr := value_pre s W (by omega) (by omega) (by omega) hdig W 0 0 (k3 + m + 1 + 20) (by omega) (by decide)
  have hn := numOf_lt (s.data.toList.take W) 0 0 hD (by decide)
  rw [List.length_take, Nat.min_eq_left (by omega), Nat.zero_add] at hn
  rw [List.drop_zero] at hpr
  have hmid : cohousingref07_Value.l1 (k3 + m + 1 + 20) s (W : Int) (numOf (s.data.toList.take W) 0 : Nat) 1 (W : Int) = cohousingref07_Value.l1 (k3 + m + 20) s (W : Int) (numOf (s.data.toList.take W) 0 : Nat) 1 ((W + 1 : Nat) : Int) := by
    rw [show k3 + m + 1 + 20 = (k3 + m + 20) + 1 by omega, cohousingref07_Value.l1, if_pos (by omega), if_pos rfl, hwx]
  have hb : Big (k3 + 19) := by unfold Big; omega
  have hpo := value_post s W (by omega) (by omega) (by omega) m (W + 1) (numOf (s.data.toList.take W) 0) 0 (k3 + 19) (by omega) (by omega) (by rw [show W + 1 - 1 = W by omega]; exact hn) (by omega) hb
  rw [show k3 + 19 + m + 1 = k3 + m + 20 by omega] at hpo
  have hnum : numOf (s.data.toList.drop (W + 1)) (numOf (s.data.toList.take W) 0) = numOf (s.data.toList.take W ++ s.data.toList.drop (W + 1)) 0 := by
    unfold numOf
    rw [List.foldl_append]
  have hpw : (((10 : Nat) ^ (0 + m) : Nat) : Int) = if s.size - (W + 1) = 0 then 1 else if s.size - (W + 1) = 1 then 10 else 100 := by
    have hc3 : m = 1 ∨ m = 2 := by omega
    rcases hc3 with rfl | rfl
    · rw [if_neg (by omega), if_pos (by omega)]
      decide
    · rw [if_neg (by omega), if_neg (by omega)]
      decide
  rw [hnum, hpw] at hpo
  rw [show k3 + m + 1 + W + 20 = k3 + m + 1 + 20 + W by omega]
  exact hpr.trans (hmid.trans hpo)
theorem ref_value (s : ByteArray) (hs : s.size ≤ 8000) (h1 : 0 < s.size) (hf : isDigit s[0] = true) (k : Nat) (hk : 20000000000000100000 ≤ k) : cohousingref07_Value.f k s = some (valF s) := by
  have hD := dl_all s.data.toList
  have hle := dl_le s.data.toList
  have hnx := dl_next s.data.toList
  have hL : s.data.toList.length = s.size := by simp
  have hW1 : 1 ≤ dl s.data.toList := by
    have := drop_cons s 0 h1
    rw [List.drop_zero] at this
    rw [this, dl_cons, hf]
    simp
  have e0 := value_l0 s (by omega) s.size 0
  rw [List.drop_zero] at e0
  unfold cohousingref07_Value.f
  generalize hW : dl s.data.toList = W at *
  obtain ⟨k', rfl⟩ : ∃ k', k = (k' + 1 + 1 + 20) + W + 1 := ⟨k - W - 23, by omega⟩
  have hbig : Big k' := by unfold Big; omega
  have hbig2 : ∀ m, Big (k' + m) := fun m => by unfold Big; omega
  rw [show ((0 : Int)) = ((0 : Nat) : Int) from rfl, e0 _ (by omega) (by omega), Nat.zero_add]
  have hdig : ∀ (j : Nat) (h : j < s.size), j < W → isDigit s[j] = true := by
    intro j h hj
    refine hD _ ?_
    have : s.data.toList[j]'(by omega) = s[j] := rfl
    rw [← this, List.mem_take_iff_getElem]
    exact ⟨j, by omega, rfl⟩
  -- what the program returns
  have hbad : ∀ c ∈ s.data.toList, c ≠ 46 → isDigit c = false → valF s = (0, 0, 8) := by
    intro c hc h46 hcd
    have : ((cutAt s 46).1 ++ (cutAt s 46).2.1).data.toList.any (fun b => !isDigit b) = true := List.any_eq_true.mpr ⟨c, cut_keeps s c hc h46, by rw [hcd]; rfl⟩
    unfold valF
    rw [if_pos this]
  have ej2 : ∀ q, cohousingref07_Value.j2 (k' + 1 + 20) s (W : Int) q = if q = true then some (0, 0, 8) else cohousingref07_Value.l1 (k' + 20) s (W : Int) 0 1 0 := by
    intro q
    rw [show k' + 1 + 20 = (k' + 20) + 1 by omega, cohousingref07_Value.j2]
  rw [show k' + 1 + 1 + 20 = (k' + 1 + 20) + 1 by omega, cohousingref07_Value.j1, if_neg (by omega)]
  simp only [ej2, if_true]
  have w2 : wrap64 ((W : Int) + 2) = (W : Int) + 2 := wrap_ok (by omega) (by omega)
  have w3 : wrap64 ((W : Int) + 3) = (W : Int) + 3 := wrap_ok (by omega) (by omega)
  rw [w2, w3]
  by_cases hend : W = s.size
  · have hall : ∀ b ∈ s.data.toList, isDigit b = true := by
      intro b hb
      refine hD b ?_
      rw [List.take_of_length_le (by omega)]
      exact hb
    have hidx := idx_none s.data.toList hall
    have hc : cutAt s 46 = (s, ⟨#[]⟩, false) := by unfold cutAt; rw [if_neg (by rw [hidx]; decide)]
    have happ : (s ++ ⟨#[]⟩ : ByteArray) = s := by rw [← ba_inj, ba_append]; simp [ba_toList]
    have hany : s.data.toList.any (fun b => !isDigit b) = false := by
      rw [List.any_eq_false]
      intro b hb
      rw [hall b hb]
      decide
    have hv : valF s = if 9 < s.size then (0, 0, 8) else ratMk (numOf s.data.toList 0 : Nat) 1 := by
      unfold valF
      rw [hc]
      simp only
      rw [happ, hany, if_neg (by decide), if_pos (show ((⟨#[]⟩ : ByteArray).size = 0) from rfl)]
      simp only [Bool.false_eq_true, false_and, or_false]
    rw [hv]
    by_cases h9 : 9 < s.size
    · rw [if_pos (by omega), if_pos h9]
    · rw [if_neg (by omega), if_neg (by omega), if_neg h9, if_neg (by decide)]
      have hp := value_pre s W (by omega) (by omega) (by omega) hdig W 0 0 (k' + 20 - W) (by omega) (by decide)
      rw [show k' + 20 - W + W = k' + 20 by omega] at hp
      rw [show ((0 : Int)) = ((0 : Nat) : Int) from rfl, hp, List.drop_zero, List.take_of_length_le (by omega)]
      obtain ⟨k2, hk2⟩ : ∃ k2, k' + 20 - W = k2 + 1 := ⟨k' + 19 - W, by omega⟩
      have hb2 : Big k2 := by unfold Big at hbig ⊢; omega
      have hn := numOf_lt s.data.toList 0 0 hall (by decide)
      have h9' : (10 : Nat) ^ (0 + s.data.toList.length) ≤ 10 ^ 9 := Nat.pow_le_pow_right (by omega) (by omega)
      have e9 : (10 : Nat) ^ 9 = 1000000000 := by decide
      rw [hk2, cohousingref07_Value.l1, if_neg (by omega), ref_make k2 hb2 _ _ (by unfold inI64; omega) (by unfold inI64; omega), Option.bind_some]
  · have hlt : W < s.size := by omega
    have hdw : s.data.toList.drop W = s[W] :: s.data.toList.drop (W + 1) := drop_cons s W hlt
    have hnd : isDigit s[W] = false := hnx _ _ hdw
    have hmem : s[W] ∈ s.data.toList := by
      have : s.data.toList[W]'(by omega) = s[W] := rfl
      rw [← this]
      exact List.getElem_mem _
    have e46 : ((s[W].toNat : Int) = 46) ↔ s[W] = 46 := byte_eq s[W] 46 (by omega)
    by_cases hp46 : s[W] = 46
    · have htk : s.data.toList = s.data.toList.take W ++ 46 :: s.data.toList.drop (W + 1) := by
        rw [← hp46, ← hdw, List.take_append_drop]
      have hidx : Lib.indexByte s.data.toList 46 = W := by
        have := idx_at (s.data.toList.take W) (s.data.toList.drop (W + 1)) hD
        rw [← htk, List.length_take] at this
        rw [this]
        omega
      have hc : cutAt s 46 = (s.extract 0 W, s.extract (W + 1) s.size, true) := by
        unfold cutAt
        rw [hidx, if_pos (by omega), Int.toNat_natCast]
      have happ : (s.extract 0 W ++ s.extract (W + 1) s.size).data.toList = s.data.toList.take W ++ s.data.toList.drop (W + 1) := by
        rw [ByteArray.data_append, Array.toList_append, extract_drop, ByteArray.data_extract, Array.toList_extract]
        simp [List.extract]
      have hany : (s.data.toList.take W ++ s.data.toList.drop (W + 1)).any (fun b => !isDigit b) = !(s.data.toList.drop (W + 1)).all isDigit := by
        have : (s.data.toList.take W).any (fun b => !isDigit b) = false := by
          rw [List.any_eq_false]
          intro b hb
          rw [hD b hb]
          decide
        rw [List.any_append, this, Bool.false_or, List.not_all_eq_any_not]
      have hv : valF s = if (!(s.data.toList.drop (W + 1)).all isDigit) = true then (0, 0, 8) else if 9 < W ∨ (s.size < W + 2 ∨ W + 3 < s.size) then (0, 0, 8) else ratMk (numOf (s.data.toList.take W ++ s.data.toList.drop (W + 1)) 0 : Nat) (if s.size - (W + 1) = 0 then 1 else if s.size - (W + 1) = 1 then 10 else 100) := by
        unfold valF
        rw [hc]
        simp only
        rw [happ, hany]
        have ea : (s.extract 0 W).size = W := by simp; omega
        have eb : (s.extract (W + 1) s.size).size = s.size - (W + 1) := by simp
        rw [ea, eb]
        congr 1
        have hq : (s.size - (W + 1) < 1 ∨ 2 < s.size - (W + 1)) ↔ (s.size < W + 2 ∨ W + 3 < s.size) := by omega
        simp only [true_and, hq]
      rw [hv]
      by_cases h9 : 9 < W
      · rw [if_pos (by omega), if_pos (Or.inl h9)]
        split <;> rfl
      · rw [if_neg (by omega), if_pos (by omega), if_pos (by omega), bt_nat s W hlt, if_pos (e46.mpr hp46)]
        by_cases h2 : s.size < W + 2
        · rw [if_pos (by omega), if_pos (Or.inr (Or.inl h2))]
          split <;> rfl
        · rw [if_neg (by omega)]
          by_cases h3 : W + 3 < s.size
          · rw [decide_eq_true (by omega), if_pos rfl, if_pos (Or.inr (Or.inr h3))]
            split <;> rfl
          · rw [decide_eq_false (by omega), if_neg (by decide)]
            rw [value_point s W (by omega) (by omega) (by omega) (by omega) hlt hp46 hdig hD k' hbig]
            cases (s.data.toList.drop (W + 1)).all isDigit with
            | false => rfl
            | true =>
              rw [if_pos rfl, if_neg (show ¬ ((!true) = true) by decide), if_neg (show ¬(9 < W ∨ (s.size < W + 2 ∨ W + 3 < s.size)) by omega)]
    · rw [hbad _ hmem hp46 hnd]
      by_cases h9 : (W : Int) > 9
      · rw [if_pos h9]
      · rw [if_neg h9, if_pos (by omega), if_pos (by omega), bt_nat s W hlt, if_neg (fun h => hp46 (e46.mp h))]
end Go.Proofs.YtmpjoaljincclaaDoor.Pure

