/- Amounts as strings: what Text writes is read by Parse, and what Parse reads is what Text writes. No Go and no memory in it. -/
import Derived.Test.YtcbhaoaameiacaaDoorMoneyText
namespace Go.Proofs.YtcbhaoaameiacaaDoor.Pure
open Go.RowKit Go.Proofs.YtcbhaoaameiacaaDoor.X Go.Proofs.YtcbhaoaameiacaaDoorW.PrintWords

theorem two_digits (r : Nat) (h : r < 100) : Lib.decDigits (100 + r) = [49, dg (r / 10), dg (r % 10)] := by
  have := (by decide +kernel : ∀ p : Fin 100, Lib.decDigits (100 + p.val) = [49, UInt8.ofNat (48 + p.val / 10), UInt8.ofNat (48 + p.val % 10)]) ⟨r, h⟩
  exact this
theorem head_app (i x : List UInt8) (h : i ≠ []) : (i ++ x).head? = i.head? := by
  cases i with
  | nil => exact absurd rfl h
  | cons a r => rfl
def textL (c : Int) : List UInt8 := (if c < 0 then [45] else []) ++ (Lib.decDigits (c.natAbs / 100) ++ 46 :: [dg (c.natAbs % 100 / 10), dg (c.natAbs % 100 % 10)])
theorem itoa_eq (n : Int) (h : inI64 n) : strconv_Itoa.f n = some ⟨(Lib.itoa n).toArray⟩ := by
  unfold strconv_Itoa.f
  rw [if_pos h]
theorem itoa_size (n : Int) (h : inI64 n) : (ByteArray.mk (Lib.itoa n).toArray).size ≤ 21 := by
  rw [ba_size, ba_mk]
  exact Lib.itoa_length_le n h.1 h.2
/-- The parts of what Text writes. -/
theorem text_parts (m : Nat) (hm : m ≤ 1000000000) : ∃ a b : ByteArray, strconv_Itoa.f (wrap64 (100 + (Int.tmod (m : Int) 100))) = some b ∧ strconv_Itoa.f (wrap64 (Int.tdiv (m : Int) 100)) = some a ∧ a.size ≤ 21 ∧ b.size ≤ 21 ∧ 1 ≤ (b.size : Int) ∧ a.toList = Lib.decDigits (m / 100) ∧ (b.extract 1 b.size).toList = [dg (m % 100 / 10), dg (m % 100 % 10)] := by
  have e1 : Int.tmod (m : Int) 100 = ((m % 100 : Nat) : Int) := (Int.ofNat_tmod m 100).symm
  have e2 : Int.tdiv (m : Int) 100 = ((m / 100 : Nat) : Int) := (Int.ofNat_tdiv m 100).symm
  have w1 : wrap64 (100 + ((m % 100 : Nat) : Int)) = ((100 + m % 100 : Nat) : Int) := by unfold wrap64; omega
  have w2 : wrap64 (((m / 100 : Nat) : Int)) = ((m / 100 : Nat) : Int) := by unfold wrap64; omega
  have i1 : inI64 ((100 + m % 100 : Nat) : Int) := by unfold inI64; omega
  have i2 : inI64 ((m / 100 : Nat) : Int) := by unfold inI64; omega
  rw [e1, e2, w1, w2, itoa_eq _ i1, itoa_eq _ i2]
  have hb : (ByteArray.mk (Lib.itoa ((100 + m % 100 : Nat) : Int)).toArray).toList = [49, dg (m % 100 / 10), dg (m % 100 % 10)] := by
    rw [ba_mk, Lib.itoa_nonneg, two_digits _ (by omega)]
  refine ⟨_, _, rfl, rfl, itoa_size _ i2, itoa_size _ i1, ?_, ?_, ?_⟩
  · rw [ba_size, hb]
    show (1 : Int) ≤ ((3 : Nat) : Int)
    omega
  · rw [ba_mk, Lib.itoa_nonneg]
  · rw [ba_extract, ba_size, List.take_length, hb]
    rfl
theorem text_f (c : Int) (h : Amt c) : ∃ t, money_Text.f c = some (t, 0) ∧ t.toList = textL c := by
  unfold money_Text.f
  rw [amt_f, Option.bind_some, decide_eq_true h, if_pos rfl]
  have h' := h
  unfold Amt at h'
  have e46 : (ByteArray.mk #[46]).toList = [46] := by rw [ba_toList]
  have e45 : (ByteArray.mk #[45]).toList = [45] := by rw [ba_toList]
  have e0 : (ByteArray.mk #[]).toList = [] := by rw [ba_toList]
  obtain ⟨a, b, h1, h2, h3, h4, h5, h6, h7⟩ := text_parts c.natAbs (by omega)
  by_cases hc : c < 0
  · have w : wrap64 (-c) = (c.natAbs : Int) := by unfold wrap64; omega
    rw [if_pos hc, w, h1, Option.bind_some, h2, Option.bind_some, if_pos (by omega), if_pos (by omega), if_pos h5, if_pos (by omega)]
    refine ⟨_, rfl, ?_⟩
    unfold textL
    rw [if_pos hc, ba_append, ba_append, ba_append, e45, e46, h6, h7]
    simp
  · have w : c = (c.natAbs : Int) := by omega
    rw [if_neg hc]
    rw [← w] at h1 h2
    rw [h1, Option.bind_some, h2, Option.bind_some, if_pos (by omega), if_pos (by omega), if_pos h5, if_pos (by omega)]
    refine ⟨_, rfl, ?_⟩
    unfold textL
    rw [if_neg hc, ba_append, ba_append, ba_append, e0, e46, h6, h7]
    simp
theorem text_no (c : Int) (h : ¬ Amt c) : money_Text.f c = some (⟨#[]⟩, 1) := by
  unfold money_Text.f
  rw [amt_f, Option.bind_some, decide_eq_false h, if_neg (by decide)]
/-- A numeral without zeros in front is the one of its number. -/
theorem numeral : ∀ (n : Nat) (a : List UInt8), a.length = n + 1 → n < 9 → (∀ c ∈ a, IsDig c) → (a.head? = some 48 → a = [48]) → ∃ u, Lib.parseUint10 0 a = .ok u ∧ Lib.decDigits u = a ∧ u < 10 ^ (n + 1)
  | 0, a, hl, _, hd, _ => by
    obtain ⟨c, rfl⟩ : ∃ c, a = [c] := by
      cases a with
      | nil => simp at hl
      | cons c r => cases r with
        | nil => exact ⟨c, rfl⟩
        | cons d r => simp at hl
    have h := hd c (by simp)
    have h' := h
    unfold IsDig at h'
    refine ⟨c.toNat - 48, ?_, ?_, by omega⟩
    · rw [Lib.parseUint10, if_pos h', if_neg (by omega), if_neg (by omega), Lib.parseUint10]
      congr 1
      omega
    · rw [Lib.decDigits_one (by omega)]
      exact congrArg (fun x => [x]) (dg_of h)
  | n + 1, a, hl, hn, hd, h0 => by
    have hne : a ≠ [] := by
      intro e
      rw [e] at hl
      simp at hl
    obtain ⟨i, c, rfl⟩ : ∃ i c, a = i ++ [c] := ⟨a.dropLast, a.getLast hne, (List.dropLast_concat_getLast hne).symm⟩
    have hil : i.length = n + 1 := by
      rw [List.length_append, List.length_singleton] at hl
      omega
    have hi0 : i ≠ [] := by
      intro e
      rw [e] at hil
      simp at hil
    have hh : i.head? ≠ some 48 := by
      intro e
      have : (i ++ [c]).head? = some 48 := by rw [head_app i [c] hi0]; exact e
      have h2 := h0 this
      have h3 : (i ++ [c]).length = 1 := by rw [h2]; rfl
      rw [List.length_append, List.length_singleton, hil] at h3
      omega
    obtain ⟨u, h1, h2, h3⟩ := numeral n i hil (by omega) (fun x hx => hd x (List.mem_append_left _ hx)) (fun e => absurd e hh)
    have hc := hd c (by simp)
    have hc' := hc
    unfold IsDig at hc'
    have hb : 10 ^ (n + 1) ≤ 10 ^ 9 := Nat.pow_le_pow_right (by decide) (by omega)
    have hb9 : (10 : Nat) ^ 9 = 1000000000 := by decide
    have hu0 : u ≠ 0 := by
      rintro rfl
      rw [Lib.decDigits_one (by decide)] at h2
      apply hh
      rw [← h2]
      rfl
    refine ⟨u * 10 + (c.toNat - 48), ?_, ?_, ?_⟩
    · exact parse_snoc i 0 u c h1 hc'.1 hc'.2 (by omega) (by omega)
    · rw [Lib.decDigits, dif_neg (by omega)]
      have e1 : (u * 10 + (c.toNat - 48)) / 10 = u := by omega
      have e2 : (u * 10 + (c.toNat - 48)) % 10 = c.toNat - 48 := by omega
      rw [e1, e2, h2]
      exact congrArg (fun x => i ++ [x]) (dg_of hc)
    · rw [Nat.pow_succ]
      omega
theorem atoi_digits {l : List UInt8} {u : Nat} (hl : l ≠ []) (hd : ∀ c ∈ l, IsDig c) (h : Lib.parseUint10 0 l = .ok u) (hu : u < 9223372036854775808) : Lib.atoiAll l = .ok (u : Int) := by
  cases l with
  | nil => exact absurd rfl hl
  | cons c r =>
    have hc := hd c (by simp)
    unfold IsDig at hc
    rw [Lib.atoiAll_plain c r (by omega) (by omega)]
    have hm : Lib.parseMag (c :: r) = .ok u := by
      unfold Lib.parseMag
      rw [if_neg (by simp)]
      exact h
    rw [hm]
    unfold Lib.signless
    simp only
    rw [if_neg (by omega)]
end Go.Proofs.YtcbhaoaameiacaaDoor.Pure

