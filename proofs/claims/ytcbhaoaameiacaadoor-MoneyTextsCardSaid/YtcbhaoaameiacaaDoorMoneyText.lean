/- Amounts as strings: what Text writes and what Parse reads, as lists of bytes. No Go and no memory in it. -/
import Derived.Test.YtcbhaoaameiacaaDoorMoneyLaws
import Derived.Test.YtcbhaoaameiacaaDoorXx8
import Derived.Test.YtcbhaoaameiacaaDoorBytes
namespace Go.Proofs.YtcbhaoaameiacaaDoor.Pure
open Go.RowKit Go.Proofs.YtcbhaoaameiacaaDoor.X Go.Proofs.YtcbhaoaameiacaaDoorW.PrintWords

/-- A digit's byte. -/
def IsDig (c : UInt8) : Prop := 48 ≤ c.toNat ∧ c.toNat ≤ 57
def dg (d : Nat) : UInt8 := UInt8.ofNat (48 + d)
theorem dg_nat (d : Nat) (h : d < 10) : (dg d).toNat = 48 + d := dig_nat d h
theorem dg_of {c : UInt8} (h : IsDig c) : dg (c.toNat - 48) = c := by
  apply UInt8.toNat_inj.mp
  unfold IsDig at h
  rw [dg_nat _ (by omega)]
  omega
theorem starts_iff (s : ByteArray) (c : UInt8) : startsB s c = true ↔ ∃ r, s.toList = c :: r := by
  unfold startsB
  rw [Bool.and_eq_true, decide_eq_true_iff, beq_iff_eq, ba_extract, ba_size]
  cases s.toList with
  | nil => simp
  | cons x r =>
    simp only [List.length_cons, List.take_succ_cons, List.take_zero, List.drop_zero]
    constructor
    · rintro ⟨_, h⟩
      simp only [List.cons.injEq, and_true] at h
      exact ⟨r, by rw [h]⟩
    · rintro ⟨r', h⟩
      simp only [List.cons.injEq] at h
      rw [h.1]
      exact ⟨by omega, rfl⟩
theorem trim_yes {s : ByteArray} {c : UInt8} {r : List UInt8} (h : s.toList = c :: r) : (trimB s c).toList = r := by
  unfold trimB
  rw [if_pos ((starts_iff s c).mpr ⟨r, h⟩), ba_extract, ba_size, List.take_length, h]
  rfl
theorem trim_no {s : ByteArray} {c : UInt8} (h : startsB s c = false) : trimB s c = s := by
  unfold trimB
  rw [h]
  rfl
theorem index_spec : ∀ (l : List UInt8) (c : UInt8), 0 ≤ Lib.indexByte l c → l = l.take (Lib.indexByte l c).toNat ++ c :: l.drop ((Lib.indexByte l c).toNat + 1)
  | [], c, h => by simp [Lib.indexByte] at h
  | b :: l, c, h => by
    simp only [Lib.indexByte] at h ⊢
    split
    · rename_i hb
      simp_all
    · rename_i hb
      rw [if_neg hb] at h
      split
      · rename_i h2
        rw [if_pos h2] at h
        omega
      · rename_i h2
        rw [if_neg h2] at h
        have h0 : 0 ≤ Lib.indexByte l c := by
          have h3 := Lib.indexByte_ge l c
          have h4 : ¬ Lib.indexByte l c = -1 := fun e => h2 (beq_iff_eq.mpr e)
          omega
        have ih := index_spec l c h0
        have e : (Lib.indexByte l c + 1).toNat = (Lib.indexByte l c).toNat + 1 := by omega
        rw [e, List.take_succ_cons, List.drop_succ_cons, List.cons_append, ← ih]
theorem cut_yes {t a b : ByteArray} {c : UInt8} (h : cutAt t c = (a, b, true)) : t.toList = a.toList ++ c :: b.toList := by
  unfold cutAt at h
  split at h
  · rename_i h0
    simp only [Prod.mk.injEq, and_true] at h
    obtain ⟨rfl, rfl⟩ := h
    have := index_spec t.data.toList c h0
    rw [ba_extract, ba_extract, ba_size, List.take_length, ba_toList, List.drop_zero]
    exact this
  · simp at h
theorem cut_at {t : ByteArray} {c : UInt8} {x y : List UInt8} (h : t.toList = x ++ c :: y) (hx : ∀ b ∈ x, b ≠ c) : ∃ a b, cutAt t c = (a, b, true) ∧ a.toList = x ∧ b.toList = y := by
  have hidx : Lib.indexByte t.data.toList c = x.length := by
    rw [← ba_toList, h]
    exact index_at _ _ _ hx
  refine ⟨t.extract 0 x.length, t.extract (x.length + 1) t.size, ?_, ?_, ?_⟩
  · unfold cutAt
    rw [hidx, if_pos (by omega)]
    rfl
  · rw [ba_extract, h]
    simp
  · rw [ba_extract, ba_size, List.take_length, h, show x ++ c :: y = (x ++ [c]) ++ y by simp, List.drop_append_of_le_length (by simp)]
    simp
theorem idx_digits (s : ByteArray) : ∀ (f pos : Nat), s.size ≤ pos + f → (Lib.idxFuncFrom noDig true s f pos = -1 ↔ ∀ i, pos ≤ i → (h : i < s.size) → IsDig s[i])
  | 0, pos, h => by
    constructor
    · intro _ i h1 h2
      omega
    · intro _
      rfl
  | f + 1, pos, h => by
    rw [Lib.idxFuncFrom]
    by_cases hp : pos < s.size
    · rw [if_pos hp]
      by_cases ha : (s[pos]'hp).toNat < 128
      · rw [decode_ascii s pos hp ha]
        simp only
        by_cases hd : noDig (s[pos]'hp).toNat = true
        · rw [if_pos hd]
          constructor
          · intro h1
            omega
          · intro h1
            have h2 := h1 pos (Nat.le_refl _) hp
            unfold noDig at hd
            unfold IsDig at h2
            simp at hd
            omega
        · rw [if_neg hd, idx_digits s f (pos + 1) (by omega)]
          constructor
          · intro h1 i h2 h3
            rcases Nat.eq_or_lt_of_le h2 with h4 | h4
            · subst h4
              unfold noDig at hd
              unfold IsDig
              simp at hd
              omega
            · exact h1 i h4 h3
          · intro h1 i h2 h3
            exact h1 i (by omega) h3
      · have h2 := decode_high s pos hp (by omega)
        have hd : noDig (Utf8.decode s pos).1 = true := by
          unfold noDig
          simp
          omega
        rw [if_pos hd]
        constructor
        · intro h1
          omega
        · intro h1
          have h2 := h1 pos (Nat.le_refl _) hp
          unfold IsDig at h2
          omega
    · rw [if_neg hp]
      constructor
      · intro _ i h1 h2
        omega
      · intro _
        rfl
theorem bad_iff (s : ByteArray) : badDig s = false ↔ ∀ c ∈ s.toList, IsDig c := by
  have h := idx_digits s s.size 0 (by omega)
  have hr := Lib.idxFunc_range noDig true s
  unfold badDig
  rw [decide_eq_false_iff_not]
  have e : Lib.idxFunc noDig true s = Lib.idxFuncFrom noDig true s s.size 0 := rfl
  rw [e] at hr ⊢
  have h1 : ¬ 0 ≤ Lib.idxFuncFrom noDig true s s.size 0 ↔ Lib.idxFuncFrom noDig true s s.size 0 = -1 := by omega
  rw [h1, h, ba_toList]
  constructor
  · intro h2 c hc
    obtain ⟨i, hi, rfl⟩ := List.getElem_of_mem hc
    exact h2 i (Nat.zero_le _) (by simpa using hi)
  · intro h2 i _ hi
    exact h2 _ (by
      have : i < s.data.toList.length := by simpa using hi
      exact List.getElem_mem this)
end Go.Proofs.YtcbhaoaameiacaaDoor.Pure

