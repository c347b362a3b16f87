/- Strings as lists of bytes, the decimal numeral and its reading: plain lemmas, no program in them. -/
import Derived.Lib.AtoiAllCases
import Derived.Lib.ItoaMem
import Derived.Lib.ItoaLen
import Derived.Lib.Bytealg
namespace Go.Proofs.YthcjocojngochaaGreatDoor.X
open Go

theorem ba_loop (bs : ByteArray) (d : Nat) : ∀ (i : Nat) (r : List UInt8), i ≤ bs.size → bs.size - i = d → ByteArray.toList.loop bs i r = r.reverse ++ bs.data.toList.drop i := by
  induction d with
  | zero =>
    intro i r hi hd
    rw [ByteArray.toList.loop, if_neg (by omega), List.drop_of_length_le (by simp; omega), List.append_nil]
  | succ d ih =>
    intro i r hi hd
    rw [ByteArray.toList.loop, if_pos (by omega), ih (i + 1) _ (by omega) (by omega)]
    have hlt : i < bs.data.toList.length := by simp; omega
    rw [List.drop_eq_getElem_cons hlt]
    have e : bs.get! i = bs.data.toList[i] := by
      cases bs with
      | mk a =>
        show a[i]! = _
        have : i < a.size := by simpa using hlt
        simp [this]
    rw [e]
    simp
theorem ba_toList (bs : ByteArray) : bs.toList = bs.data.toList := by
  unfold ByteArray.toList
  rw [ba_loop bs bs.size 0 [] (by omega) (by omega)]
  simp
theorem ba_inj {a b : ByteArray} : a.toList = b.toList ↔ a = b := by
  rw [ba_toList, ba_toList]
  constructor
  · intro h
    apply ByteArray.ext
    exact Array.toList_inj.mp h
  · rintro rfl; rfl
theorem ba_mk (l : List UInt8) : (ByteArray.mk l.toArray).toList = l := by rw [ba_toList]
theorem ba_eta (b : ByteArray) : (ByteArray.mk b.toList.toArray) = b := by rw [← ba_inj, ba_mk]
theorem ba_append (a b : ByteArray) : (a ++ b).toList = a.toList ++ b.toList := by simp [ba_toList, ByteArray.data_append]
theorem ba_extract (a : ByteArray) (i j : Nat) : (a.extract i j).toList = (a.toList.take j).drop i := by
  simp only [ba_toList, ByteArray.data_extract, Array.toList_extract, List.extract]
  rw [List.drop_take]
theorem ba_size (a : ByteArray) : a.size = a.toList.length := by rw [ba_toList]; simp

/-! The decimal numeral. -/
theorem dig_nat (d : Nat) (h : d < 10) : (UInt8.ofNat (48 + d)).toNat = 48 + d := by
  rw [UInt8.toNat_ofNat']; omega
theorem dec_digits (u : Nat) : ∀ c ∈ Lib.decDigits u, 48 ≤ c.toNat ∧ c.toNat ≤ 57 := by
  induction u using Nat.strongRecOn with
  | _ u ih =>
    intro c hc
    rw [Lib.decDigits] at hc
    split at hc
    · rename_i h
      rw [List.mem_singleton] at hc
      rw [hc, dig_nat u h]
      omega
    · rename_i h
      rw [List.mem_append, List.mem_singleton] at hc
      rcases hc with hc | hc
      · exact ih (u / 10) (by omega) c hc
      · rw [hc, dig_nat _ (by omega)]
        omega
theorem dec_ne (u : Nat) : Lib.decDigits u ≠ [] := by
  rw [Lib.decDigits]
  split <;> simp
theorem parse_snoc : ∀ (l : List UInt8) (acc v : Nat) (c : UInt8), Lib.parseUint10 acc l = .ok v → 48 ≤ c.toNat → c.toNat ≤ 57 → v * 10 + (c.toNat - 48) < 18446744073709551616 → v < 1844674407370955162 →
    Lib.parseUint10 acc (l ++ [c]) = .ok (v * 10 + (c.toNat - 48))
  | [], acc, v, c, h, h1, h2, h3, h4 => by
    simp only [Lib.parseUint10] at h
    injection h with h
    subst h
    simp only [List.nil_append, Lib.parseUint10]
    rw [if_pos ⟨h1, h2⟩, if_neg (by omega), if_neg (by omega)]
  | b :: l, acc, v, c, h, h1, h2, h3, h4 => by
    simp only [Lib.parseUint10] at h
    simp only [List.cons_append, Lib.parseUint10]
    split at h
    · rename_i hb
      rw [if_pos hb]
      split at h
      · cases h
      · rename_i hc
        rw [if_neg hc]
        split at h
        · cases h
        · rename_i hd
          rw [if_neg hd]
          exact parse_snoc l _ v c h h1 h2 h3 h4
    · cases h
theorem parse_dec (u : Nat) (hu : u < 10000000000000000000) : Lib.parseUint10 0 (Lib.decDigits u) = .ok u := by
  induction u using Nat.strongRecOn with
  | _ u ih =>
    rw [Lib.decDigits]
    split
    · rename_i h
      simp only [Lib.parseUint10]
      rw [dig_nat u h, if_pos (by omega), if_neg (by omega), if_neg (by omega)]
      congr 1
      omega
    · rename_i h
      have e := parse_snoc _ 0 _ (UInt8.ofNat (48 + u % 10)) (ih (u / 10) (by omega) (by omega)) (by rw [dig_nat _ (by omega)]; omega) (by rw [dig_nat _ (by omega)]; omega)
        (by rw [dig_nat _ (by omega)]; omega) (by omega)
      rw [e, dig_nat _ (by omega)]
      congr 1
      omega
theorem parseMag_dec (u : Nat) (hu : u < 10000000000000000000) : Lib.parseMag (Lib.decDigits u) = .ok u := by
  unfold Lib.parseMag
  rw [if_neg (dec_ne u), parse_dec u hu]
theorem atoi_itoa (n : Int) (h0 : -1000000000000000000 ≤ n) (h1 : n ≤ 1000000000000000000) : Lib.atoiAll (Lib.itoa n) = .ok n := by
  unfold Lib.itoa
  split
  · rename_i hn
    rw [Lib.atoiAll_minus, parseMag_dec _ (by omega)]
    simp only [Lib.signed]
    split
    · omega
    · congr 1; omega
  · rename_i hn
    have hd := dec_digits n.toNat
    have hm := parseMag_dec n.toNat (by omega)
    cases hc : Lib.decDigits n.toNat with
    | nil => exact absurd hc (dec_ne _)
    | cons c r =>
      rw [hc] at hm hd
      have := hd c List.mem_cons_self
      rw [Lib.atoiAll_plain c r (by omega) (by omega), hm]
      simp only [Lib.signless]
      split
      · omega
      · congr 1; omega
theorem itoa_chars (n : Int) : ∀ c ∈ Lib.itoa n, c.toNat = 45 ∨ (48 ≤ c.toNat ∧ c.toNat ≤ 57) := by
  unfold Lib.itoa
  intro c hc
  split at hc
  · rcases List.mem_cons.mp hc with rfl | hc
    · exact .inl rfl
    · exact .inr (dec_digits _ c hc)
  · exact .inr (dec_digits _ c hc)
theorem index_absent : ∀ (l : List UInt8) (c : UInt8), (∀ b ∈ l, b ≠ c) → Lib.indexByte l c = -1
  | [], _, _ => rfl
  | b :: l, c, h => by
    simp only [Lib.indexByte]
    have h1 : b ≠ c := h b List.mem_cons_self
    have h2 := index_absent l c (fun x hx => h x (List.mem_cons_of_mem _ hx))
    rw [h2]
    simp [h1]
theorem index_at : ∀ (l : List UInt8) (c : UInt8) (r : List UInt8), (∀ b ∈ l, b ≠ c) → Lib.indexByte (l ++ c :: r) c = l.length
  | [], c, r, _ => by simp [Lib.indexByte]
  | b :: l, c, r, h => by
    simp only [List.cons_append, Lib.indexByte]
    have h1 : b ≠ c := h b List.mem_cons_self
    have h2 := index_at l c r (fun x hx => h x (List.mem_cons_of_mem _ hx))
    rw [h2]
    simp [h1]
end Go.Proofs.YthcjocojngochaaGreatDoor.X

