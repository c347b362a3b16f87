/- What the reference of rational computes, part 3: text and numbers in digits. -/
import Derived.Test.YteifflpjhlgpjaaDoorXx7
import Derived.Test.YteifflpjhlgpjaaDoorRefRat2
namespace Go.Proofs.YteifflpjhlgpjaaDoor.Pure
open Go.RowKit Go.Proofs.YteifflpjhlgpjaaDoor.X Go.Proofs.YteifflpjhlgpjaaDoorW.PrintWords Go.Proofs.YteifflpjhlgpjaaDoorW.PrintMore

theorem dec_length : ∀ (m v : Nat), v < 10 ^ (m + 1) → (Lib.decDigits v).length ≤ m + 1
  | 0, v, h => by
    rw [dec_step, if_neg (by omega)]
    simp
  | m + 1, v, h => by
    rw [dec_step, List.length_append]
    split
    · have := dec_length m (v / 10) (by rw [Nat.pow_succ] at h; omega)
      simp only [List.length_cons, List.length_nil]
      omega
    · simp
theorem itoa_nat (v : Nat) : Lib.itoa (v : Int) = Lib.decDigits v := by
  unfold Lib.itoa
  rw [if_neg (by omega)]
  rfl
theorem itoa_abs (n : Int) (h : n < 0) : Lib.itoa n = 45 :: Lib.decDigits n.natAbs := by
  unfold Lib.itoa
  rw [if_pos h]
theorem ref_text (k : Nat) (hk : Big k) (n d : Int) (hn : inI64 n) (hd : inI64 d) : cohousingref01_Text.f k n d = rational_Text.f n d := by
  rw [text_eq n d hn hd]
  unfold cohousingref01_Text.f
  rw [ref_valid k hk n d hn hd, Option.bind_some]
  by_cases hv : vld n d = true
  · rw [if_pos hv, if_pos hv]
    obtain ⟨q, hq, rfl, rfl⟩ := of_vld hv
    have b := hq.bnd
    have hdn : (q.den : Int) = ((q.den : Nat) : Int) := rfl
    have em : mx q.num (wrap64 (-q.num)) = ((q.num.natAbs : Nat) : Int) := by
      rw [wrap_id (x := -q.num) (by omega) (by omega)]
      unfold mx
      split <;> omega
    rw [em, ref_digits k hk q.num.natAbs (by omega), ref_digits k hk q.den (by omega)]
    simp only [Option.bind_some]
    have z1 : (ByteArray.mk (Lib.decDigits q.num.natAbs).toArray).size ≤ 10 := by
      rw [ba_size, ba_mk]
      exact dec_length 9 _ (by omega)
    have z2 : (ByteArray.mk (Lib.decDigits q.den).toArray).size ≤ 10 := by
      rw [ba_size, ba_mk]
      exact dec_length 9 _ (by omega)
    have ed : (Lib.itoa (q.den : Int)) = Lib.decDigits q.den := itoa_nat _
    unfold textOf
    rw [ed]
    by_cases h0 : q.num < 0
    · rw [if_pos h0, if_pos (by omega), itoa_abs _ h0]
      have e45 : (ByteArray.mk (45 :: Lib.decDigits q.num.natAbs).toArray) = (⟨#[45]⟩ : ByteArray) ++ ⟨(Lib.decDigits q.num.natAbs).toArray⟩ := by
        rw [← ba_inj, ba_append, ba_mk (45 :: _), ba_mk (Lib.decDigits _), ba_toList]
        rfl
      rw [e45]
      by_cases h1 : (q.den : Int) > 1
      · rw [if_pos h1, if_pos h1, if_pos (by omega), if_pos (by omega), ByteArray.append_assoc]
      · rw [if_neg h1, if_neg h1]
    · rw [if_neg h0]
      have en : Lib.itoa q.num = Lib.decDigits q.num.natAbs := by
        rw [← itoa_nat]
        congr 1
        omega
      rw [en]
      by_cases h1 : (q.den : Int) > 1
      · rw [if_pos h1, if_pos h1, if_pos (by omega), if_pos (by omega), ByteArray.append_assoc]
      · rw [if_neg h1, if_neg h1]
  · rw [if_neg hv, if_neg hv]

def val (x : Nat) : List UInt8 → Nat
  | [] => x
  | c :: r => val (10 * x + (c.toNat - 48)) r
def digs : List UInt8 → Bool
  | [] => true
  | c :: r => (decide (48 ≤ c.toNat) && decide (c.toNat ≤ 57)) && digs r
theorem drop_cons {s : ByteArray} {i : Nat} {c : UInt8} {r : List UInt8} (h : s.toList.drop i = c :: r) : i < s.size ∧ bt s (i : Int) = (c.toNat : Int) ∧ s.toList.drop (i + 1) = r := by
  rw [ba_toList] at h
  have hi : i < s.size := by
    rcases Nat.lt_or_ge i s.data.toList.length with hl | hl
    · simpa using hl
    · rw [List.drop_eq_nil_of_le hl] at h
      cases h
  have hl : i < s.data.toList.length := by simpa using hi
  rw [List.drop_eq_getElem_cons hl] at h
  injection h with h1 h2
  refine ⟨hi, ?_, by rw [ba_toList]; exact h2⟩
  have hb := bt_at s (i : Int) (by simpa using hi)
  rw [← hb, ← h1]
  rfl
theorem drop_nil {s : ByteArray} {i : Nat} (h : s.toList.drop i = []) : s.size ≤ i := by
  rw [ba_size]
  exact List.drop_eq_nil_iff.mp h
theorem number_l0 (B : Nat) (hB : Big B) : ∀ (l : List UInt8) (k : Nat) (s : ByteArray) (i x : Nat), s.toList.drop i = l → i ≤ s.size → s.size ≤ 10 → x < 10 ^ i → B + l.length < k →
    cohousingref01_Number.l0 k s (x : Int) (i : Int) = some (if digs l = true then (((val x l : Nat) : Int), (Lib.decDigits (val x l) == s.toList)) else (0, false))
  | [], 0, _, _, _, _, _, _, _, h => absurd h (Nat.not_lt_zero _)
  | _ :: _, 0, _, _, _, _, _, _, _, h => absurd h (Nat.not_lt_zero _)
  | [], k + 1, s, i, x, hl, hi, hs, hx, hk => by
    unfold cohousingref01_Number.l0
    have := drop_nil hl
    have hp : 10 ^ i ≤ 10 ^ 10 := Nat.pow_le_pow_right (by omega) (by omega)
    rw [if_neg (by omega), ref_digits k (by unfold Big at hB ⊢; rw [List.length_nil] at hk; omega) x (by omega), Option.bind_some]
    rw [ba_mk (Lib.decDigits x)]
    rfl
  | c :: r, k + 1, s, i, x, hl, hi, hs, hx, hk => by
    obtain ⟨h1, h2, h3⟩ := drop_cons hl
    unfold cohousingref01_Number.l0
    have hp : 10 ^ i ≤ 10 ^ 10 := Nat.pow_le_pow_right (by omega) (by omega)
    rw [if_pos (by omega), if_pos (by omega), h2]
    by_cases c1 : c.toNat < 48
    · rw [if_pos (by omega)]
      have hdg : digs (c :: r) = false := by
        unfold digs
        rw [decide_eq_false (show ¬ 48 ≤ c.toNat by omega)]
        simp
      rw [hdg]
      rfl
    · rw [if_neg (by omega)]
      by_cases c2 : 57 < c.toNat
      · rw [if_pos (by omega)]
        have hdg : digs (c :: r) = false := by
          unfold digs
          rw [decide_eq_false (show ¬ c.toNat ≤ 57 by omega)]
          simp
        rw [hdg]
        rfl
      · rw [if_neg (by omega)]
        have w1 : wrap64 ((wrap64 ((wrap64 (10 * (x : Int))) + (wrap64 (c.toNat : Int)))) - 48) = ((10 * x + (c.toNat - 48) : Nat) : Int) := by
          rw [wrap_id (x := 10 * (x : Int)) (by omega) (by omega), wrap_id (x := (c.toNat : Int)) (by omega) (by omega), wrap_id (x := 10 * (x : Int) + c.toNat) (by omega) (by omega), wrap_id (by omega) (by omega)]
          omega
        have w2 : wrap64 ((i : Int) + 1) = ((i + 1 : Nat) : Int) := wrap_id (by omega) (by omega)
        rw [w1, w2, number_l0 B hB r k s (i + 1) _ h3 h1 hs (by rw [Nat.pow_succ]; omega) (by rw [List.length_cons] at hk; omega)]
        have hdg : digs (c :: r) = digs r := by
          show ((decide (48 ≤ c.toNat) && decide (c.toNat ≤ 57)) && digs r) = digs r
          rw [decide_eq_true (show 48 ≤ c.toNat by omega), decide_eq_true (show c.toNat ≤ 57 by omega)]
          rfl
        rw [hdg]
        rfl
def numR (s : ByteArray) : Int × Bool := if 1 ≤ s.size ∧ s.size ≤ 10 ∧ digs s.toList = true then (((val 0 s.toList : Nat) : Int), (Lib.decDigits (val 0 s.toList) == s.toList)) else (0, false)
theorem ref_number (k : Nat) (hk : 20000000000000000100 ≤ k) (s : ByteArray) : cohousingref01_Number.f k s = some (numR s) := by
  unfold cohousingref01_Number.f numR
  obtain ⟨k', rfl⟩ : ∃ k', k = k' + 1 := ⟨k - 1, by omega⟩
  by_cases h1 : (s.size : Int) < 1
  · rw [if_pos h1, if_neg (by omega)]
    simp [cohousingref01_Number.j0]
  · rw [if_neg h1]
    by_cases h2 : (s.size : Int) > 10
    · rw [decide_eq_true h2, if_neg (by omega)]
      simp [cohousingref01_Number.j0]
    · rw [decide_eq_false h2]
      simp only [cohousingref01_Number.j0, Bool.false_eq_true, if_false]
      have hz := ba_size s
      have := number_l0 20000000000000000000 (Nat.le_refl _) s.toList k' s 0 0 rfl (by omega) (by omega) (by decide) (by omega)
      rw [show ((0 : Nat) : Int) = 0 from rfl] at this
      rw [this]
      by_cases h3 : digs s.toList = true
      · rw [if_pos h3, if_pos ⟨by omega, by omega, h3⟩]
      · rw [if_neg h3, if_neg (fun h => h3 h.2.2)]
theorem numR_sound {s : ByteArray} {v : Int} (h : numR s = (v, true)) : 0 ≤ v ∧ s.toList = Lib.decDigits v.toNat := by
  unfold numR at h
  split at h
  · injection h with h1 h2
    subst h1
    exact ⟨by omega, (beq_iff_eq.mp h2).symm⟩
  · cases h
theorem val_append (x : Nat) (l : List UInt8) (c : UInt8) : val x (l ++ [c]) = 10 * val x l + (c.toNat - 48) := by
  induction l generalizing x with
  | nil => rfl
  | cons a r ih => exact ih _
theorem digs_append (l : List UInt8) (c : UInt8) : digs (l ++ [c]) = (digs l && (decide (48 ≤ c.toNat) && decide (c.toNat ≤ 57))) := by
  induction l with
  | nil => simp [digs]
  | cons a r ih => simp only [List.cons_append, digs, ih, Bool.and_assoc]
theorem dec_val : ∀ (v : Nat), val 0 (Lib.decDigits v) = v ∧ digs (Lib.decDigits v) = true := by
  intro v
  induction v using Nat.strongRecOn with
  | _ v ih =>
    rw [dec_step]
    have hd := dig_nat (v % 10) (by omega)
    have k1 : 48 ≤ 48 + v % 10 := by omega
    have k2 : 48 + v % 10 ≤ 57 := by omega
    by_cases h : v > 9
    · have h8 := ih (v / 10) (by omega)
      rw [if_pos h, val_append, digs_append, h8.1, h8.2, hd, decide_eq_true k1, decide_eq_true k2]
      exact ⟨by omega, rfl⟩
    · rw [if_neg h, val_append, digs_append, hd, decide_eq_true k1, decide_eq_true k2]
      refine ⟨?_, rfl⟩
      show 10 * 0 + (48 + v % 10 - 48) = v
      omega
theorem numR_dec (s : ByteArray) (v : Nat) (hv : v ≤ 1000000000) (h : s.toList = Lib.decDigits v) : numR s = ((v : Int), true) := by
  unfold numR
  have h1 := dec_length 9 v (by omega)
  have h2 : 0 < (Lib.decDigits v).length := List.length_pos_iff.mpr (dec_ne v)
  have hz := ba_size s
  rw [h] at hz
  rw [h, if_pos ⟨by omega, by omega, (dec_val v).2⟩, (dec_val v).1]
  simp
end Go.Proofs.YteifflpjhlgpjaaDoor.Pure

