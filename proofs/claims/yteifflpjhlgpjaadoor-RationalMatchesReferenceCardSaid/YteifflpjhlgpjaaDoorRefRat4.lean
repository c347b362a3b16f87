/- What the reference of rational computes, part 4: parsing. -/
import Derived.Test.YteifflpjhlgpjaaDoorXx8
import Derived.Test.YteifflpjhlgpjaaDoorRefRat3
namespace Go.Proofs.YteifflpjhlgpjaaDoor.Pure
open Go.RowKit Go.Proofs.YteifflpjhlgpjaaDoor.X Go.Proofs.YteifflpjhlgpjaaDoorW.PrintWords Go.Proofs.YteifflpjhlgpjaaDoorW.PrintMore

theorem val_bound : ∀ (l : List UInt8) (x : Nat), digs l = true → val x l + 1 ≤ (x + 1) * 10 ^ l.length
  | [], x, _ => by
    rw [List.length_nil, Nat.pow_zero, Nat.mul_one]
    exact Nat.le_refl _
  | c :: r, x, h => by
    have h2 : (decide (48 ≤ c.toNat) && decide (c.toNat ≤ 57)) = true ∧ digs r = true := by
      have h' : ((decide (48 ≤ c.toNat) && decide (c.toNat ≤ 57)) && digs r) = true := h
      rwa [Bool.and_eq_true] at h'
    have h3 := h2.1
    rw [Bool.and_eq_true, decide_eq_true_iff, decide_eq_true_iff] at h3
    have ih := val_bound r (10 * x + (c.toNat - 48)) h2.2
    rw [List.length_cons, Nat.pow_succ, Nat.mul_comm (10 ^ r.length) 10, ← Nat.mul_assoc]
    refine Nat.le_trans ih (Nat.mul_le_mul_right _ ?_)
    omega
theorem numR_bound (s : ByteArray) : 0 ≤ (numR s).1 ∧ (numR s).1 < 10000000000 := by
  unfold numR
  split
  · rename_i h
    have hb := val_bound s.toList 0 h.2.2
    have hz := ba_size s
    have hp : 10 ^ s.toList.length ≤ 10 ^ 10 := Nat.pow_le_pow_right (by omega) (by omega)
    simp only
    omega
  · simp
def idx : List UInt8 → Nat
  | [] => 0
  | c :: r => if c = 47 then 0 else idx r + 1
theorem parse_l0 (m : Bool) (s : ByteArray) (hs : s.size ≤ 140737488351232) : ∀ (l : List UInt8) (k i : Nat), s.toList.drop i = l → i ≤ s.size → l.length < k →
    cohousingref01_Parse.l0 k s m (i : Int) = cohousingref01_Parse.j3 (k - 1 - idx l) s m ((i + idx l : Nat) : Int)
  | [], 0, _, _, _, h => absurd h (Nat.not_lt_zero _)
  | _ :: _, 0, _, _, _, h => absurd h (Nat.not_lt_zero _)
  | [], k + 1, i, hl, hi, hk => by
    have := drop_nil hl
    rw [cohousingref01_Parse.l0, if_neg (by omega)]
    rfl
  | c :: r, k + 1, i, hl, hi, hk => by
    obtain ⟨h1, h2, h3⟩ := drop_cons hl
    rw [cohousingref01_Parse.l0, if_pos (by omega), if_pos (by omega), h2]
    by_cases hc : c = 47
    · have e : idx (c :: r) = 0 := if_pos hc
      rw [e, if_pos (by rw [hc]; rfl)]
      rfl
    · have e : idx (c :: r) = idx r + 1 := if_neg hc
      have hc2 : ¬ ((c.toNat : Nat) : Int) = 47 := by
        intro h
        apply hc
        apply UInt8.toNat_inj.mp
        have : c.toNat = 47 := by omega
        rw [this]
        rfl
      have w2 : wrap64 ((i : Int) + 1) = ((i + 1 : Nat) : Int) := wrap_id (by omega) (by omega)
      rw [e, if_neg hc2, w2, parse_l0 m s hs r k (i + 1) h3 h1 (by rw [List.length_cons] at hk; omega)]
      rw [show k - 1 - idx r = k + 1 - 1 - (idx r + 1) by omega, show i + 1 + idx r = i + (idx r + 1) by omega]
theorem idx_le : ∀ l : List UInt8, idx l ≤ l.length
  | [] => Nat.le_refl _
  | c :: r => by
    unfold idx
    have := idx_le r
    split
    · omega
    · rw [List.length_cons]; omega
def fin (m : Bool) (n : Int) (ok : Bool) (d : Int) : Int × Int × Int :=
  if ok = true ∧ ¬ (m = true ∧ n = 0) ∧ vld (if m = true then -n else n) d = true then (if m = true then -n else n, d, 0) else (0, 0, 8)
theorem parse_j4 (k : Nat) (hk : Big k) (m : Bool) (n : Int) (ok : Bool) (d : Int) (hn : 0 ≤ n ∧ n < 10000000000) (hd : 0 ≤ d ∧ d < 10000000000) :
    cohousingref01_Parse.j4 (k + 1) m n ok n d = some (fin m n ok d) := by
  rw [cohousingref01_Parse.j4]
  unfold fin
  have hdI : inI64 d := ⟨by omega, by omega⟩
  have hnI : inI64 n := ⟨by omega, by omega⟩
  have hmI : inI64 (-n) := ⟨by omega, by omega⟩
  have hw : wrap64 (-n) = -n := wrap_id (by omega) (by omega)
  rw [hw, ref_valid k hk _ d hmI hdI, ref_valid k hk _ d hnI hdI]
  simp only [Option.bind_some]
  cases m <;> cases ok
  · simp
  · cases h : vld n d <;> simp [h]
  · simp
  · by_cases h0 : n = 0
    · simp [h0]
    · cases h : vld (-n) d <;> simp [h, h0]
def refR (m : Bool) (s : ByteArray) : Int × Int × Int :=
  if idx s.toList < s.size then fin m (numR (s.extract 0 (idx s.toList))).1 ((numR (s.extract 0 (idx s.toList))).2 && (numR (s.extract (idx s.toList + 1) s.size)).2 && ((numR (s.extract (idx s.toList + 1) s.size)).1 != 1)) (numR (s.extract (idx s.toList + 1) s.size)).1
  else fin m (numR (s.extract 0 (idx s.toList))).1 (numR (s.extract 0 (idx s.toList))).2 1
theorem parse_j1 (k : Nat) (hk : 30000000000000000000 ≤ k) (m : Bool) (s : ByteArray) (hs : s.size ≤ 140737488351232) : cohousingref01_Parse.j1 k s m = some (refR m s) := by
  obtain ⟨k1, rfl⟩ : ∃ k1, k = k1 + 1 := ⟨k - 1, by omega⟩
  have hz := ba_size s
  have hi := idx_le s.toList
  have h0 := parse_l0 m s hs s.toList k1 0 rfl (by omega) (by omega)
  rw [cohousingref01_Parse.j1]
  rw [show ((0 : Nat) : Int) = 0 from rfl, Nat.zero_add] at h0
  rw [h0]
  unfold refR
  generalize ht : idx s.toList = t at *
  obtain ⟨k2, hk2⟩ : ∃ k2, k1 - 1 - t = k2 + 1 + 1 := ⟨k1 - 1 - t - 2, by omega⟩
  rw [hk2]
  have hk3 : 20000000000000000100 ≤ k2 := by omega
  rw [cohousingref01_Parse.j3, if_pos (by omega), if_pos (by omega), Int.toNat_natCast, ref_number (k2 + 1) (by omega), Option.bind_some]
  have bA := numR_bound (s.extract 0 t)
  generalize numR (s.extract 0 t) = A at *
  by_cases h1 : t < s.size
  · have w2 : wrap64 ((t : Int) + 1) = ((t + 1 : Nat) : Int) := wrap_id (by omega) (by omega)
    rw [if_pos (by omega), if_pos h1, w2, if_pos (by omega), if_pos (by omega), Int.toNat_natCast, ref_number (k2 + 1) (by omega), Option.bind_some]
    have bB := numR_bound (s.extract (t + 1) s.size)
    generalize numR (s.extract (t + 1) s.size) = B at *
    have hj := fun ok => parse_j4 k2 (by unfold Big; omega) m A.1 ok B.1 bA bB
    rw [hj, hj]
    cases A.2 <;> cases B.2 <;> rfl
  · rw [if_neg (by omega), if_neg h1]
    exact parse_j4 k2 (by unfold Big; omega) m A.1 A.2 1 bA ⟨by omega, by omega⟩
theorem ref_parse (k : Nat) (hk : 40000000000000000000 ≤ k) (s : ByteArray) (hs : s.size ≤ 140737488351232) :
    cohousingref01_Parse.f k s = some (if 0 < s.size ∧ bt s 0 = 45 then refR true (s.extract 1 s.size) else refR false s) := by
  unfold cohousingref01_Parse.f
  obtain ⟨k1, rfl⟩ : ∃ k1, k = k1 + 1 := ⟨k - 1, by omega⟩
  by_cases h0 : 0 < s.size
  · rw [if_pos (by omega), if_pos (by omega)]
    by_cases h1 : bt s 0 = 45
    · rw [if_pos ⟨h0, h1⟩, h1, cohousingref01_Parse.j0, if_pos (by rfl), if_pos (by omega)]
      exact parse_j1 k1 (by omega) true _ (by rw [ByteArray.size_extract]; omega)
    · rw [if_neg (fun h => h1 h.2), cohousingref01_Parse.j0, if_neg (by simpa using h1)]
      have e : (bt s 0 == 45) = false := by simpa using h1
      rw [e]
      exact parse_j1 k1 (by omega) false s hs
  · rw [if_neg (by omega), if_neg (fun h => h0 h.1), cohousingref01_Parse.j0, if_neg (by decide)]
    exact parse_j1 k1 (by omega) false s hs
end Go.Proofs.YteifflpjhlgpjaaDoor.Pure

