/- Tokens, written, are read again. No Go and no memory in it. -/
import Derived.Test.YtmpjoaljincclaaDoorLexDec
import Derived.Test.YtmpjoaljincclaaDoorLexPure2
namespace Go.Proofs.YtmpjoaljincclaaDoor.Pure
open Go.RowKit Go.Proofs.YtmpjoaljincclaaDoor.X Go.Proofs.YtmpjoaljincclaaDoorW.PrintWords

theorem ratMk_facts (x y n d : Nat) (hy : 0 < y) (h : ratMk (x : Int) (y : Int) = ((n : Int), (d : Int), 0)) : 0 < d ∧ d ∣ y ∧ x * d = n * y := by
  rw [ratMk_nat x y hy] at h
  split at h
  · exact absurd (show (3 : Int) = 0 from congrArg (fun q : Int × Int × Int => q.2.2) h) (by decide)
  · have h1 : x / Nat.gcd x y = n := Int.ofNat.inj (congrArg (fun q : Int × Int × Int => q.1) h)
    have h2 : y / Nat.gcd x y = d := Int.ofNat.inj (congrArg (fun q : Int × Int × Int => q.2.1) h)
    obtain ⟨g, e1, e2⟩ : ∃ g, n * g = x ∧ d * g = y := ⟨Nat.gcd x y, by rw [← h1]; exact Nat.div_mul_cancel (Nat.gcd_dvd_left x y), by rw [← h2]; exact Nat.div_mul_cancel (Nat.gcd_dvd_right x y)⟩
    clear h1 h2 h
    refine ⟨?_, ⟨g, e2.symm⟩, ?_⟩
    · rcases Nat.eq_zero_or_pos d with rfl | hp
      · rw [Nat.zero_mul] at e2; omega
      · exact hp
    · rw [← e1, ← e2, Nat.mul_assoc, Nat.mul_comm g d]
theorem digit_not {c : UInt8} (hc : isDigit c = true) : (c == 10) = false ∧ (c == 35) = false ∧ isBlank c = false ∧ c ≠ 46 := by
  refine ⟨?_, ?_, ?_, ?_⟩
  · rw [beq_eq_false_iff_ne]; rintro rfl; exact absurd hc (by decide)
  · rw [beq_eq_false_iff_ne]; rintro rfl; exact absurd hc (by decide)
  · cases hq : isBlank c with
    | false => rfl
    | true =>
      exfalso
      unfold isBlank at hq
      simp only [Bool.or_eq_true, beq_iff_eq] at hq
      rcases hq with ((rfl | rfl) | rfl) | rfl <;> exact absurd hc (by decide)
  · rintro rfl; exact absurd hc (by decide)
theorem skip_digit (c : UInt8) (hc : isDigit c = true) (y : List UInt8) : skipN false (c :: y) = 0 := by
  obtain ⟨h1, h2, h3, _⟩ := digit_not hc
  rw [skipN, h1, h2, h3]
  rfl
theorem skip_same (c : UInt8) (x y : List UInt8) (h : skipN false (c :: x) = 0) : skipN false (c :: y) = 0 := by
  rw [skipN] at h ⊢
  generalize (if (c == 10) = true then false else if (c == 35) = true then true else false) = e at h ⊢
  by_cases hd : (e || isBlank c) = true
  · rw [if_pos hd] at h; omega
  · rw [if_neg hd]
theorem numOf_size (l : List UInt8) (h : ¬ l.any (fun b => !isDigit b) = true) : numOf l 0 < 10 ^ l.length := by
  have := numOf_lt l 0 0 (by
    intro b hb
    cases hq : isDigit b with
    | true => rfl
    | false => exact absurd (List.any_eq_true.mpr ⟨b, hb, by rw [hq]; rfl⟩) h) (by decide)
  rwa [Nat.zero_add] at this
theorem key_nat (N D : Int) (x B : Nat) (h : ratMk (x : Int) ((10 ^ B : Nat) : Int) = (N, D, 0)) : ∃ n d : Nat, N = n ∧ D = d ∧ ratMk (x : Int) ((10 ^ B : Nat) : Int) = ((n : Int), (d : Int), 0) := by
  have e := h
  rw [ratMk_nat x _ (Nat.pow_pos (by decide))] at e
  split at e
  · exact absurd (show (3 : Int) = 0 from congrArg (fun q : Int × Int × Int => q.2.2) e) (by decide)
  · have h1 : ((x / Nat.gcd x (10 ^ B) : Nat) : Int) = N := congrArg (fun q : Int × Int × Int => q.1) e
    have h2 : ((10 ^ B / Nat.gcd x (10 ^ B) : Nat) : Int) = D := congrArg (fun q : Int × Int × Int => q.2.1) e
    exact ⟨_, _, h1.symm, h2.symm, by rw [h, ← h1, ← h2]⟩
theorem bad8 {N D : Int} (h : ((0 : Int), (0 : Int), (8 : Int)) = (N, D, 0)) : False := absurd (show (8 : Int) = 0 from congrArg (fun q : Int × Int × Int => q.2.2) h) (by decide)
/-- Where the value of a number's text comes from. -/
theorem valF_src (c : UInt8) (r : List UInt8) (hc : isDigit c = true) (N D : Int) (h : valF ⟨(c :: r).toArray⟩ = (N, D, 0)) :
    ∃ x A B n d : Nat, N = n ∧ D = d ∧ 1 ≤ A ∧ A ≤ 9 ∧ B ≤ 2 ∧ (if B = 0 then A else A + 1 + B) ≤ (c :: r).length ∧ x < 10 ^ (A + B) ∧ ratMk (x : Int) ((10 ^ B : Nat) : Int) = ((n : Int), (d : Int), 0) := by
  generalize hs : (⟨(c :: r).toArray⟩ : ByteArray) = s at h
  have hsl : s.data.toList = c :: r := by rw [← hs]
  have hsz : s.size = (c :: r).length := by rw [← hs]; rfl
  have h46 := (digit_not hc).2.2.2
  by_cases hi : 0 ≤ Lib.indexByte s.data.toList 46
  · obtain ⟨i, hi2⟩ : ∃ i : Nat, Lib.indexByte s.data.toList 46 = i := ⟨_, (Int.toNat_of_nonneg hi).symm⟩
    have hlt : i < s.size := by
      have := indexByte_lt s.data.toList 46
      have e : s.data.toList.length = s.size := rfl
      omega
    have h1 : 1 ≤ i := by
      have hge := Lib.indexByte_ge r 46
      rw [hsl, Lib.indexByte, if_neg (by rw [beq_iff_eq]; exact h46)] at hi2
      split at hi2
      · omega
      · rename_i hne
        rw [beq_iff_eq] at hne
        omega
    have hcut : cutAt s 46 = (s.extract 0 i, s.extract (i + 1) s.size, true) := by
      unfold cutAt
      rw [if_pos hi, hi2, Int.toNat_natCast]
    unfold valF at h
    rw [hcut] at h
    simp only at h
    by_cases hany : (s.extract 0 i ++ s.extract (i + 1) s.size).data.toList.any (fun b => !isDigit b) = true
    · rw [if_pos hany] at h
      exact (bad8 h).elim
    · rw [if_neg hany] at h
      have ea : (s.extract 0 i).size = i := by rw [ByteArray.size_extract]; omega
      have eb : (s.extract (i + 1) s.size).size = s.size - (i + 1) := by rw [ByteArray.size_extract]; omega
      rw [ea, eb] at h
      simp only [true_and] at h
      by_cases hb : 9 < i ∨ s.size - (i + 1) < 1 ∨ 2 < s.size - (i + 1)
      · rw [if_pos hb] at h
        exact (bad8 h).elim
      · rw [if_neg hb] at h
        have hx := numOf_size _ hany
        have hll : (s.extract 0 i ++ s.extract (i + 1) s.size).data.toList.length = i + (s.size - (i + 1)) := by
          have : (s.extract 0 i ++ s.extract (i + 1) s.size).data.toList.length = (s.extract 0 i ++ s.extract (i + 1) s.size).size := rfl
          rw [this, ByteArray.size_append, ea, eb]
        rw [hll] at hx
        obtain ⟨B, hB⟩ : ∃ B, s.size - (i + 1) = B := ⟨_, rfl⟩
        rw [hB] at h hx hb
        have hy : (if B = 0 then (1 : Int) else if B = 1 then 10 else 100) = ((10 ^ B : Nat) : Int) := by
          have : B = 1 ∨ B = 2 := by omega
          rcases this with rfl | rfl <;> decide
        rw [hy] at h
        obtain ⟨n, d, e1, e2, e3⟩ := key_nat N D _ B h
        exact ⟨_, i, B, n, d, e1, e2, h1, by omega, by omega, by rw [if_neg (by omega)]; omega, hx, e3⟩
  · have hcut : cutAt s 46 = (s, ⟨#[]⟩, false) := by unfold cutAt; rw [if_neg hi]
    unfold valF at h
    rw [hcut] at h
    simp only at h
    have happ : (s ++ ⟨#[]⟩ : ByteArray) = s := by rw [← ba_inj, ba_append]; simp [ba_toList]
    rw [happ] at h
    by_cases hany : s.data.toList.any (fun b => !isDigit b) = true
    · rw [if_pos hany] at h
      exact (bad8 h).elim
    · rw [if_neg hany, if_pos (show ((⟨#[]⟩ : ByteArray).size = 0) from rfl)] at h
      simp only [Bool.false_eq_true, false_and, or_false] at h
      by_cases hb : 9 < s.size
      · rw [if_pos hb] at h
        exact (bad8 h).elim
      · rw [if_neg hb] at h
        have hx := numOf_size _ hany
        have e : s.data.toList.length = s.size := rfl
        obtain ⟨n, d, e1, e2, e3⟩ := key_nat N D _ 0 h
        rw [e] at hx
        exact ⟨_, s.size, 0, n, d, e1, e2, by rw [hsz]; simp, by omega, by omega, by rw [if_pos rfl]; omega, hx, e3⟩
theorem wtext_len (x A B n d : Nat) (hA : 1 ≤ A) (hB : B ≤ 2) (hx : x < 10 ^ (A + B)) (h : ratMk (x : Int) ((10 ^ B : Nat) : Int) = ((n : Int), (d : Int), 0)) : (wtext n d).length ≤ if B = 0 then A else A + 1 + B := by
  obtain ⟨hd, hdy, hxd⟩ := ratMk_facts x (10 ^ B) n d (Nat.pow_pos (by decide)) h
  obtain ⟨A', rfl⟩ : ∃ A', A = A' + 1 := ⟨A - 1, by omega⟩
  rw [Nat.pow_add] at hx
  unfold wtext
  by_cases h1 : d = 1
  · subst h1
    rw [if_pos rfl]
    have hn : n < 10 ^ (A' + 1) := by
      rw [Nat.mul_one] at hxd
      rw [hxd] at hx
      exact Nat.lt_of_mul_lt_mul_right hx
    have := dec_length A' n hn
    split <;> omega
  · rw [if_neg h1]
    have hB0 : B = 1 ∨ B = 2 := by
      rcases Nat.eq_zero_or_pos B with rfl | hp
      · exact absurd (Nat.dvd_one.mp hdy) h1
      · omega
    have hdv : d ∣ 100 := by
      rcases hB0 with rfl | rfl
      · exact Nat.dvd_trans hdy (by decide)
      · exact hdy
    have ht := dvd100 d hdv
    have hH : n * (100 / d) * 10 ^ B = x * 100 := by
      rw [Nat.mul_assoc, Nat.mul_comm (100 / d), ← Nat.mul_assoc, ← hxd, Nat.mul_assoc, ht]
    generalize n * (100 / d) = H at hH ⊢
    have hu : H / 10 % 10 < 10 := Nat.mod_lt _ (by decide)
    have hv : H % 10 < 10 := Nat.mod_lt _ (by decide)
    rw [dec_one _ hu, dec_one _ hv]
    generalize hP : 10 ^ (A' + 1) = P at hx
    have hl : H / 100 < P → (Lib.decDigits (H / 100)).length ≤ A' + 1 := fun hh => dec_length A' (H / 100) (by rw [hP]; exact hh)
    rcases hB0 with rfl | rfl
    · rw [if_neg (show ¬ ((1 : Nat) = 0) by decide), if_neg (by omega)]
      have := hl (by omega)
      simp only [List.length_append, List.length_cons, List.length_nil]
      omega
    · rw [if_neg (show ¬ ((2 : Nat) = 0) by decide)]
      have := hl (by omega)
      split
      · simp only [List.length_append, List.length_cons, List.length_nil]
        omega
      · simp only [List.length_append, List.length_cons, List.length_nil]
        omega
theorem pos_part (n d : Nat) : (∀ b ∈ wtext n d, partB true b = true) ∧ ∃ c t, wtext n d = c :: t ∧ isDigit c = true := by
  have hd : ∀ u, ∀ b ∈ Lib.decDigits u, partB true b = true := fun u b hb => part_digit _ _ (dec_isdig u b hb)
  have hh : ∀ u, ∃ c t, Lib.decDigits u = c :: t ∧ isDigit c = true := by
    intro u
    cases e : Lib.decDigits u with
    | nil => exact absurd e (dec_ne u)
    | cons c t => exact ⟨c, t, rfl, dec_isdig u c (by rw [e]; exact List.mem_cons_self)⟩
  unfold wtext
  by_cases h1 : d = 1
  · rw [if_pos h1]
    exact ⟨hd n, hh n⟩
  · rw [if_neg h1]
    constructor
    · intro b hb
      rcases List.mem_append.mp hb with hb | hb
      · exact hd _ b hb
      · rcases List.mem_cons.mp hb with rfl | hb
        · decide
        · rcases List.mem_append.mp hb with hb | hb
          · exact hd _ b hb
          · split at hb
            · exact hd _ b hb
            · simp at hb
    · obtain ⟨c, t, e, hc⟩ := hh (n * (100 / d) / 100)
      rw [e, List.cons_append]
      exact ⟨c, _, rfl, hc⟩
theorem partLen_all (num : Bool) (W r : List UInt8) (h : ∀ b ∈ W, partB num b = true) : partLen num (W ++ 32 :: r) = W.length := by
  unfold partLen
  rw [List.takeWhile_append_of_pos h, List.takeWhile_cons]
  have : partB num 32 = false := by cases num <;> decide
  rw [this]
  simp
/-- What the reference writes for a token. -/
def wr (t : Tok) : List UInt8 := if t.f0 = 2 then wtext t.f3.f0.toNat t.f3.f1.toNat else t.f2.data.toList
/-- A token that is read again where it is written, with a blank behind it. -/
def OkT (t : Tok) : Prop := wr t ≠ [] ∧ (t.f0 = 2 → ∃ n d : Nat, t.f3.f0 = n ∧ t.f3.f1 = d ∧ 0 < d ∧ d ∣ 100 ∧ n < 1000000000 * d) ∧
  ∀ r, skipN false (wr t ++ 32 :: r) = 0 ∧ (tokL (wr t ++ 32 :: r)).1 = 0 ∧ (tokL (wr t ++ 32 :: r)).2.1 = (wr t).length ∧ ∀ a, (tokL (wr t ++ 32 :: r)).2.2 a = { t with f1 := a }
theorem stop_32 (r : List UInt8) : Stop (32 :: r) := by
  intro c q h
  injection h with h1 h2
  subst h1
  decide
theorem own_ok (c : UInt8) (r : List UInt8) (hp : skipN false (c :: r) = 0) (h0 : (tokL (c :: r)).1 = 0) (a : Int) (t : Tok) (_ht : (tokL (c :: r)).2.2 a = t) (h2 : t.f0 ≠ 2) (hf : t.f2 = ⟨((c :: r).take (tokL (c :: r)).2.1).toArray⟩) (hcp : ∀ a, (tokL (c :: r)).2.2 a = { t with f1 := a }) : OkT t ∧ (wr t).length ≤ (tokL (c :: r)).2.1 := by
  obtain ⟨hl1, hl2⟩ := tokL_len (c :: r) (by simp) h0
  have hw : wr t = (c :: r).take (tokL (c :: r)).2.1 := by
    unfold wr
    rw [if_neg h2, hf]
  have hlen : (wr t).length = (tokL (c :: r)).2.1 := by rw [hw, List.length_take]; omega
  obtain ⟨m, hm⟩ : ∃ m, (tokL (c :: r)).2.1 = m + 1 := ⟨(tokL (c :: r)).2.1 - 1, by omega⟩
  have hw2 : wr t = c :: r.take m := by rw [hw, hm, List.take_succ_cons]
  refine ⟨⟨by rw [hw2]; simp, fun h => absurd h h2, fun q => ?_⟩, by omega⟩
  have hsw := tokL_swap (wr t) ((c :: r).drop (tokL (c :: r)).2.1) (32 :: q) (by rw [hw2]; simp) (stop_32 q) (by rw [hw, List.take_append_drop]; exact h0) (by rw [hlen, hw, List.take_append_drop]; exact Nat.le_refl _)
  have hre : wr t ++ (c :: r).drop (tokL (c :: r)).2.1 = c :: r := by rw [hw, List.take_append_drop]
  rw [hre] at hsw
  rw [hsw]
  refine ⟨?_, h0, hlen.symm, hcp⟩
  rw [hw2, List.cons_append]
  exact skip_same c r _ hp
theorem tok_ok (l : List UInt8) (hl : l ≠ []) (hp : skipN false l = 0) (h0 : (tokL l).1 = 0) (a : Int) : OkT ((tokL l).2.2 a) ∧ (wr ((tokL l).2.2 a)).length ≤ (tokL l).2.1 := by
  cases l with
  | nil => exact absurd rfl hl
  | cons c r =>
    by_cases h1 : isDigit c = true
    · have e : tokL (c :: r) = ((valF ⟨((c :: r).take (partLen true (c :: r))).toArray⟩).2.2, partLen true (c :: r), fun a => ⟨2, a, ⟨#[]⟩, ⟨(valF ⟨((c :: r).take (partLen true (c :: r))).toArray⟩).1, (valF ⟨((c :: r).take (partLen true (c :: r))).toArray⟩).2.1⟩⟩) := by
        unfold tokL
        simp only
        rw [if_pos h1]
      have hpp := partLen_pos true c r (part_digit _ _ h1)
      have hpl := partLen_len true (c :: r)
      rw [e] at h0 ⊢
      simp only at h0 ⊢
      generalize hm : partLen true (c :: r) = m at *
      obtain ⟨m', rfl⟩ : ∃ m', m = m' + 1 := ⟨m - 1, by omega⟩
      rw [List.take_succ_cons] at h0 ⊢
      obtain ⟨x, A, B, n, d, eN, eD, hA, hA9, hB, hlen, hx, hr⟩ := valF_src c (r.take m') h1 (valF ⟨(c :: r.take m').toArray⟩).1 (valF ⟨(c :: r.take m').toArray⟩).2.1 (by rw [← h0])
      rw [eN, eD]
      have hlen2 : (c :: r.take m').length = m' + 1 := by
        rw [← List.take_succ_cons, List.length_take]
        omega
      have hy0 : 0 < 10 ^ B := Nat.pow_pos (by decide)
      obtain ⟨hd, hdy, hxd⟩ := ratMk_facts x (10 ^ B) n d hy0 hr
      have hB100 : 10 ^ B ∣ 100 := by
        have : B = 0 ∨ B = 1 ∨ B = 2 := by omega
        rcases this with rfl | rfl | rfl <;> decide
      have hx9 : x < 1000000000 * 10 ^ B := by
        refine Nat.lt_of_lt_of_le hx ?_
        rw [Nat.pow_add]
        exact Nat.mul_le_mul_right _ (Nat.pow_le_pow_right (by decide) hA9 (n := 10))
      have hnd : n < 1000000000 * d := by
        have : n * 10 ^ B < 1000000000 * d * 10 ^ B := by
          rw [← hxd, Nat.mul_assoc, Nat.mul_comm d, ← Nat.mul_assoc]
          exact Nat.mul_lt_mul_of_pos_right hx9 hd
        exact Nat.lt_of_mul_lt_mul_right this
      have hv := wtext_val x (10 ^ B) n d hy0 hB100 hx9 hr
      have hwl := wtext_len x A B n d hA hB hx hr
      obtain ⟨hpt, c', t', ew, hc'⟩ := pos_part n d
      have hw : wr (⟨2, a, ⟨#[]⟩, ⟨(n : Int), (d : Int)⟩⟩ : Tok) = wtext n d := by
        unfold wr
        simp only [if_true, Int.toNat_natCast]
      refine ⟨⟨by rw [hw, ew]; simp, fun _ => ⟨n, d, rfl, rfl, hd, Nat.dvd_trans hdy hB100, hnd⟩, fun q => ?_⟩, by rw [hw]; omega⟩
      rw [hw]
      have hpa := partLen_all true (wtext n d) q hpt
      have htk : (wtext n d ++ 32 :: q).take (wtext n d).length = wtext n d := List.take_left
      have e2 : tokL (wtext n d ++ 32 :: q) = (0, (wtext n d).length, fun a => ⟨2, a, ⟨#[]⟩, ⟨(n : Int), (d : Int)⟩⟩) := by
        have e3 : wtext n d ++ 32 :: q = c' :: (t' ++ 32 :: q) := by rw [ew, List.cons_append]
        have e4 : tokL (c' :: (t' ++ 32 :: q)) = ((valF ⟨((c' :: (t' ++ 32 :: q)).take (partLen true (c' :: (t' ++ 32 :: q)))).toArray⟩).2.2, partLen true (c' :: (t' ++ 32 :: q)), fun a => ⟨2, a, ⟨#[]⟩, ⟨(valF ⟨((c' :: (t' ++ 32 :: q)).take (partLen true (c' :: (t' ++ 32 :: q)))).toArray⟩).1, (valF ⟨((c' :: (t' ++ 32 :: q)).take (partLen true (c' :: (t' ++ 32 :: q)))).toArray⟩).2.1⟩⟩) := by
          unfold tokL
          simp only
          rw [if_pos hc']
        rw [← e3, hpa, htk, hv] at e4
        exact e4
      rw [e2]
      refine ⟨?_, rfl, rfl, fun _ => rfl⟩
      rw [ew, List.cons_append]
      exact skip_digit c' hc' _
    · by_cases h2 : isLetter c = true
      · have e : tokL (c :: r) = (if 16 < partLen false (c :: r) then 2 else 0, partLen false (c :: r), fun a => ⟨1, a, ⟨((c :: r).take (partLen false (c :: r))).toArray⟩, ⟨0, 0⟩⟩) := by
          unfold tokL
          simp only
          rw [if_neg h1, if_pos h2]
        refine own_ok c r hp h0 a _ rfl ?_ ?_ ?_
        · rw [e]; simp
        · rw [e]
        · rw [e]; intro _; rfl
      · have e : tokL (c :: r) = (if signN (c :: r) = 0 then 10 else 0, signN (c :: r), fun a => ⟨3, a, ⟨((c :: r).take (signN (c :: r))).toArray⟩, ⟨0, 0⟩⟩) := by
          unfold tokL
          simp only
          rw [if_neg h1, if_neg h2]
        refine own_ok c r hp h0 a _ rfl ?_ ?_ ?_
        · rw [e]; simp
        · rw [e]
        · rw [e]; intro _; rfl
/-! ### Lists of tokens, written -/
def wall : List Tok → List UInt8
  | [] => []
  | t :: ts => wr t ++ 32 :: wall ts
def wants : Nat → List Tok → List Tok
  | _, [] => []
  | o, t :: ts => { t with f1 := (o : Int) } :: wants (o + (wr t).length + 1) ts
theorem wants_len : ∀ (ts : List Tok) (o : Nat), (wants o ts).length = ts.length
  | [], _ => rfl
  | t :: ts, o => by rw [wants, List.length_cons, wants_len ts, List.length_cons]
theorem run_toks {l : List UInt8} {o : Nat} {ts : List Tok} {l' : List UInt8} {o' : Nat} (h : Run l o ts l' o') : (∀ t ∈ ts, OkT t) ∧ (wall ts).length + 2 * o ≤ 2 * o' := by
  induction h with
  | nil l o => exact ⟨by simp, by simp only [wall, List.length_nil]; omega⟩
  | cons h h0 hr ih =>
    rename_i l o ts l' o'
    have hk := tok_ok _ h (skip_past0 l) h0 ((o + skipN false l : Nat) : Int)
    have hl := tokL_len _ h h0
    refine ⟨?_, ?_⟩
    · intro t ht
      rcases List.mem_cons.mp ht with rfl | ht
      · exact hk.1
      · exact ih.1 t ht
    · have h1 := hk.2
      have h2 := ih.2
      rw [wall, List.length_append, List.length_cons]
      omega
theorem wrun : ∀ (ts : List Tok) (o : Nat), (∀ t ∈ ts, OkT t) → Run (wall ts) o (wants o ts) [] (o + (wall ts).length)
  | [], o, _ => by
    have := Run.nil [] o
    simpa [past, skipN, wall, wants] using this
  | t :: ts, o, h => by
    obtain ⟨_, _, hr⟩ := h t List.mem_cons_self
    obtain ⟨hs, h0, hl, ht⟩ := hr (wall ts)
    have hpast : past (wr t ++ 32 :: wall ts) = wr t ++ 32 :: wall ts := by unfold past; rw [hs, List.drop_zero]
    have hd : (wr t ++ 32 :: wall ts).drop (wr t).length = 32 :: wall ts := List.drop_left
    have ih := wrun ts (o + (wr t).length + 1) (fun x hx => h x (List.mem_cons_of_mem _ hx))
    have e1 : skipN false (32 :: wall ts) = 1 + skipN false (wall ts) := by
      rw [skipN]
      simp [isBlank]
    have e2 : past (32 :: wall ts) = past (wall ts) := by
      unfold past
      rw [e1, show 1 + skipN false (wall ts) = skipN false (wall ts) + 1 by omega, List.drop_succ_cons]
    have h32 : Run (32 :: wall ts) (o + (wr t).length) (wants (o + (wr t).length + 1) ts) [] (o + (wr t).length + 1 + (wall ts).length) := by
      rw [run_past, e1, e2]
      rw [run_past] at ih
      rw [show o + (wr t).length + (1 + skipN false (wall ts)) = o + (wr t).length + 1 + skipN false (wall ts) by omega]
      exact ih
    have := Run.cons (l := wr t ++ 32 :: wall ts) (o := o) (ts := wants (o + (wr t).length + 1) ts) (l' := []) (o' := o + (wr t).length + 1 + (wall ts).length) (by rw [hpast]; simp) (by rw [hpast]; exact h0) (by rw [hpast, hs, hl, hd, Nat.add_zero]; exact h32)
    rw [hpast, hs, Nat.add_zero, ht] at this
    rw [wall, wants, List.length_append, List.length_cons, show o + ((wr t).length + ((wall ts).length + 1)) = o + (wr t).length + 1 + (wall ts).length by omega]
    exact this
end Go.Proofs.YtmpjoaljincclaaDoor.Pure

