/- Written digits against the value of a number's text. No Go and no memory in it. -/
import Derived.Test.YtmpjoaljincclaaDoorLexVal
namespace Go.Proofs.YtmpjoaljincclaaDoor.Pure
open Go.RowKit Go.Proofs.YtmpjoaljincclaaDoor.X Go.Proofs.YtmpjoaljincclaaDoorW.PrintWords

theorem dec_step (n : Nat) : Lib.decDigits n = (if n > 9 then Lib.decDigits (n / 10) else []) ++ [UInt8.ofNat (48 + n % 10)] := by
  rw [Lib.decDigits]
  by_cases h : n < 10
  · rw [dif_pos h, if_neg (by omega), Nat.mod_eq_of_lt h]
    rfl
  · rw [dif_neg h, if_pos (by omega)]
theorem dec_length : ∀ (m v : Nat), v < 10 ^ (m + 1) → (Lib.decDigits v).length ≤ m + 1
  | 0, v, h => by
    rw [dec_step, if_neg (by omega)]
    simp
  | m + 1, v, h => by
    rw [dec_step, List.length_append]
    split
    · have := dec_length m (v / 10) (by rw [Nat.pow_succ] at h; omega)
      simp only [List.length_cons, List.length_nil]
      omega
    · simp
theorem dec_isdig (u : Nat) : ∀ c ∈ Lib.decDigits u, isDigit c = true := by
  intro c hc
  have := dec_digits u c hc
  unfold isDigit
  rw [decide_eq_true this.1, decide_eq_true this.2]
  rfl
theorem numOf_snoc (l : List UInt8) (n : Nat) (c : UInt8) : numOf (l ++ [c]) n = 10 * numOf l n + (c.toNat - 48) := by
  unfold numOf
  rw [List.foldl_append]
  rfl
theorem numOf_app (l m : List UInt8) (n : Nat) : numOf (l ++ m) n = numOf m (numOf l n) := by
  unfold numOf
  rw [List.foldl_append]
theorem dec_num (u : Nat) : numOf (Lib.decDigits u) 0 = u := by
  induction u using Nat.strongRecOn with
  | _ u ih =>
    rw [dec_step, numOf_snoc, dig_nat _ (by omega)]
    by_cases h : u > 9
    · rw [if_pos h, ih (u / 10) (by omega)]
      omega
    · rw [if_neg h]
      show 10 * 0 + _ = _
      omega
/-- A digit, written. -/
theorem dec_one (u : Nat) (h : u < 10) : Lib.decDigits u = [UInt8.ofNat (48 + u)] := by
  rw [dec_step, if_neg (by omega), Nat.mod_eq_of_lt h]
  rfl
/-- What the reference writes for a number n / d, where d divides 100. -/
def wtext (n d : Nat) : List UInt8 :=
  if d = 1 then Lib.decDigits n
  else Lib.decDigits (n * (100 / d) / 100) ++ 46 :: (Lib.decDigits (n * (100 / d) / 10 % 10) ++ if n * (100 / d) % 10 > 0 then Lib.decDigits (n * (100 / d) % 10) else [])
theorem mk_list (l : List UInt8) : (⟨l.toArray⟩ : ByteArray).data.toList = l := rfl
theorem mk_size (l : List UInt8) : (⟨l.toArray⟩ : ByteArray).size = l.length := rfl
theorem numOf_one (u n : Nat) (h : u < 10) : numOf [UInt8.ofNat (48 + u)] n = 10 * n + u := by
  show 10 * n + ((UInt8.ofNat (48 + u)).toNat - 48) = _
  rw [dig_nat u h]
  omega
theorem isdig_one (u : Nat) (h : u < 10) : isDigit (UInt8.ofNat (48 + u)) = true := by
  unfold isDigit
  rw [dig_nat u h, decide_eq_true (by omega), decide_eq_true (by omega)]
  rfl
/-- The point and what stands behind it. -/
theorem val_cents (a : Nat) (ha : a < 1000000000) (u v : Nat) (hu : u < 10) (hv : v < 10) :
    valF ⟨(Lib.decDigits a ++ 46 :: [UInt8.ofNat (48 + u), UInt8.ofNat (48 + v)]).toArray⟩ = ratMk ((100 * a + 10 * u + v : Nat) : Int) 100 ∧ valF ⟨(Lib.decDigits a ++ 46 :: [UInt8.ofNat (48 + u)]).toArray⟩ = ratMk ((10 * a + u : Nat) : Int) 10 := by
  have hl := dec_length 8 a ha
  constructor
  · rw [val_point _ (Lib.decDigits a) [UInt8.ofNat (48 + u), UInt8.ofNat (48 + v)] (mk_list _) (dec_isdig a) (by
      intro c hc
      rcases List.mem_cons.mp hc with rfl | hc
      · exact isdig_one u hu
      · rw [List.mem_singleton.mp hc]; exact isdig_one v hv) (by omega) (by simp) (by simp)]
    rw [show Lib.decDigits a ++ [UInt8.ofNat (48 + u), UInt8.ofNat (48 + v)] = (Lib.decDigits a ++ [UInt8.ofNat (48 + u)]) ++ [UInt8.ofNat (48 + v)] by simp, numOf_app, numOf_app, dec_num, numOf_one u _ hu, numOf_one v _ hv]
    rw [show 10 * (10 * a + u) + v = 100 * a + 10 * u + v by omega]
    rfl
  · rw [val_point _ (Lib.decDigits a) [UInt8.ofNat (48 + u)] (mk_list _) (dec_isdig a) (by
      intro c hc
      rw [List.mem_singleton.mp hc]; exact isdig_one u hu) (by omega) (by simp) (by simp)]
    rw [numOf_app, dec_num, numOf_one u _ hu]
    rfl
theorem dvd100 (d : Nat) (h : d ∣ 100) : d * (100 / d) = 100 := Nat.mul_div_cancel' h
theorem wtext_val (x y n d : Nat) (hy : 0 < y) (hy1 : y ∣ 100) (hx : x < 1000000000 * y) (h : ratMk (x : Int) (y : Int) = ((n : Int), (d : Int), 0)) : valF ⟨(wtext n d).toArray⟩ = ((n : Int), (d : Int), 0) := by
  obtain ⟨h0, hd, hdy, hco⟩ := ratMk_back x y (n * (100 / d)) 100 n d hy (by decide) h (by
    have hdv : d ∣ 100 := Nat.dvd_trans (ratMk_back x y n d n d hy (by
      rcases Nat.eq_zero_or_pos d with rfl | hp
      · exfalso
        have := (ratMk_back x y x y n 0 hy hy h (by
          rw [ratMk_nat x y hy] at h
          split at h
          · exact absurd (show (3 : Int) = 0 from congrArg (fun q : Int × Int × Int => q.2.2) h) (by decide)
          · have h2 : y / Nat.gcd x y = 0 := Int.ofNat.inj (congrArg (fun q : Int × Int × Int => q.2.1) h)
            have := Nat.div_pos (Nat.le_of_dvd hy (Nat.gcd_dvd_right x y)) (Nat.gcd_pos_of_pos_right x hy)
            omega)).2.1
        omega
      · exact hp) h rfl).2.2.1 hy1
    rw [Nat.mul_assoc, Nat.mul_comm (100 / d) d, dvd100 d hdv])
  have hdv : d ∣ 100 := Nat.dvd_trans hdy hy1
  have ht := dvd100 d hdv
  -- the size of the number
  have hnd : n < 1000000000 * d := by
    have hg : 0 < Nat.gcd x y := Nat.gcd_pos_of_pos_right _ hy
    rw [ratMk_nat x y hy] at h
    split at h
    · exact absurd (show (3 : Int) = 0 from congrArg (fun q : Int × Int × Int => q.2.2) h) (by decide)
    · have h1 : x / Nat.gcd x y = n := Int.ofNat.inj (congrArg (fun q : Int × Int × Int => q.1) h)
      have h2 : y / Nat.gcd x y = d := Int.ofNat.inj (congrArg (fun q : Int × Int × Int => q.2.1) h)
      have e1 : n * Nat.gcd x y = x := by rw [← h1]; exact Nat.div_mul_cancel (Nat.gcd_dvd_left x y)
      have e2 : d * Nat.gcd x y = y := by rw [← h2]; exact Nat.div_mul_cancel (Nat.gcd_dvd_right x y)
      have : n * Nat.gcd x y < 1000000000 * d * Nat.gcd x y := by rw [e1, Nat.mul_assoc, e2]; exact hx
      exact Nat.lt_of_mul_lt_mul_right this
  unfold wtext
  by_cases h1 : d = 1
  · subst h1
    rw [if_pos rfl, val_int _ (by rw [mk_list]; exact dec_isdig n) (by rw [mk_size]; have := dec_length 8 n (by omega); omega), mk_list, dec_num]
    exact (ratMk_back x y n 1 n 1 hy (by decide) h rfl).1
  · rw [if_neg h1]
    generalize hH : n * (100 / d) = H at *
    have hHb : H < 100000000000 := by
      have : n * (100 / d) < 1000000000 * d * (100 / d) := Nat.mul_lt_mul_of_pos_right hnd (by
        rcases Nat.eq_zero_or_pos (100 / d) with h3 | h3
        · rw [h3] at ht; omega
        · exact h3)
      rw [Nat.mul_assoc, ht, hH] at this
      omega
    have hu : H / 10 % 10 < 10 := Nat.mod_lt _ (by decide)
    have hv : H % 10 < 10 := Nat.mod_lt _ (by decide)
    have hc := val_cents (H / 100) (by omega) (H / 10 % 10) (H % 10) hu hv
    rw [dec_one _ hu, dec_one _ hv]
    by_cases hz : H % 10 > 0
    · rw [if_pos hz]
      have e := hc.1
      rw [show 100 * (H / 100) + 10 * (H / 10 % 10) + H % 10 = H by omega] at e
      exact e.trans h0
    · rw [if_neg hz, List.append_nil]
      have e := hc.2
      refine e.trans ?_
      refine (ratMk_back x y (10 * (H / 100) + H / 10 % 10) 10 n d hy (by decide) h ?_).1
      have e1 : 10 * (10 * (H / 100) + H / 10 % 10) = H := by omega
      have e2 : H * d = n * 100 := by rw [← hH, Nat.mul_assoc, Nat.mul_comm (100 / d) d, ht]
      have : 10 * ((10 * (H / 100) + H / 10 % 10) * d) = 10 * (n * 10) := by
        rw [← Nat.mul_assoc, e1, e2]
        omega
      exact Nat.eq_of_mul_eq_mul_left (by decide) this
end Go.Proofs.YtmpjoaljincclaaDoor.Pure

