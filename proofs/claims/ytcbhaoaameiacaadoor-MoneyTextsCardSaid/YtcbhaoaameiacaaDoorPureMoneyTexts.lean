/- The law MoneyTexts as a statement over numbers and lists: every input answers true. No Go and no memory in it. -/
import Derived.Test.YtcbhaoaameiacaaDoorMoneyText2
namespace Go.Proofs.YtcbhaoaameiacaaDoor.Pure
open Go.RowKit Go.Proofs.YtcbhaoaameiacaaDoor.X Go.Proofs.YtcbhaoaameiacaaDoorW.PrintWords

theorem dg_dig (d : Nat) (h : d < 10) : IsDig (dg d) := by
  unfold IsDig
  rw [dg_nat d h]
  omega
theorem dec_head {u : Nat} (h : (Lib.decDigits u).head? = some 48) : Lib.decDigits u = [48] := by
  induction u using Nat.strongRecOn with
  | _ u ih =>
    by_cases hu : u < 10
    · rw [Lib.decDigits_one hu] at h ⊢
      simp only [List.head?_cons, Option.some.injEq] at h
      rw [h]
    · exfalso
      rw [Lib.decDigits, dif_neg hu, head_app _ _ (dec_ne _)] at h
      have h2 := ih (u / 10) (by omega) h
      have h3 : Lib.parseUint10 0 (Lib.decDigits (u / 10)) = .ok 0 := by rw [h2]; rfl
      have h4 : u / 10 = 0 := by
        by_cases hb : u / 10 < 10
        · rw [Lib.decDigits_one hb] at h2
          have h5 := congrArg UInt8.toNat (List.cons.inj h2).1
          rw [dig_nat _ hb] at h5
          have : (48 : UInt8).toNat = 48 := rfl
          omega
        · have h6 := congrArg List.length h2
          rw [Lib.decDigits, dif_neg hb, List.length_append, List.length_singleton, List.length_singleton] at h6
          have h7 := List.length_pos_iff.mpr (dec_ne (u / 10 / 10))
          omega
      omega
theorem dec_len (u : Nat) (h : u ≤ 10000000) : (Lib.decDigits u).length ≤ 8 := by
  rw [Lib.decDigits_length]
  by_cases h8 : u < 10 ^ 8
  · by_cases hc : Lib.nDigits u ≤ 8
    · exact hc
    · exfalso
      have key : ∀ (k v : Nat), v < 10 ^ (k + 1) → Lib.nDigits v ≤ k + 1 := by
        intro k
        induction k with
        | zero =>
          intro v hv
          rw [Lib.nDigits_small (by omega)]
          omega
        | succ k ih =>
          intro v hv
          by_cases hv10 : v < 10
          · rw [Lib.nDigits_small hv10]
            omega
          · rw [Lib.nDigits_big hv10]
            have := ih (v / 10) (by rw [Nat.pow_succ] at hv; omega)
            omega
      exact hc (key 7 u h8)
  · exfalso
    have : (10 : Nat) ^ 8 = 100000000 := by decide
    omega
/-- What is read off the parts. -/
theorem parse_at (s a b : ByteArray) (hs : s.size ≤ 140737488351232) (hc : cutAt (trimB s 45) 46 = (a, b, true)) (ha : a.toList ≠ []) (hb : b.size = 2) (hd : badDig (a ++ b) = false) (h0 : a.toList.head? = some 48 → a.toList = [48]) (h9 : a.size ≤ 9) (v : Int) (hv : Lib.atoiAll (a ++ b).data.toList = .ok v) :
    money_Parse.f s = if startsB s 45 = true then (if v = 0 then some (0, 8) else if 1000000000 < v then some (0, 3) else if 0 ≤ v then some (-v, 0) else none) else (if 1000000000 < v then some (0, 3) else some (v, 0)) := by
  unfold money_Parse.f
  rw [if_pos hs, hc]
  simp only
  rw [if_neg (by decide), if_neg (by simp [ha]), if_neg (by omega), hd, if_neg (by decide), if_neg ?_, if_neg (by omega), hv]
  rintro ⟨h1, h2⟩
  rw [← ba_toList] at h1
  rw [h0 h1] at h2
  simp at h2
theorem parse_textL (c : Int) (h : Amt c) (s : ByteArray) (hs : s.toList = textL c) : money_Parse.f s = some (c, 0) := by
  have h' := h
  unfold Amt at h'
  have hm : c.natAbs / 100 ≤ 10000000 := by omega
  have hdec := dec_digits (c.natAbs / 100)
  have hlen := dec_len _ hm
  have hsz : s.size ≤ 140737488351232 := by
    rw [ba_size, hs]
    unfold textL
    rw [List.length_append, List.length_append]
    have : (if c < 0 then [(45 : UInt8)] else []).length ≤ 1 := by split <;> simp
    simp
    omega
  have ht : (trimB s 45).toList = Lib.decDigits (c.natAbs / 100) ++ 46 :: [dg (c.natAbs % 100 / 10), dg (c.natAbs % 100 % 10)] ∧ (startsB s 45 = true ↔ c < 0) := by
    by_cases hc : c < 0
    · have e : s.toList = 45 :: (Lib.decDigits (c.natAbs / 100) ++ 46 :: [dg (c.natAbs % 100 / 10), dg (c.natAbs % 100 % 10)]) := by
        rw [hs]
        unfold textL
        rw [if_pos hc]
        rfl
      exact ⟨trim_yes e, fun _ => hc, fun _ => (starts_iff s 45).mpr ⟨_, e⟩⟩
    · have e : s.toList = Lib.decDigits (c.natAbs / 100) ++ 46 :: [dg (c.natAbs % 100 / 10), dg (c.natAbs % 100 % 10)] := by
        rw [hs]
        unfold textL
        rw [if_neg hc]
        rfl
      have hn : ¬ startsB s 45 = true := by
        intro hst
        obtain ⟨r, hr⟩ := (starts_iff s 45).mp hst
        rw [e] at hr
        have hh : (Lib.decDigits (c.natAbs / 100)).head? = some 45 := by
          have h2 := congrArg List.head? hr
          rw [head_app _ _ (dec_ne _)] at h2
          exact h2
        have := hdec 45 (List.mem_of_head? hh)
        have e45 : (45 : UInt8).toNat = 45 := rfl
        omega
      refine ⟨?_, fun h => absurd h hn, fun h => absurd h hc⟩
      rw [trim_no (Bool.eq_false_iff.mpr hn)]
      exact e
  obtain ⟨a, b, hcut, ha, hb⟩ := cut_at ht.1 (fun x hx e => by
    have := hdec x hx
    rw [e] at this
    have e46 : (46 : UInt8).toNat = 46 := rfl
    omega)
  have hab : (a ++ b).toList = Lib.decDigits (c.natAbs / 100) ++ [dg (c.natAbs % 100 / 10)] ++ [dg (c.natAbs % 100 % 10)] := by
    rw [ba_append, ha, hb]
    simp
  have d1 := dg_dig (c.natAbs % 100 / 10) (by omega)
  have d2 := dg_dig (c.natAbs % 100 % 10) (by omega)
  have hdig : ∀ x ∈ (a ++ b).toList, IsDig x := by
    intro x hx
    rw [hab, List.mem_append, List.mem_append, List.mem_singleton, List.mem_singleton] at hx
    rcases hx with (hx | hx) | hx
    · exact hdec x hx
    · rw [hx]; exact d1
    · rw [hx]; exact d2
  have hp : Lib.parseUint10 0 (a ++ b).toList = .ok c.natAbs := by
    have p0 := parse_dec (c.natAbs / 100) (by omega)
    have n1 := dg_nat (c.natAbs % 100 / 10) (by omega)
    have n2 := dg_nat (c.natAbs % 100 % 10) (by omega)
    have p1 := parse_snoc _ 0 _ (dg (c.natAbs % 100 / 10)) p0 d1.1 d1.2 (by omega) (by omega)
    have p2 := parse_snoc _ 0 _ (dg (c.natAbs % 100 % 10)) p1 d2.1 d2.2 (by omega) (by omega)
    rw [hab, p2]
    congr 1
    omega
  have hne : (a ++ b).toList ≠ [] := by
    rw [hab]
    simp
  have hat := atoi_digits hne hdig hp (by omega)
  rw [ba_toList] at hat
  rw [parse_at s a b hsz hcut (by rw [ha]; exact dec_ne _) (by rw [ba_size, hb]; rfl) ((bad_iff _).mpr hdig) (by rw [ha]; exact dec_head) (by rw [ba_size, ha]; omega) _ hat]
  by_cases hc : c < 0
  · rw [if_pos (ht.2.mpr hc), if_neg (by omega), if_neg (by omega), if_pos (by omega)]
    congr 2
    omega
  · rw [if_neg (fun g => hc (ht.2.mp g)), if_neg (by omega)]
    congr 2
    omega
theorem parse_total (s : ByteArray) (hs : s.size ≤ 140737488351232) : (∃ e, money_Parse.f s = some (0, e) ∧ (e = 8 ∨ e = 3)) ∨ (∃ n, money_Parse.f s = some (n, 0) ∧ Amt n ∧ s.toList = textL n) := by
  obtain ⟨a, b, ok, hc⟩ : ∃ a b ok, cutAt (trimB s 45) 46 = (a, b, ok) := ⟨_, _, _, rfl⟩
  have h8 : money_Parse.f s = some (0, 8) → (∃ e, money_Parse.f s = some (0, e) ∧ (e = 8 ∨ e = 3)) ∨ (∃ n, money_Parse.f s = some (n, 0) ∧ Amt n ∧ s.toList = textL n) := fun h => .inl ⟨8, h, .inl rfl⟩
  have h3 : money_Parse.f s = some (0, 3) → (∃ e, money_Parse.f s = some (0, e) ∧ (e = 8 ∨ e = 3)) ∨ (∃ n, money_Parse.f s = some (n, 0) ∧ Amt n ∧ s.toList = textL n) := fun h => .inl ⟨3, h, .inr rfl⟩
  have hf : money_Parse.f s = _ := rfl
  unfold money_Parse.f at hf
  rw [if_pos hs, hc] at hf
  simp only at hf
  by_cases k1 : ok = false
  · exact h8 (by unfold money_Parse.f; rw [if_pos hs, hc]; simp only; rw [if_pos k1])
  have k1' : ok = true := by
    cases ok with
    | true => rfl
    | false => exact absurd rfl k1
  subst k1'
  by_cases k2 : (a.toList == []) = true
  · exact h8 (by unfold money_Parse.f; rw [if_pos hs, hc]; simp only; rw [if_neg (by decide), if_pos k2])
  by_cases k3 : b.size = 2
  · by_cases k4 : badDig (a ++ b) = true
    · exact h8 (by unfold money_Parse.f; rw [if_pos hs, hc]; simp only; rw [if_neg (by decide), if_neg k2, if_neg (by omega), if_pos k4])
    by_cases k5 : a.data.toList.head? = some 48 ∧ (a.toList == [48]) = false
    · exact h8 (by unfold money_Parse.f; rw [if_pos hs, hc]; simp only; rw [if_neg (by decide), if_neg k2, if_neg (by omega), if_neg k4, if_pos k5])
    by_cases k6 : 9 < a.size
    · exact h3 (by unfold money_Parse.f; rw [if_pos hs, hc]; simp only; rw [if_neg (by decide), if_neg k2, if_neg (by omega), if_neg k4, if_neg k5, if_pos k6])
    have hdig := (bad_iff _).mp (Bool.eq_false_iff.mpr k4)
    have hane : a.toList ≠ [] := by
      intro e
      apply k2
      rw [e]
      rfl
    have h0 : a.toList.head? = some 48 → a.toList = [48] := by
      intro e
      by_cases hq : a.toList = [48]
      · exact hq
      · exfalso
        apply k5
        rw [← ba_toList]
        exact ⟨e, by simpa using hq⟩
    have hal : a.toList.length ≤ 9 := by rw [← ba_size]; omega
    have hal0 := List.length_pos_iff.mpr hane
    obtain ⟨u, p0, hdec, hu⟩ := numeral (a.toList.length - 1) a.toList (by omega) (by omega) (fun x hx => hdig x (by rw [ba_append]; exact List.mem_append_left _ hx)) h0
    have hu9 : u < 1000000000 := by
      have h1 : 10 ^ (a.toList.length - 1 + 1) ≤ 10 ^ 9 := Nat.pow_le_pow_right (by decide) (by omega)
      have h2 : (10 : Nat) ^ 9 = 1000000000 := by decide
      omega
    obtain ⟨b1, b2, hb⟩ : ∃ b1 b2, b.toList = [b1, b2] := by
      have hl : b.toList.length = 2 := by rw [← ba_size]; exact k3
      match b.toList, hl with
      | [x, y], _ => exact ⟨x, y, rfl⟩
    have d1 := hdig b1 (by rw [ba_append, hb]; simp)
    have d2 := hdig b2 (by rw [ba_append, hb]; simp)
    have d1' := d1
    have d2' := d2
    unfold IsDig at d1' d2'
    have hab : (a ++ b).toList = a.toList ++ [b1] ++ [b2] := by
      rw [ba_append, hb]
      simp
    have p1 := parse_snoc _ 0 _ b1 p0 d1.1 d1.2 (by omega) (by omega)
    have p2 := parse_snoc _ 0 _ b2 p1 d2.1 d2.2 (by omega) (by omega)
    rw [← hab] at p2
    have hne : (a ++ b).toList ≠ [] := by
      rw [hab]
      simp
    have hat := atoi_digits hne hdig p2 (by omega)
    rw [ba_toList] at hat
    have hp := parse_at s a b hs hc hane k3 (Bool.eq_false_iff.mpr k4) h0 (by omega) _ hat
    obtain ⟨v, hv⟩ : ∃ v, (u * 10 + (b1.toNat - 48)) * 10 + (b2.toNat - 48) = v := ⟨_, rfl⟩
    rw [hv] at hp
    have t1 : v / 100 = u := by omega
    have t2 : dg (v % 100 / 10) = b1 := by
      rw [show v % 100 / 10 = b1.toNat - 48 by omega]
      exact dg_of d1
    have t3 : dg (v % 100 % 10) = b2 := by
      rw [show v % 100 % 10 = b2.toNat - 48 by omega]
      exact dg_of d2
    have ht := cut_yes hc
    rw [hb, ← hdec] at ht
    by_cases hneg : startsB s 45 = true
    · rw [if_pos hneg] at hp
      by_cases hv0 : v = 0
      · rw [if_pos (by omega)] at hp
        exact h8 hp
      · rw [if_neg (by omega)] at hp
        by_cases hv1 : 1000000000 < (v : Int)
        · rw [if_pos hv1] at hp
          exact h3 hp
        · rw [if_neg hv1, if_pos (by omega)] at hp
          refine .inr ⟨_, hp, by unfold Amt; omega, ?_⟩
          obtain ⟨r, hr⟩ := (starts_iff s 45).mp hneg
          rw [trim_yes hr] at ht
          rw [hr, ht]
          unfold textL
          rw [if_pos (by omega), show (-(v : Int)).natAbs = v by omega, t1, t2, t3]
          rfl
    · rw [if_neg hneg] at hp
      by_cases hv1 : 1000000000 < (v : Int)
      · rw [if_pos hv1] at hp
        exact h3 hp
      · rw [if_neg hv1] at hp
        refine .inr ⟨_, hp, by unfold Amt; omega, ?_⟩
        rw [trim_no (Bool.eq_false_iff.mpr hneg)] at ht
        rw [ht]
        unfold textL
        rw [if_neg (by omega), show (v : Int).natAbs = v by omega, t1, t2, t3]
        rfl
  · exact h8 (by unfold money_Parse.f; rw [if_pos hs, hc]; simp only; rw [if_neg (by decide), if_neg k2, if_pos k3])
theorem MoneyTexts : ∀ (a0 : Int) (a1 : ByteArray), (Lit.int .i64 a0).wf = true → a1.size ≤ 140737488351232 → ∃ k, cohousinglaw02_MoneyTexts.f k a0 a1 = some true := by
  intro c s _ hs
  refine ⟨20, ?_⟩
  have hmn : mn (s.size : Int) 100 ≤ (s.size : Int) ∧ 0 ≤ mn (s.size : Int) 100 := by
    unfold mn
    split <;> omega
  have hx : (s.extract 0 ((mn (s.size : Int) 100) : Int).toNat).size ≤ 140737488351232 := by
    rw [ByteArray.size_extract]
    omega
  have hj : ∀ k x, x.size ≤ 140737488351232 → cohousinglaw02_MoneyTexts.j0 (k + 1) x true = some true := by
    intro k x hxs
    rw [cohousinglaw02_MoneyTexts.j0]
    rcases parse_total x hxs with ⟨e, he, hee⟩ | ⟨n, hn, ha, hl⟩
    · rw [he]
      rcases hee with rfl | rfl
      · rfl
      · rfl
    · obtain ⟨t, ht, htl⟩ := text_f n ha
      rw [hn, Option.bind_some]
      simp only [if_true]
      rw [ht, Option.bind_some]
      simp only [if_true]
      rw [if_pos (htl.trans hl.symm)]
  unfold cohousinglaw02_MoneyTexts.f
  rw [head_ok, Option.bind_some, if_pos rfl, if_pos hmn.2, if_pos hmn.1]
  by_cases ha : Amt c
  · obtain ⟨t, ht, htl⟩ := text_f c ha
    rw [ht, Option.bind_some]
    simp only [if_true]
    rw [parse_textL c ha t htl, Option.bind_some]
    simp only [if_true]
    exact hj 19 _ hx
  · rw [text_no c ha, Option.bind_some]
    simp only
    rw [if_neg (by decide)]
    simp only [if_true]
    rw [ref_amt, Option.bind_some, decide_eq_false ha, if_neg (by decide)]
    exact hj 19 _ hx
end Go.Proofs.YtcbhaoaameiacaaDoor.Pure

