/- What the reference of rational computes, part 5: parsing, the same as the program's. -/
import Derived.Test.YteifflpjhlgpjaaDoorRefRat4
namespace Go.Proofs.YteifflpjhlgpjaaDoor.Pure
open Go.RowKit Go.Proofs.YteifflpjhlgpjaaDoor.X Go.Proofs.YteifflpjhlgpjaaDoorW.PrintWords Go.Proofs.YteifflpjhlgpjaaDoorW.PrintMore

theorem text_bytes (n d : Int) : (textOf n d).toList = Lib.itoa n ++ (if d > 1 then 47 :: Lib.itoa d else []) := by
  unfold textOf
  split
  · rw [ba_append, ba_append, ba_mk (Lib.itoa n), ba_mk (Lib.itoa d)]
    rw [show (ByteArray.mk #[47]).toList = [47] by rw [ba_toList]]
    rfl
  · rw [ba_mk (Lib.itoa n), List.append_nil]
theorem idx_split : ∀ l : List UInt8, idx l < l.length → l = l.take (idx l) ++ 47 :: l.drop (idx l + 1)
  | [], h => absurd h (Nat.not_lt_zero _)
  | c :: r, h => by
    by_cases hc : c = 47
    · have e : idx (c :: r) = 0 := if_pos hc
      rw [e, hc]
      rfl
    · have e : idx (c :: r) = idx r + 1 := if_neg hc
      rw [e] at h ⊢
      have := idx_split r (by rw [List.length_cons] at h; omega)
      rw [List.take_succ_cons, List.drop_succ_cons, List.cons_append, ← this]
theorem idx_none : ∀ l : List UInt8, (∀ b ∈ l, b ≠ (47 : UInt8)) → idx l = l.length
  | [], _ => rfl
  | c :: r, h => by
    have e : idx (c :: r) = idx r + 1 := if_neg (h c (by simp))
    rw [e, idx_none r (fun b hb => h b (by simp [hb]))]
    rfl
theorem idx_at : ∀ (l r : List UInt8), (∀ b ∈ l, b ≠ (47 : UInt8)) → idx (l ++ 47 :: r) = l.length
  | [], r, _ => if_pos rfl
  | c :: l, r, h => by
    have e : idx (c :: l ++ 47 :: r) = idx (l ++ 47 :: r) + 1 := if_neg (h c (by simp))
    rw [e, idx_at l r (fun b hb => h b (by simp [hb]))]
    rfl
theorem dec_noslash (v : Nat) : ∀ b ∈ Lib.decDigits v, b ≠ (47 : UInt8) := by
  intro b hb e
  subst e
  have := dec_digits v _ hb
  revert this
  decide
theorem itoa_sign (m : Bool) (n : Int) (h0 : 0 ≤ n) (h : ¬ (m = true ∧ n = 0)) : Lib.itoa (if m = true then -n else n) = (if m = true then [45] else []) ++ Lib.decDigits n.toNat := by
  cases m with
  | false =>
    have e := itoa_nat n.toNat
    rw [Int.toNat_of_nonneg h0] at e
    exact e
  | true =>
    have h1 : n ≠ 0 := fun h2 => h ⟨rfl, h2⟩
    have e := itoa_abs (-n) (by omega)
    rw [show (-n).natAbs = n.toNat by omega] at e
    exact e
theorem fin_cases (m : Bool) (n : Int) (ok : Bool) (d : Int) : fin m n ok d = (0, 0, 8) ∨ (fin m n ok d = (if m = true then -n else n, d, 0) ∧ ok = true ∧ ¬ (m = true ∧ n = 0) ∧ vld (if m = true then -n else n) d = true) := by
  by_cases h : ok = true ∧ ¬ (m = true ∧ n = 0) ∧ vld (if m = true then -n else n) d = true
  · exact .inr ⟨if_pos h, h⟩
  · exact .inl (if_neg h)
theorem refR_sound (m : Bool) (s : ByteArray) : refR m s = (0, 0, 8) ∨ ∃ n d, refR m s = (n, d, 0) ∧ vld n d = true ∧ (textOf n d).toList = (if m = true then [45] else []) ++ s.toList := by
  have hz := ba_size s
  have hi := idx_le s.toList
  unfold refR
  have eA : (s.extract 0 (idx s.toList)).toList = s.toList.take (idx s.toList) := by rw [ba_extract]; rfl
  have eB : (s.extract (idx s.toList + 1) s.size).toList = s.toList.drop (idx s.toList + 1) := by
    rw [ba_extract, hz, List.take_length]
  have sA := @numR_sound (s.extract 0 (idx s.toList))
  have sB := @numR_sound (s.extract (idx s.toList + 1) s.size)
  have sp := idx_split s.toList
  generalize numR (s.extract 0 (idx s.toList)) = A at *
  generalize numR (s.extract (idx s.toList + 1) s.size) = B at *
  obtain ⟨a, oa⟩ := A
  obtain ⟨b, ob⟩ := B
  by_cases h1 : idx s.toList < s.size
  · rw [if_pos h1]
    rcases fin_cases m a (oa && ob && (b != 1)) b with h | ⟨h, h2, h3, h4⟩
    · exact .inl h
    · rw [Bool.and_eq_true, Bool.and_eq_true] at h2
      obtain ⟨⟨ha, hb⟩, hc⟩ := h2
      have ha' : oa = true := ha
      have hb' : ob = true := hb
      subst ha' hb'
      have qA := sA rfl
      have qB := sB rfl
      have hd : b ≠ 1 := by simpa using hc
      have hv := (vld_iff _ _).mp h4
      refine .inr ⟨_, _, h, h4, ?_⟩
      rw [text_bytes, itoa_sign m a qA.1 h3, if_pos (show b > 1 by omega), ← qA.2, eA, List.append_assoc]
      have e := itoa_nat b.toNat
      rw [Int.toNat_of_nonneg qB.1, ← qB.2, eB] at e
      rw [e, ← sp (by omega)]
  · rw [if_neg h1]
    rcases fin_cases m a oa 1 with h | ⟨h, h2, h3, h4⟩
    · exact .inl h
    · have ha' : oa = true := h2
      subst ha'
      have qA := sA rfl
      refine .inr ⟨_, _, h, h4, ?_⟩
      rw [text_bytes, itoa_sign m a qA.1 h3, if_neg (show ¬ (1 : Int) > 1 by omega), ← qA.2, eA, List.append_nil, List.take_of_length_le (by omega)]
theorem refR_comp (m : Bool) (a : Nat) (d : Int) (ha : a ≤ 1000000000) (h0 : ¬ (m = true ∧ (a : Int) = 0)) (hv : vld (if m = true then -(a : Int) else a) d = true) (s : ByteArray)
    (hs : s.toList = Lib.decDigits a ++ (if d > 1 then 47 :: Lib.itoa d else [])) : refR m s = (if m = true then -(a : Int) else a, d, 0) := by
  have hz := ba_size s
  have hd := (vld_iff _ _).mp hv
  have eA : (s.extract 0 (idx s.toList)).toList = s.toList.take (idx s.toList) := by rw [ba_extract]; rfl
  have eB : (s.extract (idx s.toList + 1) s.size).toList = s.toList.drop (idx s.toList + 1) := by
    rw [ba_extract, hz, List.take_length]
  unfold refR
  by_cases h1 : d > 1
  · rw [if_pos h1] at hs
    have ei : idx s.toList = (Lib.decDigits a).length := by rw [hs]; exact idx_at _ _ (dec_noslash a)
    rw [if_pos (by rw [ei, hz, hs, List.length_append, List.length_cons]; omega)]
    have nA := numR_dec (s.extract 0 (idx s.toList)) a ha (by rw [eA, ei, hs, List.take_left'] ; rfl)
    have ed := itoa_nat d.toNat
    rw [Int.toNat_of_nonneg (by omega)] at ed
    have nB := numR_dec (s.extract (idx s.toList + 1) s.size) d.toNat (by omega) (by
      rw [eB, ei, hs, ← ed, ← List.drop_drop, List.drop_left' rfl]
      rfl)
    rw [Int.toNat_of_nonneg (by omega)] at nB
    rw [nA, nB]
    unfold fin
    have hne : (d != 1) = true := by
      rw [bne_iff_ne]
      omega
    simp only [hne]
    rw [if_pos ⟨rfl, h0, hv⟩]
  · rw [if_neg h1, List.append_nil] at hs
    have ei : idx s.toList = (Lib.decDigits a).length := by rw [hs]; exact idx_none _ (dec_noslash a)
    rw [if_neg (by rw [ei, hz, hs]; omega)]
    have nA := numR_dec (s.extract 0 (idx s.toList)) a ha (by rw [eA, ei, hs, List.take_length])
    have hd1 : d = 1 := by omega
    subst hd1
    rw [nA]
    unfold fin
    exact if_pos ⟨rfl, h0, hv⟩
/-- The text of a number: its sign, then the digits. -/
theorem ref_comp (k : Nat) (hk : 40000000000000000000 ≤ k) (n d : Int) (hv : vld n d = true) (s : ByteArray) (hs : s.size ≤ 140737488351232) (ht : textOf n d = s) : cohousingref01_Parse.f k s = some (n, d, 0) := by
  rw [ref_parse k hk s hs]
  have hd := (vld_iff _ _).mp hv
  have hb := text_bytes n d
  rw [ht] at hb
  have hz := ba_size s
  have hbt : ∀ (c : UInt8) (r : List UInt8), s.toList = c :: r → 0 < s.size ∧ bt s 0 = (c.toNat : Int) ∧ s.toList.drop 1 = r := by
    intro c r h
    have := drop_cons (s := s) (i := 0) (c := c) (r := r) (by simpa using h)
    exact this
  by_cases h0 : n < 0
  · rw [itoa_abs n h0, List.cons_append] at hb
    obtain ⟨q1, q2, q3⟩ := hbt _ _ hb
    rw [if_pos ⟨q1, by rw [q2]; rfl⟩]
    have e : (s.extract 1 s.size).toList = s.toList.drop 1 := by rw [ba_extract, hz, List.take_length]
    have en : (-((n.natAbs : Nat) : Int)) = n := by omega
    have := refR_comp true n.natAbs d (by omega) (by omega) (by rw [if_pos rfl, en]; exact hv) (s.extract 1 s.size) (by rw [e, q3])
    rw [if_pos rfl, en] at this
    rw [this]
  · have en : ((n.natAbs : Nat) : Int) = n := by omega
    have ei : Lib.itoa n = Lib.decDigits n.natAbs := by
      rw [← itoa_nat, en]
    rw [ei] at hb
    have hf : ¬ (0 < s.size ∧ bt s 0 = 45) := by
      rintro ⟨_, h45⟩
      cases hc : Lib.decDigits n.natAbs with
      | nil => exact dec_ne _ hc
      | cons c r =>
        have hr := dec_digits n.natAbs c (by rw [hc]; simp)
        rw [hc, List.cons_append] at hb
        obtain ⟨q1, q2, q3⟩ := hbt _ _ hb
        omega
    rw [if_neg hf]
    have := refR_comp false n.natAbs d (by omega) (by simp) (by rw [if_neg (by decide), en]; exact hv) s hb
    rw [if_neg (by decide), en] at this
    rw [this]
theorem ref_ends (k : Nat) (hk : 40000000000000000000 ≤ k) (s : ByteArray) (hs : s.size ≤ 140737488351232) :
    cohousingref01_Parse.f k s = some (0, 0, 8) ∨ ∃ n d, vld n d = true ∧ textOf n d = s := by
  rw [ref_parse k hk s hs]
  have hz := ba_size s
  split
  · rename_i h
    rcases refR_sound true (s.extract 1 s.size) with h1 | ⟨n, d, _, h2, h3⟩
    · exact .inl (by rw [h1])
    · refine .inr ⟨n, d, h2, ?_⟩
      rw [← ba_inj, h3, if_pos rfl]
      have e : (s.extract 1 s.size).toList = s.toList.drop 1 := by rw [ba_extract, hz, List.take_length]
      rw [e]
      cases hl : s.toList with
      | nil => rw [hl, List.length_nil] at hz; exact absurd h.1 (by omega)
      | cons c r =>
        obtain ⟨q1, q2, q3⟩ := drop_cons (s := s) (i := 0) (c := c) (r := r) (by simpa using hl)
        have hc : c = 45 := by
          apply UInt8.toNat_inj.mp
          have h45 := h.2
          have q2' : bt s 0 = (c.toNat : Int) := q2
          have : c.toNat = 45 := by omega
          rw [this]
          rfl
        rw [hc]
        rfl
  · rcases refR_sound false s with h1 | ⟨n, d, _, h2, h3⟩
    · exact .inl (by rw [h1])
    · refine .inr ⟨n, d, h2, ?_⟩
      rw [← ba_inj, h3, if_neg (by decide)]
      rfl
theorem parse_same (k : Nat) (hk : 40000000000000000000 ≤ k) (s : ByteArray) (hs : s.size ≤ 140737488351232) : cohousingref01_Parse.f k s = rational_Parse.f s := by
  by_cases h : ∃ n d, vld n d = true ∧ textOf n d = s
  · obtain ⟨n, d, hv, ht⟩ := h
    rw [ref_comp k hk n d hv s hs ht]
    obtain ⟨q, hq, rfl, rfl⟩ := of_vld hv
    rw [← ht, parse_text q hq]
  · rcases ref_ends k hk s hs with h1 | h1
    · rcases parse_ends s hs with h2 | ⟨n, d, _, hv, _, _, ht⟩
      · rw [h1, h2]
      · exact absurd ⟨n, d, hv, ht⟩ h
    · exact absurd h1 h
end Go.Proofs.YteifflpjhlgpjaaDoor.Pure

