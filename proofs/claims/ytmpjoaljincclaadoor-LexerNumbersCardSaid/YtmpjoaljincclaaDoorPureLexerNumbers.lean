/- LexerNumbers: no Go and no memory in it. -/
import Derived.Test.YtmpjoaljincclaaDoorXx8
import Derived.Test.YtmpjoaljincclaaDoorRefDigits
import Derived.Test.YtmpjoaljincclaaDoorLexNum
namespace Go.Proofs.YtmpjoaljincclaaDoor.Pure
open Go.RowKit Go.Proofs.YtmpjoaljincclaaDoor.X Go.Proofs.YtmpjoaljincclaaDoorW.PrintWords

theorem ba_list {a b : ByteArray} (h : a.data.toList = b.data.toList) : a = b := by rw [← ba_inj, ba_toList, ba_toList, h]
theorem tdiv_nat (a b : Nat) : Int.tdiv (a : Int) (b : Int) = ((a / b : Nat) : Int) := (Int.ofNat_tdiv a b).symm
theorem tmod_nat (a b : Nat) : Int.tmod (a : Int) (b : Int) = ((a % b : Nat) : Int) := (Int.ofNat_tmod a b).symm
theorem ba_eq (b : ByteArray) (l : List UInt8) (h : b.data.toList = l) : b = ⟨l.toArray⟩ := ba_list (by rw [h])
/-- The token of a number that is a whole source. -/
def numT (N D : Int) : Tok := ⟨2, 0, ⟨#[]⟩, ⟨N, D⟩⟩
theorem rd_one (N D : Int) : rd_T32 [numT N D] 0 = numT N D := rfl
/-- One text of the two: what is asked of it. -/
structure Item (T : ByteArray) (n cents : Nat) : Prop where
  dig : ∀ c ∈ T.data.toList, isDigit c = true
  num : numOf T.data.toList 0 = n
  len : T.data.toList.length ≤ 9
  ne : T.data.toList ≠ []
theorem lex_dig (T : ByteArray) (n cents : Nat) (h : Item T n cents) (r : List UInt8) (hr : ∀ b ∈ r, partB true b = true) (hl : r.length ≤ 3) (N D e : Int) (hv : valF ⟨(T.data.toList ++ r).toArray⟩ = (N, D, e)) (b : ByteArray) (hb : b.data.toList = T.data.toList ++ r) :
    lexer_Lex.f b = some (if e = 0 then ([numT N D], 0, 0) else ([], e, 0)) := by
  rw [ba_eq b _ hb]
  obtain ⟨c, t, ht⟩ : ∃ c t, T.data.toList = c :: t := by
    cases e : T.data.toList with
    | nil => exact absurd e h.ne
    | cons c t => exact ⟨c, t, rfl⟩
  have h9 := h.len
  refine congrArg some (lex_one (T.data.toList ++ r) (t ++ r) c (by rw [ht]; rfl) (h.dig c (by rw [ht]; exact List.mem_cons_self)) ?_ (by rw [List.length_append]; omega) N D e hv)
  intro x hx
  rcases List.mem_append.mp hx with hx | hx
  · exact part_digit _ _ (h.dig x hx)
  · exact hr x hx
theorem part46 (u v : Nat) (hu : u < 10) (hv : v < 10) : (∀ b ∈ 46 :: [UInt8.ofNat (48 + u), UInt8.ofNat (48 + v)], partB true b = true) ∧ (∀ b ∈ 46 :: [UInt8.ofNat (48 + u)], partB true b = true) := by
  have h1 : partB true 46 = true := by decide
  have h2 : partB true (UInt8.ofNat (48 + u)) = true := part_digit _ _ (isdig_one u hu)
  have h3 : partB true (UInt8.ofNat (48 + v)) = true := part_digit _ _ (isdig_one v hv)
  constructor
  · intro b hb
    rcases List.mem_cons.mp hb with rfl | hb
    · exact h1
    · rcases List.mem_cons.mp hb with rfl | hb
      · exact h2
      · rw [List.mem_singleton.mp hb]; exact h3
  · intro b hb
    rcases List.mem_cons.mp hb with rfl | hb
    · exact h1
    · rw [List.mem_singleton.mp hb]; exact h2
theorem app_take (D r : List UInt8) (x : ByteArray) (hx : x.data.toList = D ++ r) (j : Nat) (p : List UInt8) (hp : r.take j = p) : (x.extract 0 (D.length + j)).data.toList = D ++ p := by
  rw [ByteArray.data_extract, Array.toList_extract, hx]
  simp only [List.extract, List.drop_zero, Nat.sub_zero]
  rw [List.take_length_add_append, hp]
theorem item_j2 (K n cents : Nat) (xs : List ByteArray) (len i : Int) (N D : Int) (n' d' : Nat) (eN : N = n') (eD : D = d') (hc : cents ≤ 99) (hr : ratMk ((100 * n + cents : Nat) : Int) 100 = ((n' : Int), (d' : Int), 0)) (T : ByteArray) (hT : Item T n cents)
    (x : ByteArray) (hx : x.data.toList = T.data.toList ++ 46 :: [UInt8.ofNat (48 + cents / 10), UInt8.ofNat (48 + cents % 10)])
    (hnext : cohousinglaw07_LexerNumbers.l0 K (cents : Int) true 0 xs len (wrap64 (i + 1)) N D = some true) :
    cohousinglaw07_LexerNumbers.j2 (K + 1) (cents : Int) true 0 x [numT N D] xs len i false N D = some true := by
  have h9 := hT.len
  have hu : cents / 10 < 10 := by omega
  have hv : cents % 10 < 10 := by omega
  obtain ⟨_, v2, v1⟩ := three_vals T.data.toList n (cents / 10) (cents % 10) hT.dig hT.len hT.num hu hv
  have hpt := part46 (cents / 10) (cents % 10) hu hv
  have hsz : x.size = T.data.toList.length + 3 := by
    have : x.size = x.data.toList.length := rfl
    rw [this, hx, List.length_append]
    rfl
  generalize hL : T.data.toList.length = L at *
  have w1 : wrap64 ((x.size : Int) - 1) = ((L + 2 : Nat) : Int) := by rw [hsz]; unfold wrap64; omega
  have w3 : wrap64 ((x.size : Int) - 3) = ((L : Nat) : Int) := by rw [hsz]; unfold wrap64; omega
  have hm : Int.tmod (cents : Int) 10 = ((cents % 10 : Nat) : Int) := tmod_nat cents 10
  have x2 : cents % 10 = 0 → (x.extract 0 (L + 2)).data.toList = T.data.toList ++ 46 :: [UInt8.ofNat (48 + cents / 10)] := fun _ => by rw [← hL]; exact app_take _ _ x hx 2 _ rfl
  have x0 : (x.extract 0 L).data.toList = T.data.toList ++ [] := by
    have := app_take _ _ x hx 0 [] rfl
    rw [hL] at this
    exact this
  have l2 : cents % 10 = 0 → lexer_Lex.f (x.extract 0 (L + 2)) = some ([numT N D], 0, 0) := by
    intro h0
    have hb := (ratMk_back (100 * n + cents) 100 (10 * n + cents / 10) 10 n' d' (by decide) (by decide) hr (by
      obtain ⟨_, _, hxd⟩ := ratMk_facts (100 * n + cents) 100 n' d' (by decide) hr
      have e1 : 100 * n + cents = 10 * (10 * n + cents / 10) := by omega
      rw [e1] at hxd
      have : 10 * ((10 * n + cents / 10) * d') = 10 * (n' * 10) := by
        rw [← Nat.mul_assoc, hxd]
        omega
      exact Nat.eq_of_mul_eq_mul_left (by decide) this)).1
    have := lex_dig T n cents hT _ hpt.2 (by simp) N D 0 (by rw [v2, eN, eD]; exact hb) (x.extract 0 (L + 2)) (x2 h0)
    rw [if_pos rfl] at this
    exact this
  have l0' : cents = 0 → lexer_Lex.f (x.extract 0 L) = some ([numT N D], 0, 0) := by
    intro h0
    have hb := (ratMk_back (100 * n + cents) 100 n 1 n' d' (by decide) (by decide) hr (by
      obtain ⟨_, _, hxd⟩ := ratMk_facts (100 * n + cents) 100 n' d' (by decide) hr
      rw [h0, Nat.add_zero, Nat.mul_assoc, Nat.mul_comm n' 100] at hxd
      rw [Nat.mul_one]
      exact Nat.eq_of_mul_eq_mul_left (by decide) hxd)).1
    have := lex_dig T n cents hT [] (by simp) (by simp) N D 0 (by rw [List.append_nil, v1, eN, eD]; exact hb) (x.extract 0 L) x0
    rw [if_pos rfl] at this
    exact this
  have q1 : (0 : Int) ≤ ((L + 2 : Nat) : Int) := by clear w1 w3; omega
  have q2 : ((L + 2 : Nat) : Int) ≤ (x.size : Int) := by rw [hsz]; clear w1 w3; omega
  have q3 : (0 : Int) ≤ ((L : Nat) : Int) := by clear w1 w3; omega
  have q4 : ((L : Nat) : Int) ≤ (x.size : Int) := by rw [hsz]; clear w1 w3; omega
  rw [cohousinglaw07_LexerNumbers.j2, if_neg (by decide), hm]
  by_cases h10 : cents % 10 = 0
  · rw [if_pos (by rw [h10]; rfl), w1, if_pos q1, if_pos q2, Int.toNat_natCast, l2 h10, Option.bind_some]
    have e1 : (([numT N D].length : Nat) : Int) = 1 := rfl
    have e2 : (0 : Int) < (([numT N D].length : Nat) : Int) := show (0 : Int) < ((1 : Nat) : Int) by decide
    simp only
    by_cases h0 : cents = 0
    · have hz : (cents : Int) = 0 := by rw [h0]; rfl
      rw [if_pos trivial, if_pos trivial, if_pos e1, if_pos e2, if_pos e2, if_pos hz, w3, if_pos q3, if_pos q4, Int.toNat_natCast, l0' h0, Option.bind_some]
      simp only [rd_one, beq_self_eq_true, Bool.and_self, if_true]
      exact hnext
    · have hz : ¬ (cents : Int) = 0 := by omega
      rw [if_pos trivial, if_pos trivial, if_pos e1, if_pos e2, if_pos e2, if_neg hz]
      simp only [rd_one, beq_self_eq_true, Bool.and_self]
      exact hnext
  · have hz : ¬ (cents : Int) = 0 := by omega
    rw [if_neg (by omega), if_neg hz]
    exact hnext
theorem item_step (n cents : Nat) (hc : cents ≤ 99) (hn : n ≤ 999999999) (xs : List ByteArray) (i : Nat) (N D e : Int) (hr : ratMk ((100 * n + cents : Nat) : Int) 100 = (N, D, e)) (T : ByteArray) (hT : Item T n cents) (hi : i < xs.length) (hx : xs.length ≤ 2) (hrd : rdOf ByteArray.empty xs (i : Int) = T)
    (M : Nat) (hM : Big M) (hnext : ∀ K, M ≤ K → cohousinglaw07_LexerNumbers.l0 K (cents : Int) true e xs (xs.length : Int) ((i + 1 : Nat) : Int) N D = some true) (K2 : Nat) (hK2 : M + 2 ≤ K2) :
    cohousinglaw07_LexerNumbers.l0 K2 (cents : Int) true e xs (xs.length : Int) (i : Int) N D = some true := by
  obtain ⟨K, rfl, hKM⟩ : ∃ K, K2 = K + 2 ∧ M ≤ K := ⟨K2 - 2, by omega, by omega⟩
  have hK : Big K := by unfold Big at hM ⊢; omega
  have h9 := hT.len
  have hu : cents / 10 < 10 := by omega
  have hv : cents % 10 < 10 := by omega
  have hK1 : Big (K + 1) := by unfold Big at hK ⊢; omega
  obtain ⟨v3, _, _⟩ := three_vals T.data.toList n (cents / 10) (cents % 10) hT.dig hT.len hT.num hu hv
  rw [show 100 * n + 10 * (cents / 10) + cents % 10 = 100 * n + cents by omega, hr] at v3
  have hpt := part46 (cents / 10) (cents % 10) hu hv
  have d1 : cohousingref01_Digits.f (K + 1) (wrap64 (Int.tdiv (cents : Int) 10)) = some ⟨(Lib.decDigits (cents / 10)).toArray⟩ := by
    rw [show (10 : Int) = ((10 : Nat) : Int) from rfl, tdiv_nat, wrap_ok (by omega) (by omega)]
    exact ref_digits _ hK1 _ (by omega)
  have d2 : cohousingref01_Digits.f (K + 1) (Int.tmod (cents : Int) 10) = some ⟨(Lib.decDigits (cents % 10)).toArray⟩ := by
    rw [show (10 : Int) = ((10 : Nat) : Int) from rfl, tmod_nat]
    exact ref_digits _ hK1 _ (by omega)
  rw [dec_one _ hu] at d1
  rw [dec_one _ hv] at d2
  have hw : wrap64 ((i : Int) + 1) = ((i + 1 : Nat) : Int) := by unfold wrap64; omega
  have s1 : ∀ b : UInt8, (⟨[b].toArray⟩ : ByteArray).size = 1 := fun _ => rfl
  have hts : T.size = T.data.toList.length := rfl
  have q1 : (i : Int) < (xs.length : Int) := by clear hw; omega
  have q2 : (0 : Int) ≤ (i : Int) := by clear hw; omega
  have q3 : T.size + (1 + 1 + 1) ≤ 9223372036854775807 := by clear hw; omega
  generalize hxx : T ++ ((⟨#[46]⟩ : ByteArray) ++ (⟨[UInt8.ofNat (48 + cents / 10)].toArray⟩ : ByteArray) ++ (⟨[UInt8.ofNat (48 + cents % 10)].toArray⟩ : ByteArray)) = x
  have hxl : x.data.toList = T.data.toList ++ 46 :: [UInt8.ofNat (48 + cents / 10), UInt8.ofNat (48 + cents % 10)] := by
    rw [← hxx, ByteArray.data_append, ByteArray.data_append, ByteArray.data_append, Array.toList_append, Array.toList_append, Array.toList_append]
    rfl
  have hl := lex_dig T n cents hT _ hpt.1 (by simp) N D e v3 x hxl
  have hnx := hnext (K + 1) (by omega)
  rw [show K + 2 = (K + 1) + 1 by rfl, cohousinglaw07_LexerNumbers.l0, if_pos q1, if_pos q2, if_pos q1, d1, Option.bind_some, s1, if_pos (by decide), d2, Option.bind_some, s1, if_pos (by decide), hrd, if_pos q3, hxx, hl, Option.bind_some]
  by_cases h0 : e = 0
  · subst h0
    obtain ⟨n', d', eN, eD, er⟩ := key_nat N D (100 * n + cents) 2 hr
    have e1 : (([numT N D].length : Nat) : Int) = 1 := rfl
    have e2 : (0 : Int) < (([numT N D].length : Nat) : Int) := show (0 : Int) < ((1 : Nat) : Int) by decide
    simp only
    rw [if_pos trivial, if_pos trivial, if_pos e1, if_pos e2]
    have e3 : (!((rd_T32 [numT N D] 0).f0 == 2) || (!((rd_T32 [numT N D] 0).f1 == 0) || (!((rd_T32 [numT N D] 0).f2.toList == ([] : List UInt8)) || (!((rd_T32 [numT N D] 0).f3.f0 == N) || !((rd_T32 [numT N D] 0).f3.f1 == D))))) = false := by
      rw [rd_one]
      simp [numT, ba_toList]
    rw [e3]
    exact item_j2 K n cents xs _ _ N D n' d' eN eD hc er T hT x hxl (by rw [hw]; exact hnext K hKM)
  · have he : e = 3 := by
      have := hr
      rw [show (100 : Int) = ((100 : Nat) : Int) from rfl, ratMk_nat _ 100 (by decide)] at this
      split at this
      · exact (congrArg (fun q : Int × Int × Int => q.2.2) this).symm
      · exact absurd (congrArg (fun q : Int × Int × Int => q.2.2) this).symm h0
    rw [if_neg h0, if_neg h0, if_pos rfl, if_pos he, hw]
    exact hnx
theorem j0_true (k : Nat) (x0 x1 x2 : Int) : cohousinglaw07_LexerNumbers.j0 (k + 1) x0 x1 x2 true true = some true := by
  rw [cohousinglaw07_LexerNumbers.j0, if_pos rfl, if_pos rfl]
theorem LexerNumbers : ∀ (a0 : Int) (a1 : Int) (a2 : Int), (Lit.int .i64 a0).wf = true → (Lit.int .i64 a1).wf = true → (Lit.int .i64 a2).wf = true → ∃ k, cohousinglaw07_LexerNumbers.f k a0 a1 a2 = some true := by
  intro a0 a1 a2 h0 h1 h2
  obtain ⟨K, hK⟩ : ∃ K : Nat, Big K := ⟨_, Nat.le_refl _⟩
  refine ⟨K + 6, ?_⟩
  unfold cohousinglaw07_LexerNumbers.f
  rw [head_ok, Option.bind_some]
  by_cases c1 : a0 < 0
  · rw [if_pos c1]; exact j0_true _ _ _ _
  rw [if_neg c1]
  by_cases c2 : a0 > 999999999
  · rw [if_pos c2]; exact j0_true _ _ _ _
  rw [if_neg c2]
  by_cases c3 : a1 < 0
  · rw [if_pos c3]; exact j0_true _ _ _ _
  rw [if_neg c3]
  by_cases c4 : a1 > 99
  · rw [if_pos c4]; exact j0_true _ _ _ _
  rw [if_neg c4]
  by_cases c5 : a2 < 0
  · rw [if_pos c5]; exact j0_true _ _ _ _
  rw [if_neg c5]
  by_cases c6 : a2 > 8
  · rw [decide_eq_true c6]; exact j0_true _ _ _ _
  rw [decide_eq_false c6]
  clear h0 h1 h2
  obtain ⟨n, rfl⟩ : ∃ n : Nat, a0 = n := ⟨a0.toNat, by omega⟩
  obtain ⟨cents, rfl⟩ : ∃ c : Nat, a1 = c := ⟨a1.toNat, by omega⟩
  obtain ⟨z, rfl⟩ : ∃ z : Nat, a2 = z := ⟨a2.toNat, by omega⟩
  have hn : n ≤ 999999999 := by omega
  have hc : cents ≤ 99 := by omega
  have hz : z ≤ 8 := by omega
  clear c1 c2 c3 c4 c5 c6
  have hB : ∀ j, Big (K + j) := fun j => by unfold Big at hK ⊢; omega
  have hd := ref_digits (K + 5) (hB 5) n (by omega)
  have hl9 := dec_length 8 n (by omega)
  have hmk := ref_make (K + 5) (hB 5) ((100 * n + cents : Nat) : Int) 100 (by unfold inI64; omega) (by unfold inI64; omega)
  have hw1 : wrap64 (100 * (n : Int)) = ((100 * n : Nat) : Int) := by rw [wrap_ok (by omega) (by omega)]; omega
  have hw2 : wrap64 (((100 * n : Nat) : Int) + (cents : Int)) = ((100 * n + cents : Nat) : Int) := by rw [wrap_ok (by omega) (by omega)]; omega
  have sz : (⟨(Lib.decDigits n).toArray⟩ : ByteArray).size = (Lib.decDigits n).length := rfl
  have hw3 : wrap64 (9 - ((Lib.decDigits n).length : Int)) = 9 - ((Lib.decDigits n).length : Int) := wrap_ok (by omega) (by omega)
  obtain ⟨m, hm8, hm⟩ : ∃ m : Nat, m + (Lib.decDigits n).length ≤ 9 ∧ m ≤ 8 ∧ mn (z : Int) (9 - ((Lib.decDigits n).length : Int)) = (m : Int) := by
    unfold mn
    split
    · exact ⟨9 - (Lib.decDigits n).length, by clear hw1 hw2 hw3; omega, by clear hw1 hw2 hw3; omega, by clear hw1 hw2 hw3; omega⟩
    · exact ⟨z, by clear hw1 hw2 hw3; omega, hz, rfl⟩
  obtain ⟨hm9, hmn⟩ := hm
  rw [show K + 6 = (K + 5) + 1 by rfl, cohousinglaw07_LexerNumbers.j0, if_neg (by decide), hd, Option.bind_some, sz, hw3, hmn, if_pos (by clear hw1 hw2 hw3; omega), if_pos (by clear hw1 hw2 hw3; omega), Int.toNat_natCast, if_pos (by clear hw1 hw2 hw3; omega), hw1, hw2, hmk, Option.bind_some, Option.bind_some]
  clear hw1 hw2 hw3
  obtain ⟨⟨N, D, e⟩, hr⟩ : ∃ q, ratMk ((100 * n + cents : Nat) : Int) 100 = q := ⟨_, rfl⟩
  rw [hr]
  simp only
  generalize hF : (⟨#[48, 48, 48, 48, 48, 48, 48, 48]⟩ : ByteArray).extract 0 m ++ (⟨(Lib.decDigits n).toArray⟩ : ByteArray) = F
  have hFl : F.data.toList = (List.replicate 8 48).take m ++ Lib.decDigits n := by
    rw [← hF, ByteArray.data_append, Array.toList_append, ByteArray.data_extract, Array.toList_extract]
    rfl
  have h48 : ∀ b ∈ (List.replicate 8 (48 : UInt8)).take m, b = 48 := fun b hb => List.eq_of_mem_replicate (List.mem_of_mem_take hb)
  have i0 : Item (⟨(Lib.decDigits n).toArray⟩ : ByteArray) n cents := ⟨dec_isdig n, dec_num n, hl9, dec_ne n⟩
  have i1 : Item F n cents := by
    refine ⟨?_, ?_, ?_, ?_⟩
    · intro c hcc
      rw [hFl] at hcc
      rcases List.mem_append.mp hcc with h | h
      · rw [h48 c h]; decide
      · exact dec_isdig n c h
    · rw [hFl, numOf_app, zer _ h48, dec_num]
    · rw [hFl, List.length_append, List.length_take, List.length_replicate]
      omega
    · rw [hFl]
      intro he
      exact dec_ne n (List.append_eq_nil_iff.mp he).2
  have n2 : ∀ k, K ≤ k → cohousinglaw07_LexerNumbers.l0 k (cents : Int) true e [(⟨(Lib.decDigits n).toArray⟩ : ByteArray), F] ((2 : Nat) : Int) ((1 + 1 : Nat) : Int) N D = some true := by
    intro k hk
    obtain ⟨k', rfl⟩ : ∃ k', k = k' + 1 := ⟨k - 1, by unfold Big at hK; omega⟩
    rw [cohousinglaw07_LexerNumbers.l0, if_neg (by decide), if_pos rfl]
  have n1 := item_step n cents hc hn [(⟨(Lib.decDigits n).toArray⟩ : ByteArray), F] 1 N D e hr F i1 (by simp) (by simp) rfl K hK n2
  have n0 := item_step n cents hc hn [(⟨(Lib.decDigits n).toArray⟩ : ByteArray), F] 0 N D e hr ⟨(Lib.decDigits n).toArray⟩ i0 (by simp) (by simp) rfl (K + 2) (hB 2) n1
  exact n0 (K + 5) (by omega)
end Go.Proofs.YtmpjoaljincclaaDoor.Pure

