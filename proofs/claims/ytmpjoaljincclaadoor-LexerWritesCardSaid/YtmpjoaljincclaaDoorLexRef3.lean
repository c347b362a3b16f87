/- The reference's Next and Lex are the program's. -/
import Derived.Test.YtmpjoaljincclaaDoorXx9
import Derived.Test.YtmpjoaljincclaaDoorLexPure
import Derived.Test.YtmpjoaljincclaaDoorLexRef2
namespace Go.Proofs.YtmpjoaljincclaaDoor.Pure
open Go.RowKit Go.Proofs.YtmpjoaljincclaaDoor.X Go.Proofs.YtmpjoaljincclaaDoorW.PrintWords

theorem partLen_cons (num : Bool) (b : UInt8) (r : List UInt8) : partLen num (b :: r) = if partB num b then partLen num r + 1 else 0 := by
  unfold partLen
  rw [List.takeWhile_cons]
  split <;> simp
theorem next_l0 (s : ByteArray) (hs : s.size ≤ 100000) (num : Bool) (i : Nat) : ∀ (m n k : Nat), s.size - (i + n) ≤ m → i + n ≤ s.size →
    cohousingref07_Next.l0 (k + partLen num (s.data.toList.drop (i + n)) + 1) s (i : Int) num (n : Int) = cohousingref07_Next.j2 k s (i : Int) num ((n + partLen num (s.data.toList.drop (i + n)) : Nat) : Int) := by
  intro m
  induction m with
  | zero =>
    intro n k h1 h2
    have hw : wrap64 ((i : Int) + (n : Int)) = ((i + n : Nat) : Int) := by unfold wrap64; omega
    have e : partLen num (s.data.toList.drop (i + n)) = 0 := by rw [List.drop_of_length_le (by simp; omega)]; rfl
    rw [e, cohousingref07_Next.l0, hw, if_neg (by omega)]
    rfl
  | succ m ih =>
    intro n k h1 h2
    have hw : wrap64 ((i : Int) + (n : Int)) = ((i + n : Nat) : Int) := by unfold wrap64; omega
    by_cases hlt : i + n < s.size
    · have hw1 : wrap64 ((n : Int) + 1) = ((n + 1 : Nat) : Int) := by unfold wrap64; omega
      rw [drop_cons s (i + n) hlt, partLen_cons]
      have hstep : ∀ K : Nat, cohousingref07_Next.l0 (K + 1) s (i : Int) num (n : Int) = if partB num s[i + n] = true then cohousingref07_Next.l0 K s (i : Int) num ((n + 1 : Nat) : Int) else cohousingref07_Next.j2 K s (i : Int) num (n : Int) := by
        intro K
        rw [cohousingref07_Next.l0, hw, if_pos (by omega), if_pos (by omega), bt_nat s (i + n) hlt, ref_part, Option.bind_some, hw1]
      rw [hstep]
      by_cases hb : partB num s[i + n] = true
      · rw [if_pos hb, if_pos hb]
        have := ih (n + 1) k (by omega) (by omega)
        rw [show i + (n + 1) = i + n + 1 by omega] at this
        rw [show k + (partLen num (s.data.toList.drop (i + n + 1)) + 1) = k + partLen num (s.data.toList.drop (i + n + 1)) + 1 by omega, this]
        congr 2
        omega
      · rw [if_neg hb, if_neg hb]
        rfl
    · have e : partLen num (s.data.toList.drop (i + n)) = 0 := by rw [List.drop_of_length_le (by simp; omega)]; rfl
      rw [e, cohousingref07_Next.l0, hw, if_neg (by omega)]
      rfl
/-- What Next returns. -/
def nextT (r : Int × Nat × Tok) (i : Nat) : Int × Int × ByteArray × Int × Int × Int × Int :=
  if r.1 = 0 then (r.2.2.f0, r.2.2.f1, r.2.2.f2, r.2.2.f3.f0, r.2.2.f3.f1, ((r.2.1 - i : Nat) : Int), 0) else (0, 0, ⟨#[]⟩, 0, 0, 0, r.1)
theorem ref_next (s : ByteArray) (hs : s.size ≤ 8000) (i : Nat) (hi : i < s.size) (k : Nat) (hk : 20000000000000200000 ≤ k) : cohousingref07_Next.f k s (i : Int) = some (nextT (tokF s i) i) := by
  have hdl : (s.data.toList.drop i).length = s.size - i := by simp
  obtain ⟨k', rfl⟩ : ∃ k', k = k' + 1 := ⟨k - 1, by omega⟩
  have hl0 : ∀ num K, 10000 ≤ K → ∃ K', K = K' + partLen num (s.data.toList.drop i) + 1 + 1 := by
    intro num K hK
    have := partLen_len num (s.data.toList.drop i)
    exact ⟨K - partLen num (s.data.toList.drop i) - 2, by omega⟩
  unfold cohousingref07_Next.f
  rw [if_pos (by omega), if_pos (by omega), bt_nat s i hi, ref_digit, Option.bind_some, ref_letter, Option.bind_some]
  have hd := drop_cons s i hi
  by_cases h1 : isDigit s[i] = true
  · obtain ⟨K, hK⟩ := hl0 true k' (by omega)
    have hp := partLen_pos true s[i] (s.data.toList.drop (i + 1)) (part_digit _ _ h1)
    have hle := partLen_len true (s.data.toList.drop i)
    have hn := next_l0 s (by omega) true i s.size 0 (K + 1) (by omega) (by omega)
    rw [show i + 0 = i from rfl, Nat.zero_add] at hn
    rw [← hd] at hp
    have ht : tokF s i = ((valF (s.extract i (i + partLen true (s.data.toList.drop i)))).2.2, i + partLen true (s.data.toList.drop i), ⟨2, i, ⟨#[]⟩, ⟨(valF (s.extract i (i + partLen true (s.data.toList.drop i)))).1, (valF (s.extract i (i + partLen true (s.data.toList.drop i)))).2.1⟩⟩) := by
      unfold tokF
      rw [hd]
      simp only
      rw [if_pos h1]
    rw [ht, if_pos h1, h1, cohousingref07_Next.j0, if_neg (by decide), show k' = K + 1 + partLen true (s.data.toList.drop i) + 1 by omega, show ((0 : Int)) = ((0 : Nat) : Int) from rfl, hn]
    generalize hW : partLen true (s.data.toList.drop i) = W at *
    have hw : wrap64 ((i : Int) + (W : Int)) = ((i + W : Nat) : Int) := by unfold wrap64; omega
    have hesz : (s.extract i (i + W)).size = W := by simp; omega
    have hv := ref_value (s.extract i (i + W)) (by omega) (by omega) (by simp only [ByteArray.getElem_extract, Nat.add_zero]; exact h1) K (by omega)
    rw [cohousingref07_Next.j2, if_pos rfl, if_pos (by omega), hw, if_pos (by omega), if_pos (by omega), Int.toNat_natCast, Int.toNat_natCast, hv, Option.bind_some]
    unfold nextT
    simp only
    by_cases hz : (valF (s.extract i (i + W))).2.2 = 0
    · rw [if_pos hz, if_pos hz, show i + W - i = W by omega]
    · rw [if_neg hz, if_neg hz]
  · have h1f : isDigit s[i] = false := by simpa using h1
    rw [if_neg h1, h1f]
    by_cases h2 : isLetter s[i] = true
    · obtain ⟨K, hK⟩ := hl0 false k' (by omega)
      have hp := partLen_pos false s[i] (s.data.toList.drop (i + 1)) (part_letter _ _ h2)
      have hle := partLen_len false (s.data.toList.drop i)
      have hn := next_l0 s (by omega) false i s.size 0 (K + 1) (by omega) (by omega)
      rw [show i + 0 = i from rfl, Nat.zero_add] at hn
      rw [← hd] at hp
      have ht : tokF s i = (if 16 < partLen false (s.data.toList.drop i) then 2 else 0, i + partLen false (s.data.toList.drop i), ⟨1, i, s.extract i (i + partLen false (s.data.toList.drop i)), ⟨0, 0⟩⟩) := by
        unfold tokF
        rw [hd]
        simp only
        rw [if_neg h1, if_pos h2]
      rw [ht, h2, cohousingref07_Next.j0, if_neg (by decide), show k' = K + 1 + partLen false (s.data.toList.drop i) + 1 by omega, show ((0 : Int)) = ((0 : Nat) : Int) from rfl, hn]
      generalize hW : partLen false (s.data.toList.drop i) = W at *
      have hw : wrap64 ((i : Int) + (W : Int)) = ((i + W : Nat) : Int) := by unfold wrap64; omega
      rw [cohousingref07_Next.j2, if_neg (by decide)]
      unfold nextT
      simp only
      by_cases hz : 16 < W
      · rw [if_pos (by omega), if_pos hz, if_neg (by decide)]
      · rw [if_neg (by omega), if_pos (by omega), hw, if_pos (by omega), if_pos (by omega), Int.toNat_natCast, Int.toNat_natCast, if_neg hz, if_pos (show ((0 : Nat) : Int) = 0 from rfl), show i + W - i = W by omega]
        rfl
    · have h2f : isLetter s[i] = false := by simpa using h2
      have hle := signN_le (s.data.toList.drop i)
      have ht : tokF s i = (if signN (s.data.toList.drop i) = 0 then 10 else 0, i + signN (s.data.toList.drop i), ⟨3, i, s.extract i (i + signN (s.data.toList.drop i)), ⟨0, 0⟩⟩) := by
        unfold tokF
        rw [hd]
        simp only
        rw [if_neg h1, if_neg h2]
      rw [ht, h2f, cohousingref07_Next.j0, if_pos (by decide), if_pos (by omega), if_pos (by omega), Int.toNat_natCast, ref_sign s i k' hi (by omega), Option.bind_some]
      generalize hW : signN (s.data.toList.drop i) = W at *
      have hw : wrap64 ((i : Int) + (W : Int)) = ((i + W : Nat) : Int) := by unfold wrap64; omega
      unfold nextT
      simp only
      by_cases hz : W = 0
      · rw [if_pos (by omega), if_pos hz, if_neg (by decide)]
      · rw [if_neg (by omega), hw, if_pos (by omega), if_pos (by omega), Int.toNat_natCast, if_neg hz, if_pos rfl, show i + W - i = W by omega]
theorem ref_skip' (s : ByteArray) (hs : s.size ≤ 100000) (i k : Nat) (hi : i ≤ s.size) (hk : 200001 ≤ k) : cohousingref07_Skip.f k s (i : Int) = some ((skipTo s i : Nat) : Int) := ref_skip s hs i k hi hk
theorem ref_lex_loop (s : ByteArray) (hs : s.size ≤ 8000) : ∀ (m i : Nat) (l : List Tok) (k : Nat), i ≤ s.size → s.size - i < m → l.length ≤ 2000 → 20000000000000200000 ≤ k → cohousingref07_Lex.l0 (k + m) s l (i : Int) = some (lexLoop s m i l)
  | 0, i, l, k, _, h, _, _ => by omega
  | m + 1, i, l, k, hi, hm, hl, hk => by
    rw [show k + (m + 1) = (k + m) + 1 by omega, cohousingref07_Lex.l0, lexLoop]
    by_cases hlt : i < s.size
    · rw [if_pos (show (i : Int) < (s.size : Int) by omega), if_pos hlt]
      by_cases h2 : l.length = 2000
      · rw [if_pos (by omega), if_pos h2]
      · rw [if_neg (by omega), if_neg h2, ref_next s hs i hlt (k + m) (by omega), Option.bind_some]
        unfold nextT
        by_cases h0 : (tokF s i).1 = 0
        · have he := tokF_end s i hlt h0
          have hsk := skipTo_le s (tokF s i).2.1 he.2
          have hw : wrap64 ((i : Int) + (((tokF s i).2.1 - i : Nat) : Int)) = ((tokF s i).2.1 : Int) := by unfold wrap64; omega
          rw [if_pos h0, if_pos h0]
          simp only
          rw [if_pos trivial, if_pos (by omega), hw, ref_skip' s (by omega) _ (k + m) he.2 (by omega), Option.bind_some]
          exact ref_lex_loop s hs m _ _ k hsk.2 (by omega) (by rw [List.length_append]; simp; omega) hk
        · rw [if_neg h0, if_neg h0]
          simp only
          rw [if_neg h0]
    · rw [if_neg (by omega), if_neg hlt]
theorem ref_lex (s : ByteArray) (k : Nat) (hk : 20000000000000300000 ≤ k) : cohousingref07_Lex.f k s = some (lexF s) := by
  unfold cohousingref07_Lex.f lexF
  by_cases h8 : 8000 < s.size
  · rw [if_pos (by omega), if_pos h8]
  · rw [if_neg (by omega), if_neg h8]
    have hsk := skipTo_le s 0 (by omega)
    have hr := ref_skip' s (by omega) 0 k (by omega) (by omega)
    rw [show ((0 : Nat) : Int) = 0 from rfl] at hr
    rw [hr, Option.bind_some]
    obtain ⟨k', rfl⟩ : ∃ k', k = k' + (s.size + 1) := ⟨k - (s.size + 1), by omega⟩
    exact ref_lex_loop s (by omega) (s.size + 1) _ [] k' hsk.2 (by omega) (by simp) (by omega)
theorem sameL_self : ∀ l : List Tok, (∀ t ∈ l, -9223372036854775808 ≤ t.f1 ∧ t.f1 ≤ 9223372036854775807) → sameL 0 l l = true
  | [], _ => rfl
  | t :: l, h => by
    rw [sameL, sameL_self l (fun x hx => h x (List.mem_cons_of_mem _ hx)), Bool.and_true]
    have ht := h t List.mem_cons_self
    have hw : wrap64 (t.f1 + 0) = t.f1 := by rw [Int.add_zero]; exact wrap_ok ht.1 ht.2
    unfold sameT
    rw [hw]
    simp
/-- The offsets of a run lie in the text. -/
theorem run_at {l : List UInt8} {o : Nat} {ts : List Tok} {l' : List UInt8} {o' : Nat} (h : Run l o ts l' o') : ∀ t ∈ ts, (o : Int) ≤ t.f1 ∧ t.f1 ≤ (o' : Int) := by
  induction h with
  | nil => intro t ht; simp at ht
  | cons h h0 hr ih =>
    rename_i l o ts l' o'
    intro t ht
    have hd := run_drop hr
    rcases List.mem_cons.mp ht with rfl | ht
    · have : ∀ a : Int, ((tokL (past l)).2.2 a).f1 = a := by
        intro a
        cases e : past l with
        | nil => exact absurd e h
        | cons c r =>
          unfold tokL
          simp only
          split
          · rfl
          · split <;> rfl
      rw [this]
      omega
    · have := ih t ht
      omega
theorem lexF_len (s : ByteArray) : (lexF s).1.length ≤ 2000 ∧ ∀ t ∈ (lexF s).1, 0 ≤ t.f1 ∧ t.f1 ≤ 8000 := by
  by_cases h8 : 8000 < s.size
  · unfold lexF
    rw [if_pos h8]
    exact ⟨by simp, by simp⟩
  · obtain ⟨ts, l', o', hr, hc⟩ := lex_run s (by omega)
    have hl := run_len hr
    have ha := run_at hr
    have hL : s.data.toList.length = s.size := by simp
    rcases hc with ⟨_, h2, h3⟩ | ⟨_, _, h3⟩ | ⟨_, _, _, h3⟩
    · rw [h3]
      refine ⟨h2, fun t ht => ?_⟩
      have := ha t ht
      omega
    · rw [h3]; exact ⟨by simp, by simp⟩
    · rw [h3]; exact ⟨by simp, by simp⟩
end Go.Proofs.YtmpjoaljincclaaDoor.Pure

