/- LexerOffsets: no Go and no memory in it. -/
import Derived.Test.YtmpjoaljincclaaDoorXx10
import Derived.Test.YtmpjoaljincclaaDoorLexRef3
import Derived.Test.YtmpjoaljincclaaDoorLexPure2
import Derived.Test.YtmpjoaljincclaaDoorLexHead
namespace Go.Proofs.YtmpjoaljincclaaDoor.Pure
open Go.RowKit Go.Proofs.YtmpjoaljincclaaDoor.X Go.Proofs.YtmpjoaljincclaaDoorW.PrintWords

theorem tok_f1 (l : List UInt8) (h : l ≠ []) (a : Int) : ((tokL l).2.2 a).f1 = a := by
  cases l with
  | nil => exact absurd rfl h
  | cons c r =>
    unfold tokL
    simp only
    split
    · rfl
    · split <;> rfl
theorem length_ok (s : ByteArray) (hs : s.size ≤ 8000) (i : Nat) (hi : i < s.size) (h0 : (tokL (s.data.toList.drop i)).1 = 0) (k : Nat) (hk : 20000000000000300000 ≤ k) (t : Tok) (ht : t = (tokL (s.data.toList.drop i)).2.2 (i : Int)) :
    cohousinglaw07_length.f k s t.f0 t.f1 t.f2 t.f3.f0 t.f3.f1 = some ((tokL (s.data.toList.drop i)).2.1 : Int) := by
  have hne : s.data.toList.drop i ≠ [] := by rw [drop_cons s i hi]; simp
  have h1 : t.f1 = (i : Int) := by rw [ht]; exact tok_f1 _ hne _
  obtain ⟨k', rfl⟩ : ∃ k', k = k' + 1 := ⟨k - 1, by omega⟩
  have hn := ref_next s hs i hi k' (by omega)
  rw [tokF_eq s i hi, ← ht] at hn
  unfold nextT at hn
  rw [if_pos h0] at hn
  simp only at hn
  rw [show i + (tokL (s.data.toList.drop i)).2.1 - i = (tokL (s.data.toList.drop i)).2.1 by omega] at hn
  unfold cohousinglaw07_length.f
  rw [h1, if_neg (by omega), decide_eq_false (by omega), cohousinglaw07_length.j0, if_neg (by decide), hn, Option.bind_some]
  simp [h1]
theorem rd_cons (all : List Tok) (j : Nat) (t : Tok) (ts : List Tok) (h : all.drop j = t :: ts) : j < all.length ∧ rd_T32 all (j : Int) = t ∧ all.drop (j + 1) = ts := by
  have hj : j < all.length := by
    rcases Nat.lt_or_ge j all.length with h1 | h1
    · exact h1
    · rw [List.drop_of_length_le h1] at h; simp at h
  have e := List.drop_eq_getElem_cons hj
  rw [h] at e
  injection e with e1 e2
  refine ⟨hj, ?_, e2.symm⟩
  rw [e1]
  unfold rd_T32
  simp [hj]
theorem skip_front (s : ByteArray) (i m : Nat) (hm : m = skipN false (s.data.toList.drop i)) (hs : i + m ≤ s.size) : skipTo (s.extract 0 (i + m)) i = i + m := by
  unfold skipTo
  have e : (s.extract 0 (i + m)).data.toList.drop i = (s.data.toList.drop i).take m := by
    rw [ByteArray.data_extract, Array.toList_extract]
    simp only [List.extract, List.drop_zero, Nat.sub_zero]
    rw [List.drop_take]
    congr 1
    omega
  have hl : ((s.data.toList.drop i).take m).length = m := by
    rw [List.length_take, List.length_drop]
    have : s.data.toList.length = s.size := by simp
    omega
  have := skip_part false ((s.data.toList.drop i).take m) ((s.data.toList.drop i).drop m) (by rw [List.take_append_drop, hl]; omega)
  rw [e, this, hl]
theorem off_loop (s : ByteArray) (hs : s.size ≤ 8000) (all : List Tok) (hall : all.length ≤ 2000) {l : List UInt8} {o : Nat} {ts : List Tok} {l' : List UInt8} {o' : Nat} (h : Run l o ts l' o') : l' = [] → l = s.data.toList.drop o → o ≤ s.size → ∀ (j k : Nat), all.drop j = ts → j + ts.length = all.length → 20000000000000300000 ≤ k →
    cohousinglaw07_LexerOffsets.l0 (k + ts.length + 1) s true all (o : Int) all (all.length : Int) (j : Int) = some true := by
  have hL : s.data.toList.length = s.size := by simp
  induction h with
  | nil =>
    rename_i l o
    intro h1 h2 ho j k hj hjl hk
    have hp := past_len l
    rw [h1, h2, List.length_drop, List.length_nil] at hp
    have hsk : skipTo s o = s.size := by unfold skipTo; omega
    rw [List.length_nil, cohousinglaw07_LexerOffsets.l0, if_neg (by rw [List.length_nil] at hjl; omega), if_pos rfl, ref_skip' s (by omega) o _ ho (by omega), Option.bind_some, hsk, if_pos rfl, if_pos (by omega)]
  | cons h h0 hr ih =>
    rename_i l o ts l' o'
    intro h1 h2 ho j k hj hjl hk
    obtain ⟨hjlt, hrd, hdr⟩ := rd_cons all j _ _ hj
    have hp := past_len l
    have hlen := tokL_len _ h h0
    have hpp : past l = s.data.toList.drop (o + skipN false l) := by
      unfold past
      rw [h2, List.drop_drop]
    have hll : l.length = s.size - o := by rw [h2, List.length_drop, hL]
    have hat : o + skipN false l < s.size := by
      have : 0 < (past l).length := List.length_pos_iff.mpr h
      omega
    rw [hpp] at h0 hlen hrd ih
    have hne : s.data.toList.drop (o + skipN false l) ≠ [] := by rw [← hpp]; exact h
    rw [List.length_cons] at hjl
    have hlenok := length_ok s hs (o + skipN false l) hat h0 (k + ts.length + 1) (by omega) _ rfl
    have hf1 := tok_f1 _ hne (((o + skipN false l : Nat)) : Int)
    have hfr := skip_front s o (skipN false l) (by rw [h2]) (by omega)
    have hsk := ref_skip' (s.extract 0 (o + skipN false l)) (by rw [ByteArray.size_extract]; omega) o (k + ts.length + 1) (by rw [ByteArray.size_extract]; omega) (by omega)
    rw [hfr] at hsk
    rw [List.length_drop, hL] at hlen
    generalize hT : (tokL (s.data.toList.drop (o + skipN false l))).2.2 (((o + skipN false l : Nat)) : Int) = T at *
    generalize hN : (tokL (s.data.toList.drop (o + skipN false l))).2.1 = n at *
    have hih := ih h1 (by rw [List.drop_drop]) (by omega) (j + 1) k hdr (by omega) hk
    clear ih
    have q1 : (j : Int) < (all.length : Int) := by omega
    have q2 : (0 : Int) ≤ (j : Int) := by omega
    have q3 : ¬ ((n : Int) < 1) := by omega
    generalize hat2 : o + skipN false l = at2 at *
    have q4 : ¬ ((at2 : Int) < (o : Int)) := by omega
    have q5 : (0 : Int) ≤ (at2 : Int) := by omega
    have q6 : (at2 : Int) ≤ (s.size : Int) := by omega
    have hw : wrap64 ((j : Int) + 1) = ((j + 1 : Nat) : Int) := by clear hsk hlenok hih; unfold wrap64; omega
    have hw2 : wrap64 ((at2 : Int) + (n : Int)) = ((at2 + n : Nat) : Int) := by clear hsk hlenok hih hw; unfold wrap64; omega
    have hk1 : k + (ts.length + 1) + 1 = (k + ts.length + 1) + 1 := by rfl
    rw [List.length_cons, hk1, cohousinglaw07_LexerOffsets.l0, if_pos q1, if_pos q2, if_pos q1, hrd, hlenok, Option.bind_some, if_neg q3, hf1, if_neg q4, if_pos q5, if_pos q6, Int.toNat_natCast, hsk, Option.bind_some, if_pos rfl, hw, hw2]
    exact hih
theorem LexerOffsets : ∀ (a0 : ByteArray), a0.size ≤ 140737488351232 → ∃ k, cohousinglaw07_LexerOffsets.f k a0 = some true := by
  intro s _
  obtain ⟨K, hK⟩ : ∃ K : Nat, 20000000000000300000 ≤ K := ⟨_, Nat.le_refl _⟩
  refine ⟨K + (lexF s).1.length + 1, ?_⟩
  unfold cohousinglaw07_LexerOffsets.f
  rw [head_ok, Option.bind_some, if_pos rfl, show lexer_Lex.f s = some (lexF s) from rfl, Option.bind_some]
  by_cases h8 : 8000 < s.size
  · have e : lexF s = ([], 2, 0) := by unfold lexF; rw [if_pos h8]
    rw [e]
    rfl
  · obtain ⟨ts, l', o', hr, hc⟩ := lex_run s (by omega)
    rcases hc with ⟨h1, h2, e⟩ | ⟨_, _, e⟩ | ⟨_, _, herr, e⟩
    · rw [e]
      simp only
      rw [if_pos trivial]
      have := off_loop s (by omega) ts h2 hr h1 (by rw [List.drop_zero]) (by omega) 0 K (by rw [List.drop_zero]) (by omega) hK
      exact this
    · rw [e]
      rfl
    · rw [e]
      simp only
      rw [if_neg herr]
      rfl
end Go.Proofs.YtmpjoaljincclaaDoor.Pure

