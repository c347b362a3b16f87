/- LexerWrites: no Go and no memory in it. -/
import Derived.Test.YtmpjoaljincclaaDoorXx10
import Derived.Test.YtmpjoaljincclaaDoorRefDigits
import Derived.Test.YtmpjoaljincclaaDoorLexRef3
namespace Go.Proofs.YtmpjoaljincclaaDoor.Pure
open Go.RowKit Go.Proofs.YtmpjoaljincclaaDoor.X Go.Proofs.YtmpjoaljincclaaDoorW.PrintWords

theorem ba_list {a b : ByteArray} (h : a.data.toList = b.data.toList) : a = b := by rw [← ba_inj, ba_toList, ba_toList, h]
theorem tdiv_nat (a b : Nat) : Int.tdiv (a : Int) (b : Int) = ((a / b : Nat) : Int) := (Int.ofNat_tdiv a b).symm
theorem tmod_nat (a b : Nat) : Int.tmod (a : Int) (b : Int) = ((a % b : Nat) : Int) := (Int.ofNat_tmod a b).symm
theorem ref_write (k : Nat) (hk : Big k) (t : Tok) (h : OkT t) (o : Int) : cohousingref07_Write.f k t.f0 o t.f2 t.f3.f0 t.f3.f1 = some ⟨(wr t).toArray⟩ := by
  by_cases h2 : t.f0 = 2
  · obtain ⟨n, d, e0, e1, hd, hdv, hnd⟩ := h.2.1 h2
    have hw : wr t = wtext n d := by
      unfold wr
      rw [if_pos h2, e0, e1, Int.toNat_natCast, Int.toNat_natCast]
    rw [hw, e0, e1]
    have hd100 : d ≤ 100 := Nat.le_of_dvd (by decide) hdv
    unfold cohousingref07_Write.f
    rw [if_pos h2]
    by_cases h1 : d = 1
    · subst h1
      rw [if_pos (by decide), ref_digits k hk n (by omega), Option.bind_some]
      unfold wtext
      rw [if_pos rfl]
    · rw [if_neg (by omega), if_neg (by omega)]
      have hq : Int.tdiv (100 : Int) (d : Int) = ((100 / d : Nat) : Int) := tdiv_nat 100 d
      have hq1 : 100 / d ≤ 100 := Nat.div_le_self _ _
      have hH : n * (100 / d) < 100000000000 := by
        have h3 := dvd100 d hdv
        have h4 : 0 < 100 / d := Nat.div_pos hd100 hd
        have : n * (100 / d) < 1000000000 * d * (100 / d) := Nat.mul_lt_mul_of_pos_right hnd h4
        rw [Nat.mul_assoc, h3] at this
        omega
      rw [hq]
      clear hq
      unfold wtext
      rw [if_neg h1]
      generalize 100 / d = q at hq1 hH ⊢
      have hwq : wrap64 (q : Int) = (q : Int) := wrap_ok (by omega) (by omega)
      rw [hwq, ← Int.natCast_mul]
      clear hwq
      generalize n * q = H at hH ⊢
      have hwH : wrap64 (H : Int) = (H : Int) := wrap_ok (by omega) (by omega)
      rw [hwH]
      clear hwH
      rw [show (100 : Int) = ((100 : Nat) : Int) from rfl, show (10 : Int) = ((10 : Nat) : Int) from rfl, tdiv_nat, tdiv_nat, tmod_nat]
      have w1 : wrap64 ((H / 100 : Nat) : Int) = ((H / 100 : Nat) : Int) := wrap_ok (by omega) (by omega)
      have w2 : wrap64 ((H / 10 : Nat) : Int) = ((H / 10 : Nat) : Int) := wrap_ok (by omega) (by omega)
      rw [w1, w2]
      clear w1 w2
      rw [tmod_nat, ref_digits k hk _ (by omega), ref_digits k hk _ (by omega), ref_digits k hk _ (by omega)]
      have z1 := dec_length 9 (H / 100) (by omega)
      have z2 := dec_length 0 (H / 10 % 10) (by omega)
      have z3 := dec_length 0 (H % 10) (by omega)
      have sz : ∀ l : List UInt8, (⟨l.toArray⟩ : ByteArray).size = l.length := fun _ => rfl
      have dl : ∀ l : List UInt8, (⟨l.toArray⟩ : ByteArray).data.toList = l := fun _ => rfl
      rw [Option.bind_some, Option.bind_some, Option.bind_some, sz, sz, sz, if_pos (by omega), if_pos (by omega)]
      by_cases hz : H % 10 > 0
      · rw [if_pos (by omega), if_pos (by omega), if_pos hz]
        refine congrArg some (ba_list ?_)
        rw [ByteArray.data_append, ByteArray.data_append, ByteArray.data_append, Array.toList_append, Array.toList_append, Array.toList_append, dl, dl, dl, dl]
        simp
      · rw [if_neg (by omega), if_neg hz]
        refine congrArg some (ba_list ?_)
        rw [ByteArray.data_append, ByteArray.data_append, Array.toList_append, Array.toList_append, dl, dl, dl]
        simp
  · have hw : wr t = t.f2.data.toList := by unfold wr; rw [if_neg h2]
    unfold cohousingref07_Write.f
    rw [if_neg h2, hw]
theorem rd_cons (all : List Tok) (j : Nat) (t : Tok) (ts : List Tok) (h : all.drop j = t :: ts) : j < all.length ∧ rd_T32 all (j : Int) = t := by
  have hj : j < all.length := by
    rcases Nat.lt_or_ge j all.length with h1 | h1
    · exact h1
    · rw [List.drop_of_length_le h1] at h; simp at h
  have e := List.drop_eq_getElem_cons hj
  rw [h] at e
  injection e with e1 e2
  refine ⟨hj, ?_⟩
  rw [e1]
  unfold rd_T32
  simp [hj]
theorem drop_next (all : List Tok) (j : Nat) (t : Tok) (ts : List Tok) (h : all.drop j = t :: ts) : all.drop (j + 1) = ts := by
  rw [← List.drop_drop, h]
  rfl
theorem writes_loop (toks : List Tok) (full : ByteArray) (WN : List Tok) (hlen : toks.length ≤ 2000) (hfs : full.size ≤ 8000) (hlex : lexF full = (WN, 0, 0)) (hsame : cohousingref07_Same.f WN WN 0 = some true) :
    ∀ (ts : List Tok) (i : Nat) (T : ByteArray) (Wn : List Tok) (k : Nat), toks.drop i = ts → i ≤ toks.length → (∀ t ∈ ts, OkT t) → T.data.toList ++ wall ts = full.data.toList → Wn ++ wants T.size ts = WN → Wn.length = i → Big k →
      cohousinglaw07_LexerWrites.l0 (k + ts.length + 1) true T Wn toks (toks.length : Int) (i : Int) = some true
  | [], i, T, Wn, k, hd, hi, _, hT, hW, _, _ => by
    have hi2 : ¬ i < toks.length := by
      intro hlt
      rw [List.drop_eq_getElem_cons hlt] at hd
      exact absurd hd (List.cons_ne_nil _ _)
    have eT : T = full := ba_list (by rw [← hT]; simp [wall])
    have eW : Wn = WN := by rw [← hW]; simp [wants]
    rw [cohousinglaw07_LexerWrites.l0, if_neg (by omega), eT, eW, show lexer_Lex.f full = some (lexF full) from rfl, Option.bind_some, hlex]
    simp only
    rw [if_pos trivial, if_pos trivial, hsame, Option.bind_some, if_pos rfl]
  | t :: ts, i, T, Wn, k, hd, hi, hok, hT, hW, hWl, hk => by
    obtain ⟨hlt, hrd⟩ := rd_cons toks i t ts hd
    have ht := hok t List.mem_cons_self
    have hdn := drop_next toks i t ts hd
    have hwk : Big (k + (t :: ts).length) := by unfold Big at hk ⊢; omega
    have hwr := ref_write _ hwk t ht (T.size : Int)
    have fl : full.data.toList.length = full.size := rfl
    have tl : T.data.toList.length = T.size := rfl
    have hszs : T.size + ((wr t).length + 1) ≤ 8000 := by
      have := congrArg List.length hT
      rw [List.length_append, wall, List.length_append, List.length_cons] at this
      omega
    have sz : (⟨(wr t).toArray⟩ : ByteArray).size = (wr t).length := rfl
    have hnT : (T ++ ((⟨(wr t).toArray⟩ : ByteArray) ++ (⟨#[32]⟩ : ByteArray))).size = T.size + (wr t).length + 1 := by
      rw [ByteArray.size_append, ByteArray.size_append, sz]
      rfl
    have hnL : (T ++ ((⟨(wr t).toArray⟩ : ByteArray) ++ (⟨#[32]⟩ : ByteArray))).data.toList = T.data.toList ++ (wr t ++ [32]) := by
      rw [ByteArray.data_append, ByteArray.data_append, Array.toList_append, Array.toList_append]
    have hi1 : wrap64 ((i : Int) + 1) = ((i + 1 : Nat) : Int) := by unfold wrap64; omega
    have ih := writes_loop toks full WN hlen hfs hlex hsame ts (i + 1) (T ++ ((⟨(wr t).toArray⟩ : ByteArray) ++ (⟨#[32]⟩ : ByteArray))) (Wn ++ [{ t with f1 := (T.size : Int) }]) k hdn hlt (fun x hx => hok x (List.mem_cons_of_mem _ hx))
      (by rw [hnL, ← hT, wall]; simp) (by rw [hnT, ← hW, wants]; simp) (by rw [List.length_append, hWl]; rfl) hk
    have q1 : (i : Int) < (toks.length : Int) := by clear hi1; omega
    have q2 : (0 : Int) ≤ (i : Int) := by clear hi1; omega
    have q3 : Wn.length < 2932031007402 := by clear hi1; omega
    have q4 : (wr t).length + 1 ≤ 9223372036854775807 := by clear hi1; omega
    have q5 : T.size + ((wr t).length + 1) ≤ 9223372036854775807 := by clear hi1; omega
    have el : k + (t :: ts).length = k + ts.length + 1 := rfl
    rw [cohousinglaw07_LexerWrites.l0, if_pos q1, if_pos q2, if_pos q1, hrd]
    by_cases h2 : t.f0 = 2
    · obtain ⟨n, d, e0, e1, hd0, hdv, hnd⟩ := ht.2.1 h2
      have p1 : ¬ t.f3.f0 < 0 := by clear hi1; omega
      have p2 : ¬ t.f3.f1 < 1 := by clear hi1; omega
      have p3 : ¬ t.f3.f1 = 0 := by clear hi1; omega
      have p4 : (100 : Int) % t.f3.f1 = 0 := by
        rw [e1]
        exact Int.emod_eq_zero_of_dvd (Int.natCast_dvd_natCast.mpr hdv)
      rw [if_pos h2, if_neg p1, if_neg p2, if_neg p3, if_pos p4, if_pos q3, hwr, Option.bind_some, sz, if_pos q4, if_pos q5, hi1]
      exact ih
    · rw [if_neg h2, if_pos q3, hwr, Option.bind_some, sz, if_pos q4, if_pos q5, hi1]
      exact ih
theorem wants_at : ∀ (ts : List Tok) (o : Nat), ∀ t ∈ wants o ts, (0 : Int) ≤ t.f1 ∧ t.f1 ≤ ((o + (wall ts).length : Nat) : Int)
  | [], _, t, h => by simp [wants] at h
  | x :: ts, o, t, h => by
    rw [wants] at h
    rw [wall, List.length_append, List.length_cons]
    rcases List.mem_cons.mp h with rfl | h
    · simp only
      omega
    · have := wants_at ts _ t h
      omega
theorem LexerWrites : ∀ (a0 : ByteArray), a0.size ≤ 140737488351232 → ∃ k, cohousinglaw07_LexerWrites.f k a0 = some true := by
  intro s _
  obtain ⟨K, hK⟩ : ∃ K : Nat, 20000000000000300000 ≤ K := ⟨_, Nat.le_refl _⟩
  refine ⟨K + (lexF s).1.length + 2, ?_⟩
  unfold cohousinglaw07_LexerWrites.f
  rw [head_ok, Option.bind_some, if_pos rfl, show lexer_Lex.f s = some (lexF s) from rfl, Option.bind_some]
  by_cases e1 : (lexF s).2.1 = 0
  · rw [if_pos e1]
    by_cases h4 : (s.size : Int) > 4000
    · rw [decide_eq_true h4]
      rfl
    · rw [decide_eq_false h4]
      obtain ⟨ts, l', o', hr, hc⟩ := lex_run s (by omega)
      have hL : s.data.toList.length = s.size := rfl
      rcases hc with ⟨h1, h2, e⟩ | ⟨_, _, e⟩ | ⟨_, _, herr, e⟩
      · have hlen := run_len hr
        obtain ⟨hok, hwl⟩ := run_toks hr
        subst h1
        rw [List.length_nil] at hlen
        have hrun := wrun ts 0 hok
        have hfs : (⟨(wall ts).toArray⟩ : ByteArray).size ≤ 8000 := by
          show (wall ts).length ≤ 8000
          omega
        have hx := lex_of_run ⟨(wall ts).toArray⟩ hfs hrun (by rw [wants_len]; exact h2)
        have hsame : cohousingref07_Same.f (wants 0 ts) (wants 0 ts) 0 = some true := by
          unfold cohousingref07_Same.f
          rw [if_pos (by rw [wants_len]; omega), sameL_self _ (fun x hx => by
            have := wants_at ts 0 x hx
            have h3 : (wall ts).length ≤ 8000 := hfs
            omega)]
        have hloop := writes_loop ts ⟨(wall ts).toArray⟩ (wants 0 ts) h2 hfs hx hsame ts 0 ⟨#[]⟩ [] K rfl (by omega) hok rfl rfl rfl (by unfold Big; omega)
        rw [e]
        exact hloop
      · rw [e] at e1
        exact absurd (show (2 : Int) = 0 from e1) (by decide)
      · rw [e] at e1
        exact absurd e1 herr
  · rw [if_neg e1]
    rfl
end Go.Proofs.YtmpjoaljincclaaDoor.Pure

