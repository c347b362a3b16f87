/- LexerJoins: no Go and no memory in it. -/
import Derived.Test.YtmpjoaljincclaaDoorXx10
import Derived.Test.YtmpjoaljincclaaDoorLexRef3
import Derived.Test.YtmpjoaljincclaaDoorLexPure2
import Derived.Test.YtmpjoaljincclaaDoorLexHead
namespace Go.Proofs.YtmpjoaljincclaaDoor.Pure
open Go.RowKit Go.Proofs.YtmpjoaljincclaaDoor.X Go.Proofs.YtmpjoaljincclaaDoorW.PrintWords

theorem stop_lf (t : List UInt8) : Stop (10 :: t) := by
  intro c r h
  injection h with h1 h2
  subst h1
  decide
theorem join_run {s t : List UInt8} {ts us : List Tok} {o1 o2 : Nat} (h : Run s 0 ts [] o1) (k : Run t 0 us [] o2) : ∃ o', Run (s ++ 10 :: t) 0 (ts ++ us.map (shift ((s.length + 1 : Nat) : Int))) [] o' := by
  obtain ⟨d, _, hr⟩ := run_swap h s (10 :: t) (by rw [List.append_nil]) (stop_lf t)
  have e1 : skipN d (10 :: t) = 1 + skipN false t := by
    rw [skipN]
    have : (d || isBlank 10) = true := by rw [show isBlank 10 = true from by decide, Bool.or_true]
    simp [isBlank]
  have e2 : (10 :: t).drop (skipN d (10 :: t)) = past t := by
    rw [e1, show 1 + skipN false t = skipN false t + 1 by omega, List.drop_succ_cons]
    rfl
  rw [e2, e1] at hr
  have k2 := run_shift k (s.length + 1)
  rw [run_past] at k2
  rw [show 0 + s.length + (1 + skipN false t) = 0 + (s.length + 1) + skipN false t by omega] at hr
  exact ⟨_, run_trans hr k2⟩
theorem sameL_shift (k : Nat) (hk : k ≤ 100000) : ∀ l : List Tok, (∀ t ∈ l, 0 ≤ t.f1 ∧ t.f1 ≤ 8000) → sameL (k : Int) l (l.map (shift (k : Int))) = true
  | [], _ => rfl
  | t :: l, h => by
    have ht := h t List.mem_cons_self
    rw [List.map_cons, sameL, sameL_shift k hk l (fun x hx => h x (List.mem_cons_of_mem _ hx)), Bool.and_true]
    have hw : wrap64 (t.f1 + (k : Int)) = t.f1 + (k : Int) := wrap_ok (by omega) (by omega)
    unfold sameT shift
    rw [hw]
    simp
theorem lexF_ok (s : ByteArray) (h : (lexF s).2.1 = 0) : s.size ≤ 8000 ∧ ∃ ts o', Run s.data.toList 0 ts [] o' ∧ ts.length ≤ 2000 ∧ lexF s = (ts, 0, 0) := by
  by_cases h8 : 8000 < s.size
  · unfold lexF at h
    rw [if_pos h8] at h
    exact absurd h (by decide)
  · refine ⟨by omega, ?_⟩
    obtain ⟨ts, l', o', hr, hc⟩ := lex_run s (by omega)
    rcases hc with ⟨h1, h2, e⟩ | ⟨_, _, e⟩ | ⟨_, _, herr, e⟩
    · rw [h1] at hr
      exact ⟨ts, o', hr, h2, e⟩
    · rw [e] at h; exact absurd (show (2 : Int) = 0 from h) (by decide)
    · rw [e] at h; exact absurd h herr
theorem LexerJoins : ∀ (a0 : ByteArray) (a1 : ByteArray), a0.size ≤ 140737488351232 → a1.size ≤ 140737488351232 → ∃ k, cohousinglaw07_LexerJoins.f k a0 a1 = some true := by
  intro s t _ _
  refine ⟨1, ?_⟩
  have lf : ∀ x : ByteArray, lexer_Lex.f x = some (lexF x) := fun _ => rfl
  have j0t : ∀ x y, cohousinglaw07_LexerJoins.j0 1 s t x y true = some true := by
    intro x y
    rw [cohousinglaw07_LexerJoins.j0, if_pos rfl]
  unfold cohousinglaw07_LexerJoins.f
  rw [head_ok, Option.bind_some, if_pos rfl, lf s, Option.bind_some, lf t, Option.bind_some]
  by_cases e1 : (lexF s).2.1 = 0
  · rw [if_pos e1]
    by_cases e2 : (lexF t).2.1 = 0
    · rw [if_pos e2]
      by_cases h1 : (s.size : Int) > 3900
      · rw [if_pos h1]
        exact j0t _ _
      · rw [if_neg h1]
        by_cases h2 : (t.size : Int) > 3900
        · rw [decide_eq_true h2]
          exact j0t _ _
        · rw [decide_eq_false h2]
          obtain ⟨hs8, ts, o1, hr, hl, es⟩ := lexF_ok s e1
          obtain ⟨_, us, o2, kr, kl, et⟩ := lexF_ok t e2
          obtain ⟨o', hj⟩ := join_run hr kr
          have hsl : s.data.toList.length = s.size := by simp
          have hb : ((s ++ (⟨#[10]⟩ : ByteArray)) ++ t).data.toList = s.data.toList ++ 10 :: t.data.toList := by
            rw [ByteArray.data_append, ByteArray.data_append, Array.toList_append, Array.toList_append, List.append_assoc]
            rfl
          have hbs : ((s ++ (⟨#[10]⟩ : ByteArray)) ++ t).size ≤ 8000 := by
            have : ((s ++ (⟨#[10]⟩ : ByteArray)) ++ t).size = ((s ++ (⟨#[10]⟩ : ByteArray)) ++ t).data.toList.length := rfl
            have h3 : t.data.toList.length = t.size := by simp
            rw [this, hb, List.length_append, List.length_cons]
            omega
          have hu : ∀ x ∈ us, 0 ≤ x.f1 ∧ x.f1 ≤ 8000 := by have := (lexF_len t).2; rw [et] at this; exact this
          have hv : ∀ x ∈ ts, 0 ≤ x.f1 ∧ x.f1 ≤ 8000 := by have := (lexF_len s).2; rw [es] at this; exact this
          rw [hsl] at hj
          have w1 : wrap64 ((ts.length : Int) + (us.length : Int)) = ((ts.length + us.length : Nat) : Int) := by unfold wrap64; omega
          have w2 : wrap64 ((s.size : Int) + 1) = ((s.size + 1 : Nat) : Int) := by unfold wrap64; omega
          have p1 : s.size + 1 ≤ 9223372036854775807 := by clear w1 w2; omega
          have p2 : s.size + 1 + t.size ≤ 9223372036854775807 := by clear w1 w2; omega
          rw [es, et, cohousinglaw07_LexerJoins.j0, if_neg (by decide), if_pos p1, if_pos p2, lf, Option.bind_some]
          by_cases hlen : (ts ++ us.map (shift ((s.size + 1 : Nat) : Int))).length ≤ 2000
          · have e := lex_of_run _ hbs (by rw [hb]; exact hj) hlen
            have q1 : ((ts ++ us.map (shift ((s.size + 1 : Nat) : Int))).length : Int) = ((ts.length + us.length : Nat) : Int) := by rw [List.length_append, List.length_map]
            have q2 : (0 : Int) ≤ (ts.length : Int) := Int.natCast_nonneg _
            have q3 : (ts.length : Int) ≤ ((ts ++ us.map (shift ((s.size + 1 : Nat) : Int))).length : Int) := by rw [q1]; clear w1 w2; omega
            have s1 : cohousingref07_Same.f ts ts 0 = some true := by
              unfold cohousingref07_Same.f
              rw [if_pos (by clear w1 w2; omega), sameL_self _ (fun x hx => by have := hv x hx; clear w1 w2; omega)]
            have s2 : cohousingref07_Same.f us (us.map (shift ((s.size + 1 : Nat) : Int))) ((s.size + 1 : Nat) : Int) = some true := by
              unfold cohousingref07_Same.f
              rw [if_pos (by clear w1 w2; omega), sameL_shift _ (by clear w1 w2; omega) _ hu]
            rw [e]
            simp only
            rw [w1, w2, if_pos trivial, if_pos q1, if_pos q2, if_pos q3, Int.toNat_natCast, List.take_left, s1, Option.bind_some, if_pos rfl, List.drop_left, s2, Option.bind_some, if_pos rfl]
          · obtain ⟨o, e⟩ := lex_of_long _ hbs (by rw [hb]; exact hj) (by omega)
            rw [e]
            simp only
            rw [List.length_append, List.length_map] at hlen
            rw [w1, if_neg (by decide), if_pos trivial, if_pos (by clear w1 w2; omega)]
    · rw [if_neg e2]
      exact j0t _ _
  · rw [if_neg e1]
    exact j0t _ _
end Go.Proofs.YtmpjoaljincclaaDoor.Pure

