/- LexerGaps: no Go and no memory in it. -/
import Derived.Test.YtmpjoaljincclaaDoorXx11
import Derived.Test.YtmpjoaljincclaaDoorLexGap2
namespace Go.Proofs.YtmpjoaljincclaaDoor.Pure
open Go.RowKit Go.Proofs.YtmpjoaljincclaaDoor.X Go.Proofs.YtmpjoaljincclaaDoorW.PrintWords

theorem sameL_shift (k : Nat) (hk : k ≤ 100000) : ∀ l : List Tok, (∀ t ∈ l, 0 ≤ t.f1 ∧ t.f1 ≤ 8000) → sameL (k : Int) l (l.map (shift (k : Int))) = true
  | [], _ => rfl
  | t :: l, h => by
    have ht := h t List.mem_cons_self
    rw [List.map_cons, sameL, sameL_shift k hk l (fun x hx => h x (List.mem_cons_of_mem _ hx)), Bool.and_true]
    have hw : wrap64 (t.f1 + (k : Int)) = t.f1 + (k : Int) := wrap_ok (by omega) (by omega)
    unfold sameT shift
    rw [hw]
    simp
theorem lexF_ok (s : ByteArray) (h : (lexF s).2.1 = 0) : s.size ≤ 8000 ∧ ∃ ts o', Run s.data.toList 0 ts [] o' ∧ ts.length ≤ 2000 ∧ lexF s = (ts, 0, 0) := by
  by_cases h8 : 8000 < s.size
  · unfold lexF at h
    rw [if_pos h8] at h
    exact absurd h (by decide)
  · refine ⟨by omega, ?_⟩
    obtain ⟨ts, l', o', hr, hc⟩ := lex_run s (by omega)
    rcases hc with ⟨h1, h2, e⟩ | ⟨_, _, e⟩ | ⟨_, _, herr, e⟩
    · rw [h1] at hr
      exact ⟨ts, o', hr, h2, e⟩
    · rw [e] at h; exact absurd (show (2 : Int) = 0 from h) (by decide)
    · rw [e] at h; exact absurd h herr
theorem rd_cons (all : List Tok) (j : Nat) (t : Tok) (ts : List Tok) (h : all.drop j = t :: ts) : j < all.length ∧ rd_T32 all (j : Int) = t := by
  have hj : j < all.length := by
    rcases Nat.lt_or_ge j all.length with h1 | h1
    · exact h1
    · rw [List.drop_of_length_le h1] at h; simp at h
  have e := List.drop_eq_getElem_cons hj
  rw [h] at e
  injection e with e1 e2
  refine ⟨hj, ?_⟩
  rw [e1]
  unfold rd_T32
  simp [hj]
theorem three (s g : ByteArray) (at1 : Nat) : (((s.extract 0 at1) ++ g) ++ (s.extract at1 s.size)).data.toList = s.data.toList.take at1 ++ (g.data.toList ++ s.data.toList.drop at1) := by
  rw [ByteArray.data_append, ByteArray.data_append, Array.toList_append, Array.toList_append, extract_drop, ByteArray.data_extract, Array.toList_extract, List.append_assoc]
  simp [List.extract]
theorem j3_ok (s g : ByteArray) (ts : List Tok) (i at1 : Nat) (o' : Nat) (hs : s.size ≤ 7900) (hg : g.size ≤ 43) (hts : ts.length ≤ 2000) (hi : i ≤ ts.length) (ha : at1 ≤ s.size) (hf : ∀ t ∈ ts, 0 ≤ t.f1 ∧ t.f1 ≤ 8000) (h : Run (s.data.toList.take at1 ++ (g.data.toList ++ s.data.toList.drop at1)) 0 (ts.take i ++ (ts.drop i).map (shift (g.size : Int))) [] o') (k : Nat) :
    cohousinglaw07_LexerGaps.j3 (k + 1) s ts (i : Int) g (at1 : Int) false = some true := by
  have lf : ∀ x : ByteArray, lexer_Lex.f x = some (lexF x) := fun _ => rfl
  have h3 := three s g at1
  have hsz : (((s.extract 0 at1) ++ g) ++ (s.extract at1 s.size)).size ≤ 8000 := by
    have : (((s.extract 0 at1) ++ g) ++ (s.extract at1 s.size)).size = (((s.extract 0 at1) ++ g) ++ (s.extract at1 s.size)).data.toList.length := rfl
    have h4 : s.data.toList.length = s.size := rfl
    have h5 : g.data.toList.length = g.size := rfl
    rw [this, h3, List.length_append, List.length_append, List.length_take, List.length_drop]
    omega
  have hA : (ts.take i).length = i := by rw [List.length_take]; omega
  have hml : (ts.take i ++ (ts.drop i).map (shift (g.size : Int))).length = ts.length := by
    rw [List.length_append, List.length_map, hA, List.length_drop]
    omega
  have e := lex_of_run _ hsz (by rw [h3]; exact h) (by omega)
  have s1 : cohousingref07_Same.f (ts.take i) (ts.take i) 0 = some true := by
    unfold cohousingref07_Same.f
    rw [if_pos (by omega), sameL_self _ (fun x hx => by have := hf x (List.mem_of_mem_take hx); omega)]
  have s2 : cohousingref07_Same.f (ts.drop i) ((ts.drop i).map (shift (g.size : Int))) (g.size : Int) = some true := by
    unfold cohousingref07_Same.f
    rw [if_pos (by rw [List.length_drop]; omega), sameL_shift _ (by omega) _ (fun x hx => hf x (List.mem_of_mem_drop hx))]
  have q1 : (0 : Int) ≤ (at1 : Int) := by omega
  have q2 : (at1 : Int) ≤ (s.size : Int) := by omega
  have q3 : (0 : Int) ≤ (i : Int) := by omega
  have q4 : (i : Int) ≤ (ts.length : Int) := by omega
  rw [cohousinglaw07_LexerGaps.j3, if_neg (by decide), if_pos q1, if_pos q2, Int.toNat_natCast, if_pos (by omega), if_pos (by omega), lf, Option.bind_some, e]
  simp only
  rw [if_pos trivial, hml, if_pos rfl, if_pos q3, if_pos q4, if_pos q4, Int.toNat_natCast, List.take_left' hA, s1, Option.bind_some, if_pos rfl, List.drop_left' hA, s2, Option.bind_some, if_pos rfl]
theorem j2_ok (s g : ByteArray) (ts : List Tok) (i at1 : Nat) (k : Nat) (ha : at1 ≤ s.size) (h : ∀ K, cohousinglaw07_LexerGaps.j3 (K + 1) s ts (i : Int) g (at1 : Int) false = some true) : cohousinglaw07_LexerGaps.j2 (k + 2) s ts (i : Int) g (at1 : Int) = some true := by
  rw [show k + 2 = (k + 1) + 1 by rfl, cohousinglaw07_LexerGaps.j2, if_neg (by omega), decide_eq_false (by omega)]
  exact h k
theorem LexerGaps : ∀ (a0 : ByteArray) (a1 : Int) (l2 : List Int), a0.size ≤ 140737488351232 → (Lit.int .i64 a1).wf = true → l2.length ≤ maxLen → l2.length * 1 ≤ 140737488351232 → (∀ x ∈ l2, (Lit.int .u8 x).wf = true) → ∃ k, cohousinglaw07_LexerGaps.f k a0 a1 l2 = some true := by
  intro s c b _ hc hb1 hb2 hb3
  refine ⟨1000, ?_⟩
  have lf : ∀ x : ByteArray, lexer_Lex.f x = some (lexF x) := fun _ => rfl
  have j0t : ∀ x, cohousinglaw07_LexerGaps.j0 1000 s c b x true = some true := by
    intro x
    rw [cohousinglaw07_LexerGaps.j0, if_pos rfl]
  unfold cohousinglaw07_LexerGaps.f
  rw [head_ok, Option.bind_some, if_pos rfl, lf s, Option.bind_some]
  by_cases e1 : (lexF s).2.1 = 0
  · rw [if_pos e1]
    by_cases h1 : (s.size : Int) > 7900
    · rw [decide_eq_true h1]
      exact j0t _
    · rw [decide_eq_false h1]
      obtain ⟨_, ts, o1, hr, hl, es⟩ := lexF_ok s e1
      have hv : ∀ x ∈ ts, 0 ≤ x.f1 ∧ x.f1 ≤ 8000 := by have := (lexF_len s).2; rw [es] at this; exact this
      have hw1 : wrap64 ((ts.length : Int) + 1) = (ts.length : Int) + 1 := wrap_ok (by omega) (by omega)
      have t1 : Int.tmod c ((ts.length : Int) + 1) < (ts.length : Int) + 1 := Int.tmod_lt_of_pos _ (by omega)
      have t2 : -((ts.length : Int) + 1) < Int.tmod c ((ts.length : Int) + 1) := Int.lt_tmod_of_pos _ (by omega)
      obtain ⟨i, hi, ei⟩ : ∃ i : Nat, i ≤ ts.length ∧ cohousinglaw07_LexerGaps.j0 1000 s c b ts false = cohousinglaw07_LexerGaps.j1 999 s b ts (i : Int) := by
        by_cases hn : Int.tmod c ((ts.length : Int) + 1) < 0
        · refine ⟨(Int.tmod c ((ts.length : Int) + 1) + ((ts.length : Int) + 1)).toNat, by omega, ?_⟩
          have hw2 : wrap64 (Int.tmod c ((ts.length : Int) + 1) + ((ts.length : Int) + 1)) = (((Int.tmod c ((ts.length : Int) + 1) + ((ts.length : Int) + 1)).toNat : Nat) : Int) := by
            rw [wrap_ok (by omega) (by omega)]
            omega
          rw [cohousinglaw07_LexerGaps.j0, if_neg (by decide), hw1, if_neg (by omega), if_pos hn, hw2]
        · refine ⟨(Int.tmod c ((ts.length : Int) + 1)).toNat, by omega, ?_⟩
          have hw2 : Int.tmod c ((ts.length : Int) + 1) = (((Int.tmod c ((ts.length : Int) + 1)).toNat : Nat) : Int) := by omega
          rw [cohousinglaw07_LexerGaps.j0, if_neg (by decide), hw1, if_neg (by omega), if_neg hn, ← hw2]
      rw [es, ei]
      have hmax : b.length ≤ 140737488351232 := by omega
      obtain ⟨g, hg, hgs, eg⟩ := gap_ok b hmax (fun x hx => wf_u8 (hb3 x hx)) 998 (by omega)
      rw [cohousinglaw07_LexerGaps.j1, eg, Option.bind_some]
      have hsl : s.data.toList.length = s.size := rfl
      have hgl : g.data.toList.length = g.size := rfl
      by_cases hlt : i < ts.length
      · obtain ⟨t, r, hd⟩ : ∃ t r, ts.drop i = t :: r := ⟨_, _, List.drop_eq_getElem_cons hlt⟩
        obtain ⟨at1, o2, hf, hat, hrun⟩ := run_gap hr i t r hd hg
        obtain ⟨_, hrd⟩ := rd_cons ts i t r hd
        rw [if_pos (by omega), if_pos (by omega), hrd, hf]
        rw [hgl] at hrun
        exact j2_ok s g ts i at1 996 (by omega) (fun K => j3_ok s g ts i at1 o2 (by omega) (by omega) hl hi (by omega) hv hrun K)
      · have hil : i = ts.length := by omega
        obtain ⟨o2, hrun⟩ := run_gap_end hr hg
        have hg2 : ((⟨#[10]⟩ : ByteArray) ++ g).size = 1 + g.size := by rw [ByteArray.size_append]; rfl
        have hg3 : ((⟨#[10]⟩ : ByteArray) ++ g).data.toList = 10 :: g.data.toList := by rw [ByteArray.data_append, Array.toList_append]; rfl
        rw [if_neg (by omega), if_pos (by omega)]
        refine j2_ok s _ ts i s.size 996 (Nat.le_refl _) (fun K => j3_ok s _ ts i s.size o2 (by omega) (by omega) hl hi (Nat.le_refl _) hv ?_ K)
        rw [hg3, List.take_of_length_le (by omega), List.drop_of_length_le (by omega), List.append_nil, hil, List.take_of_length_le (Nat.le_refl _), List.drop_of_length_le (Nat.le_refl _), List.map_nil, List.append_nil]
        exact hrun
  · rw [if_neg e1]
    exact j0t _
end Go.Proofs.YtmpjoaljincclaaDoor.Pure

