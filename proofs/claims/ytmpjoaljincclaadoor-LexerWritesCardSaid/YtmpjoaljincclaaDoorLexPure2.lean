/- Runs of tokens over lists whose end is another one: the beginning of a source, a gap put in, two sources one after the other. No Go and no memory in it. -/
import Derived.Test.YtmpjoaljincclaaDoorLexPure
namespace Go.Proofs.YtmpjoaljincclaaDoor.Pure
open Go.RowKit Go.Proofs.YtmpjoaljincclaaDoor.X Go.Proofs.YtmpjoaljincclaaDoorW.PrintWords

/-- What no token goes into. -/
def Stop (b : List UInt8) : Prop := ∀ c r, b = c :: r → partB true c = false ∧ c ≠ 61
theorem stop_nil : Stop [] := fun c r h => by cases h
theorem part_num {c : UInt8} (h : partB true c = false) (num : Bool) : partB num c = false := by
  cases num with
  | true => exact h
  | false =>
    unfold partB at h ⊢
    simp only [Bool.or_eq_false_iff, Bool.true_and, Bool.false_and] at h ⊢
    exact ⟨h.1, trivial⟩
theorem partLen_swap (num : Bool) (b' : List UInt8) (hs : Stop b') : ∀ (a b : List UInt8), partLen num (a ++ b) ≤ a.length → partLen num (a ++ b') = partLen num (a ++ b)
  | [], b, h => by
    have h0 : partLen num b = 0 := by simpa using h
    rw [List.nil_append, List.nil_append, h0]
    unfold partLen
    cases b' with
    | nil => rfl
    | cons c r =>
      rw [List.takeWhile_cons, part_num (hs c r rfl).1 num]
      rfl
  | c :: a, b, h => by
    unfold partLen at h ⊢
    rw [List.cons_append, List.takeWhile_cons] at h
    rw [List.cons_append, List.cons_append, List.takeWhile_cons, List.takeWhile_cons]
    cases hc : partB num c with
    | false => rfl
    | true =>
      rw [hc] at h
      simp only [if_true, List.length_cons] at h ⊢
      have := partLen_swap num b' hs a b (by unfold partLen; omega)
      unfold partLen at this
      omega
theorem signN_swap (b' : List UInt8) (hs : Stop b') (c : UInt8) (a b : List UInt8) (h : signN (c :: a ++ b) ≤ (c :: a).length) : signN (c :: a ++ b') = signN (c :: a ++ b) := by
  rw [List.cons_append, signN] at h
  rw [List.cons_append, List.cons_append, signN, signN]
  cases a with
  | cons d a => rfl
  | nil =>
    rw [List.nil_append] at h ⊢
    have hb' : (b'.head? == some 61) = false := by
      cases b' with
      | nil => rfl
      | cons d r => simpa using (hs d r rfl).2
    by_cases h1 : (c == 33 || c == 60 || c == 62) = true
    · rw [if_pos h1] at h
      rw [if_pos h1, if_pos h1, List.nil_append, hb']
      by_cases h2 : (b.head? == some 61) = true
      · rw [if_pos h2] at h
        simp at h
      · rw [if_neg h2, if_neg (by decide)]
    · rw [if_neg h1, if_neg h1]
theorem take_swap (a b b' : List UInt8) (m : Nat) (h : m ≤ a.length) : (a ++ b').take m = (a ++ b).take m := by rw [List.take_append_of_le_length h, List.take_append_of_le_length h]
/-- A token that lies in the first part is there whatever follows it, if no token goes into that. -/
theorem tokL_swap (a b b' : List UInt8) (ha : a ≠ []) (hs : Stop b') (h0 : (tokL (a ++ b)).1 = 0) (hm : (tokL (a ++ b)).2.1 ≤ a.length) : tokL (a ++ b') = tokL (a ++ b) := by
  cases a with
  | nil => exact absurd rfl ha
  | cons c a =>
    have hp := fun num => partLen_swap num b' hs (c :: a) b
    have hg := signN_swap b' hs c a b
    have ht := take_swap (c :: a) b b'
    unfold tokL at h0 hm ⊢
    simp only [List.cons_append] at *
    by_cases h1 : isDigit c = true
    · rw [if_pos h1] at h0 hm
      rw [if_pos h1, if_pos h1, hp true hm, ht _ hm]
    · rw [if_neg h1] at h0 hm
      rw [if_neg h1, if_neg h1]
      by_cases h2 : isLetter c = true
      · rw [if_pos h2] at h0 hm
        rw [if_pos h2, if_pos h2, hp false hm, ht _ hm]
      · rw [if_neg h2] at h0 hm
        rw [if_neg h2, if_neg h2, hg hm, ht _ hm]
/-! ### Gaps -/
/-- Within a comment behind a list, or not. -/
def within : Bool → List UInt8 → Bool
  | c, [] => c
  | c, b :: r => within (if b == 10 then false else if b == 35 then true else c) r
theorem skip_in : ∀ (c : Bool) (a r : List UInt8), skipN c a = a.length → skipN c (a ++ r) = a.length + skipN (within c a) r
  | c, [], r, _ => by simp [within]
  | c, b :: a, r, h => by
    rw [List.cons_append, skipN]
    rw [skipN, List.length_cons] at h
    rw [within, List.length_cons]
    generalize (if (b == 10) = true then false else if (b == 35) = true then true else c) = d at h ⊢
    by_cases hd : (d || isBlank b) = true
    · rw [if_pos hd] at h
      rw [if_pos hd, skip_in d a r (by omega)]
      omega
    · rw [if_neg hd] at h
      omega
theorem skip_part : ∀ (c : Bool) (a r : List UInt8), a.length ≤ skipN c (a ++ r) → skipN c a = a.length
  | c, [], r, _ => by simp [skipN]
  | c, b :: a, r, h => by
    rw [List.cons_append, skipN, List.length_cons] at h
    rw [skipN, List.length_cons]
    generalize (if (b == 10) = true then false else if (b == 35) = true then true else c) = d at h ⊢
    by_cases hd : (d || isBlank b) = true
    · rw [if_pos hd] at h
      rw [if_pos hd, skip_part d a r (by omega)]
      omega
    · rw [if_neg hd] at h
      omega
theorem skip_swap : ∀ (c : Bool) (a b b' : List UInt8), skipN c (a ++ b) < a.length → skipN c (a ++ b') = skipN c (a ++ b)
  | c, [], b, b', h => absurd h (Nat.not_lt_zero _)
  | c, x :: a, b, b', h => by
    rw [List.cons_append, skipN, List.length_cons] at h
    rw [List.cons_append, List.cons_append, skipN, skipN]
    generalize (if (x == 10) = true then false else if (x == 35) = true then true else c) = d at h ⊢
    by_cases hd : (d || isBlank x) = true
    · rw [if_pos hd] at h
      rw [if_pos hd, if_pos hd, skip_swap d a b b' (by omega)]
    · rw [if_neg hd, if_neg hd]
/-- Where something other than a gap follows, no comment is open. -/
theorem within_end : ∀ (c : Bool) (a b : List UInt8), skipN c (a ++ b) = a.length → b ≠ [] → within c a = false
  | c, [], b, h, hb => by
    cases b with
    | nil => exact absurd rfl hb
    | cons x r =>
      rw [List.nil_append, skipN, List.length_nil] at h
      rw [within]
      cases c with
      | false => rfl
      | true =>
        exfalso
        by_cases h1 : (x == 10) = true
        · rw [beq_iff_eq] at h1
          subst h1
          rw [if_pos (by decide)] at h
          omega
        · have h1' : (x == 10) = false := (Bool.not_eq_true _).mp h1
          rw [h1'] at h
          simp only [Bool.false_eq_true, if_false] at h
          rw [if_pos (by split <;> simp)] at h
          omega
  | c, x :: a, b, h, hb => by
    rw [List.cons_append, skipN, List.length_cons] at h
    rw [within]
    generalize (if (x == 10) = true then false else if (x == 35) = true then true else c) = d at h ⊢
    by_cases hd : (d || isBlank x) = true
    · rw [if_pos hd] at h
      exact within_end d a b (by omega) hb
    · rw [if_neg hd] at h
      omega
theorem drop_app (a b : List UInt8) (k : Nat) (h : k ≤ a.length) : (a ++ b).drop k = a.drop k ++ b := by rw [List.drop_append_of_le_length h]
/-- A run over the first part of a list goes on alike whatever follows it, if no token goes into that. -/
theorem run_swap {l : List UInt8} {o : Nat} {ts : List Tok} {b : List UInt8} {o' : Nat} (h : Run l o ts b o') : ∀ (a b' : List UInt8), l = a ++ b → Stop b' → ∃ d, (b ≠ [] → d = false) ∧ Run (a ++ b') o ts (b'.drop (skipN d b')) (o + a.length + skipN d b') := by
  induction h with
  | nil l o =>
    intro a b' e hs
    have hl := past_len l
    have he : skipN false (a ++ past l) = a.length := by
      rw [← e]
      have := congrArg List.length e
      rw [List.length_append] at this
      omega
    have hg := skip_part false a (past l) (by omega)
    have hk := skip_in false a b' hg
    refine ⟨within false a, fun hb => within_end false a (past l) he hb, ?_⟩
    have := Run.nil (a ++ b') o
    rw [hk] at this
    unfold past at this
    rw [hk, ← List.drop_drop, List.drop_left] at this
    rw [Nat.add_assoc]
    exact this
  | cons h h0 hr ih =>
    rename_i l o ts b o'
    intro a b' e hs
    have hl := past_len l
    have htl := tokL_len _ h h0
    have hrl := run_len hr
    have hle := congrArg List.length e
    rw [List.length_append] at hle
    rw [List.length_drop] at hrl
    have hd := run_drop hr
    have hbl : b.length ≤ (past l).length - (tokL (past l)).2.1 := by
      have := congrArg List.length hd.2
      rw [List.length_drop, List.length_drop] at this
      omega
    have hk : skipN false l < a.length := by omega
    have hk' : skipN false (a ++ b) < a.length := by rw [← e]; exact hk
    have hp : past l = a.drop (skipN false l) ++ b := by
      unfold past
      rw [e, drop_app _ _ _ (by rw [← e]; omega)]
    have hp' : past (a ++ b') = a.drop (skipN false l) ++ b' := by
      unfold past
      rw [skip_swap false a b b' hk', ← e, drop_app _ _ _ (by omega)]
    have hne : a.drop (skipN false l) ≠ [] := by
      intro e2
      have := congrArg List.length e2
      rw [List.length_drop, List.length_nil] at this
      omega
    have hal : (a.drop (skipN false l)).length = a.length - skipN false l := List.length_drop
    have hm : (tokL (past l)).2.1 ≤ (a.drop (skipN false l)).length := by omega
    have ht := tokL_swap (a.drop (skipN false l)) b b' hne hs (by rw [← hp]; exact h0) (by rw [← hp]; exact hm)
    rw [← hp, ← hp'] at ht
    have hq : (past l).drop (tokL (past l)).2.1 = (a.drop (skipN false l)).drop (tokL (past l)).2.1 ++ b := by
      conv => lhs; rw [hp]
      rw [drop_app _ _ _ (by rw [← hp]; exact hm)]
      rw [← hp]
    obtain ⟨d, hd1, hrun⟩ := ih _ b' hq hs
    refine ⟨d, hd1, ?_⟩
    have hsk : skipN false (a ++ b') = skipN false l := by rw [skip_swap false a b b' hk', ← e]
    have hq' : (past (a ++ b')).drop (tokL (past (a ++ b'))).2.1 = (a.drop (skipN false l)).drop (tokL (past l)).2.1 ++ b' := by
      rw [ht, hp', drop_app _ _ _ hm]
    have := Run.cons (l := a ++ b') (o := o) (ts := ts) (l' := b'.drop (skipN d b')) (o' := o + a.length + skipN d b') (by rw [hp']; simp [hne]) (by rw [ht]; exact h0) (by
      rw [hq', hsk, ht]
      have e3 : o + skipN false l + (tokL (past l)).2.1 + ((a.drop (skipN false l)).drop (tokL (past l)).2.1).length + skipN d b' = o + a.length + skipN d b' := by
        rw [List.length_drop, List.length_drop]
        omega
      rw [← e3]
      exact hrun)
    rw [hsk, ht] at this
    exact this
/-- The beginning of a list up to where a run has come. -/
theorem run_front {l : List UInt8} {ts : List Tok} {b : List UInt8} {o' : Nat} (h : Run l 0 ts b o') : Run (l.take o') 0 ts [] o' := by
  have hd := run_drop h
  have hl := run_len h
  have e : l = l.take o' ++ b := by rw [hd.2, Nat.sub_zero, List.take_append_drop]
  obtain ⟨d, _, hr⟩ := run_swap h _ [] e stop_nil
  rw [List.append_nil] at hr
  have hlen : (l.take o').length = o' := by rw [List.length_take]; omega
  simpa [hlen, skipN] using hr
end Go.Proofs.YtmpjoaljincclaaDoor.Pure

