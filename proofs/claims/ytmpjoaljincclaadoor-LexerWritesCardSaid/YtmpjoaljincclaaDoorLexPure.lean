/- What Lex returns, over lists of bytes: runs of tokens. No Go and no memory in it. -/
import Derived.Test.YtmpjoaljincclaaDoorXx6
namespace Go.Proofs.YtmpjoaljincclaaDoor.Pure
open Go.RowKit Go.Proofs.YtmpjoaljincclaaDoor.X Go.Proofs.YtmpjoaljincclaaDoorW.PrintWords

abbrev Tok := S32
/-- What stands at the head of a list: an error (0: none), the length, the token at an offset. -/
def tokL (l : List UInt8) : Int × Nat × (Int → Tok) :=
  match l with
  | [] => (10, 0, fun _ => z32)
  | c :: r =>
    if isDigit c then ((valF ⟨((c :: r).take (partLen true (c :: r))).toArray⟩).2.2, partLen true (c :: r), fun a => ⟨2, a, ⟨#[]⟩, ⟨(valF ⟨((c :: r).take (partLen true (c :: r))).toArray⟩).1, (valF ⟨((c :: r).take (partLen true (c :: r))).toArray⟩).2.1⟩⟩)
    else if isLetter c then (if 16 < partLen false (c :: r) then 2 else 0, partLen false (c :: r), fun a => ⟨1, a, ⟨((c :: r).take (partLen false (c :: r))).toArray⟩, ⟨0, 0⟩⟩)
    else (if signN (c :: r) = 0 then 10 else 0, signN (c :: r), fun a => ⟨3, a, ⟨((c :: r).take (signN (c :: r))).toArray⟩, ⟨0, 0⟩⟩)
theorem extract_take (s : ByteArray) (i m : Nat) : s.extract i (i + m) = ⟨((s.data.toList.drop i).take m).toArray⟩ := by
  rw [← ba_inj, ba_toList, ba_mk, ByteArray.data_extract, Array.toList_extract]
  simp only [List.extract]
  rw [show i + m - i = m by omega]
theorem tokF_eq (s : ByteArray) (i : Nat) (hi : i < s.size) : tokF s i = ((tokL (s.data.toList.drop i)).1, i + (tokL (s.data.toList.drop i)).2.1, (tokL (s.data.toList.drop i)).2.2 i) := by
  unfold tokF tokL
  simp only [extract_take]
  rw [drop_cons s i hi]
  simp only
  split
  · rfl
  · split <;> rfl
theorem partLen_len (num : Bool) (l : List UInt8) : partLen num l ≤ l.length := (List.takeWhile_sublist (partB num)).length_le
theorem tokL_len (l : List UInt8) (h : l ≠ []) (h0 : (tokL l).1 = 0) : 1 ≤ (tokL l).2.1 ∧ (tokL l).2.1 ≤ l.length := by
  cases l with
  | nil => exact absurd rfl h
  | cons c r =>
    have hp := fun num => partLen_len num (c :: r)
    have hs := signN_le (c :: r)
    unfold tokL at h0 ⊢
    simp only at h0 ⊢
    by_cases h1 : isDigit c = true
    · rw [if_pos h1]
      exact ⟨partLen_pos true c r (part_digit _ _ h1), hp true⟩
    · rw [if_neg h1] at h0 ⊢
      by_cases h2 : isLetter c = true
      · rw [if_pos h2]
        exact ⟨partLen_pos false c r (part_letter _ _ h2), hp false⟩
      · rw [if_neg h2] at h0 ⊢
        simp only at h0 ⊢
        have h3 : signN (c :: r) ≠ 0 := by
          intro e
          rw [if_pos e] at h0
          exact absurd h0 (by decide)
        omega
/-- What is left of a list behind the gap that it begins with. -/
def past (l : List UInt8) : List UInt8 := l.drop (skipN false l)
/-- Tokens are read one after the other: from a list at an offset to what is left at another one. -/
inductive Run : List UInt8 → Nat → List Tok → List UInt8 → Nat → Prop
  | nil (l : List UInt8) (o : Nat) : Run l o [] (past l) (o + skipN false l)
  | cons {l : List UInt8} {o : Nat} {ts : List Tok} {l' : List UInt8} {o' : Nat} (h : past l ≠ []) (h0 : (tokL (past l)).1 = 0) (hr : Run ((past l).drop (tokL (past l)).2.1) (o + skipN false l + (tokL (past l)).2.1) ts l' o') : Run l o ((tokL (past l)).2.2 ((o + skipN false l : Nat) : Int) :: ts) l' o'
theorem past_len (l : List UInt8) : (past l).length + skipN false l = l.length := by
  have := skipN_le false l
  unfold past
  rw [List.length_drop]
  omega
theorem run_len {l : List UInt8} {o : Nat} {ts : List Tok} {l' : List UInt8} {o' : Nat} (h : Run l o ts l' o') : l'.length + o' = l.length + o := by
  induction h with
  | nil l o => have := past_len l; omega
  | cons h h0 _ ih =>
    rename_i l o ts l' o' _
    have h1 := past_len l
    have h2 := tokL_len _ h h0
    rw [List.length_drop] at ih
    omega
theorem run_drop {l : List UInt8} {o : Nat} {ts : List Tok} {l' : List UInt8} {o' : Nat} (h : Run l o ts l' o') : o ≤ o' ∧ l' = l.drop (o' - o) := by
  induction h with
  | nil l o => exact ⟨by omega, by unfold past; congr 1; omega⟩
  | cons h h0 _ ih =>
    rename_i l o ts l' o' _
    refine ⟨by omega, ?_⟩
    rw [ih.2]
    generalize (tokL (past l)).2.1 = m at ih ⊢
    rw [past, List.drop_drop, List.drop_drop]
    congr 1
    omega
/-- Behind a gap stands none. -/
theorem skip_past : ∀ (c : Bool) (l : List UInt8), skipN false (l.drop (skipN c l)) = 0
  | _, [] => by simp [skipN]
  | c, b :: r => by
    have ih := skip_past (if b == 10 then false else if b == 35 then true else c) r
    rw [skipN]
    generalize hd : (if (b == 10) = true then false else if (b == 35) = true then true else c) = d at ih ⊢
    by_cases h : (d || isBlank b) = true
    · rw [if_pos h, show 1 + skipN d r = skipN d r + 1 by omega, List.drop_succ_cons]
      exact ih
    · rw [if_neg h, List.drop_zero, skipN]
      simp only [Bool.or_eq_true, not_or] at h
      have hb : b ≠ 10 ∧ b ≠ 35 := by
        refine ⟨?_, ?_⟩
        · rintro rfl
          exact h.2 (by decide)
        · rintro rfl
          rw [← hd] at h
          exact h.1 (by simp)
      rw [if_neg]
      simp [hb.1, hb.2, h.2]
theorem skip_past0 (l : List UInt8) : skipN false (past l) = 0 := skip_past false l
theorem past_past (l : List UInt8) : past (past l) = past l := by
  show (past l).drop (skipN false (past l)) = past l
  rw [skip_past0, List.drop_zero]
theorem run_end {l : List UInt8} {o : Nat} {ts : List Tok} {l' : List UInt8} {o' : Nat} (h : Run l o ts l' o') : past l' = l' := by
  induction h with
  | nil l o => exact past_past l
  | cons _ _ _ ih => exact ih
/-- From behind the gap. -/
theorem run_past {l : List UInt8} {o : Nat} {ts : List Tok} {l' : List UInt8} {o' : Nat} : Run l o ts l' o' ↔ Run (past l) (o + skipN false l) ts l' o' := by
  constructor
  · intro h
    cases h with
    | nil =>
      have := Run.nil (past l) (o + skipN false l)
      rw [past_past, skip_past0] at this
      exact this
    | cons h h0 hr =>
      have := Run.cons (l := past l) (o := o + skipN false l) (ts := _) (l' := l') (o' := o') (by rw [past_past]; exact h) (by rw [past_past]; exact h0) (by rw [past_past, skip_past0]; exact hr)
      rw [past_past, skip_past0] at this
      exact this
  · intro h
    generalize hp : past l = p at h
    generalize hq : o + skipN false l = q at h
    cases h with
    | nil =>
      rw [← hp, ← hq, past_past, skip_past0]
      exact Run.nil l o
    | cons h h0 hr =>
      subst hp hq
      rw [past_past] at h h0 hr ⊢
      rw [skip_past0] at hr ⊢
      exact Run.cons h h0 hr
theorem run_trans {l : List UInt8} {o : Nat} {ts : List Tok} {l' : List UInt8} {o' : Nat} (h : Run l o ts l' o') {us : List Tok} {l2 : List UInt8} {o2 : Nat} (k : Run l' o' us l2 o2) : Run l o (ts ++ us) l2 o2 := by
  induction h with
  | nil l o => exact run_past.mpr k
  | cons h h0 _ ih => exact Run.cons h h0 (ih k)
/-- A token at a greater offset. -/
def shift (k : Int) (t : Tok) : Tok := { t with f1 := t.f1 + k }
theorem tokL_shift (l : List UInt8) (a k : Int) (h : l ≠ []) : (tokL l).2.2 (a + k) = shift k ((tokL l).2.2 a) := by
  cases l with
  | nil => exact absurd rfl h
  | cons c r =>
    unfold tokL shift
    simp only
    split
    · rfl
    · split <;> rfl
theorem run_shift {l : List UInt8} {o : Nat} {ts : List Tok} {l' : List UInt8} {o' : Nat} (h : Run l o ts l' o') (k : Nat) : Run l (o + k) (ts.map (shift k)) l' (o' + k) := by
  induction h with
  | nil l o =>
    have := Run.nil l (o + k)
    rw [show o + k + skipN false l = o + skipN false l + k by omega] at this
    exact this
  | cons h h0 hr ih =>
    rename_i l o ts l' o'
    have := Run.cons (l := l) (o := o + k) (ts := ts.map (shift k)) (l' := l') (o' := o' + k) h h0 (by rw [show o + k + skipN false l + (tokL (past l)).2.1 = o + skipN false l + (tokL (past l)).2.1 + k by omega]; exact ih)
    rw [show ((o + k + skipN false l : Nat) : Int) = ((o + skipN false l : Nat) : Int) + (k : Int) by omega, tokL_shift _ _ _ h] at this
    exact this
/-! ### What Lex returns -/
theorem loop_run (s : ByteArray) : ∀ (k i : Nat) (acc : List Tok), i ≤ s.size → s.size - i < k → acc.length ≤ 2000 → past (s.data.toList.drop i) = s.data.toList.drop i →
    ∃ ts l' o', Run (s.data.toList.drop i) i ts l' o' ∧
      ((l' = [] ∧ acc.length + ts.length ≤ 2000 ∧ lexLoop s k i acc = (acc ++ ts, 0, 0)) ∨
       (l' ≠ [] ∧ acc.length + ts.length = 2000 ∧ lexLoop s k i acc = ([], 2, (o' : Int))) ∨
       (l' ≠ [] ∧ acc.length + ts.length < 2000 ∧ (tokL l').1 ≠ 0 ∧ lexLoop s k i acc = ([], (tokL l').1, (o' : Int))))
  | 0, i, acc, _, h, _, _ => absurd h (Nat.not_lt_zero _)
  | k + 1, i, acc, hi, hk, ha, hp => by
    have hs0 : skipN false (s.data.toList.drop i) = 0 := by
      have := past_len (s.data.toList.drop i)
      rw [hp] at this
      omega
    have hnil := Run.nil (s.data.toList.drop i) i
    rw [hs0, hp, Nat.add_zero] at hnil
    by_cases hlt : i < s.size
    · have hne : s.data.toList.drop i ≠ [] := by rw [drop_cons s i hlt]; simp
      by_cases hfull : acc.length = 2000
      · exact ⟨[], _, _, hnil, .inr (.inl ⟨hne, by simpa using hfull, by rw [lexLoop, if_pos hlt, if_pos hfull]⟩)⟩
      · by_cases herr : (tokL (s.data.toList.drop i)).1 = 0
        · have hl := tokL_len _ hne herr
          rw [List.length_drop] at hl
          have hsz : s.data.toList.length = s.size := by simp
          have hsk := skipTo_le s (i + (tokL (s.data.toList.drop i)).2.1) (by omega)
          have e1 : skipTo s (i + (tokL (s.data.toList.drop i)).2.1) = i + (tokL (s.data.toList.drop i)).2.1 + skipN false ((s.data.toList.drop i).drop (tokL (s.data.toList.drop i)).2.1) := by
            unfold skipTo
            rw [List.drop_drop]
          have e2 : s.data.toList.drop (skipTo s (i + (tokL (s.data.toList.drop i)).2.1)) = past ((s.data.toList.drop i).drop (tokL (s.data.toList.drop i)).2.1) := by
            rw [e1]
            unfold past
            rw [List.drop_drop, List.drop_drop]
          obtain ⟨ts, l', o', hr, hc⟩ := loop_run s k (skipTo s (i + (tokL (s.data.toList.drop i)).2.1)) (acc ++ [(tokL (s.data.toList.drop i)).2.2 i]) hsk.2 (by omega) (by rw [List.length_append]; simp; omega) (by rw [e2, past_past])
          have hr2 : Run (s.data.toList.drop i) i ((tokL (s.data.toList.drop i)).2.2 i :: ts) l' o' := by
            have hr3 : Run ((s.data.toList.drop i).drop (tokL (s.data.toList.drop i)).2.1) (i + (tokL (s.data.toList.drop i)).2.1) ts l' o' := by
              rw [run_past, ← e2, ← e1]
              exact hr
            have := Run.cons (l := s.data.toList.drop i) (o := i) (ts := ts) (l' := l') (o' := o') (by rw [hp]; exact hne) (by rw [hp]; exact herr) (by rw [hp, hs0]; exact hr3)
            rw [hp, hs0, Nat.add_zero] at this
            exact this
          refine ⟨_, l', o', hr2, ?_⟩
          have hstep : lexLoop s (k + 1) i acc = lexLoop s k (skipTo s (i + (tokL (s.data.toList.drop i)).2.1)) (acc ++ [(tokL (s.data.toList.drop i)).2.2 i]) := by
            rw [lexLoop, if_pos hlt, if_neg hfull, tokF_eq s i hlt, if_pos herr]
          rw [hstep]
          have elen : ∀ n : Nat, acc.length + ((tokL (s.data.toList.drop i)).2.2 i :: ts).length = (acc ++ [(tokL (s.data.toList.drop i)).2.2 i]).length + ts.length := by
            intro _
            simp <;> omega
          rw [elen 0]
          rcases hc with ⟨h1, h2, h3⟩ | h | h
          · exact .inl ⟨h1, h2, by rw [h3]; simp⟩
          · exact .inr (.inl h)
          · exact .inr (.inr h)
        · refine ⟨[], _, _, hnil, .inr (.inr ⟨hne, by simpa using (by omega : acc.length < 2000), herr, ?_⟩)⟩
          rw [lexLoop, if_pos hlt, if_neg hfull, tokF_eq s i hlt, if_neg herr]
    · have e : s.data.toList.drop i = [] := List.drop_of_length_le (by simp; omega)
      exact ⟨[], _, _, hnil, .inl ⟨e, by simpa using ha, by rw [lexLoop, if_neg hlt]; simp⟩⟩
/-- Lex reads a run of tokens, up to the end or an error. -/
theorem lex_run (s : ByteArray) (hs : s.size ≤ 8000) : ∃ ts l' o', Run s.data.toList 0 ts l' o' ∧
    ((l' = [] ∧ ts.length ≤ 2000 ∧ lexF s = (ts, 0, 0)) ∨ (l' ≠ [] ∧ ts.length = 2000 ∧ lexF s = ([], 2, (o' : Int))) ∨ (l' ≠ [] ∧ ts.length < 2000 ∧ (tokL l').1 ≠ 0 ∧ lexF s = ([], (tokL l').1, (o' : Int)))) := by
  have hsk := skipTo_le s 0 (by omega)
  have e1 : skipTo s 0 = skipN false s.data.toList := by unfold skipTo; rw [List.drop_zero]; omega
  obtain ⟨ts, l', o', hr, hc⟩ := loop_run s (s.size + 1) (skipTo s 0) [] hsk.2 (by omega) (by simp) (by rw [e1]; exact past_past _)
  refine ⟨ts, l', o', ?_, ?_⟩
  · rw [run_past, Nat.zero_add, ← e1]
    have : past s.data.toList = s.data.toList.drop (skipTo s 0) := by rw [e1]; rfl
    rw [this]
    exact hr
  · unfold lexF
    rw [if_neg (by omega)]
    simpa using hc
/-- A run is told by its list: the shorter one is the beginning of the longer one. -/
theorem run_det {l : List UInt8} {o : Nat} {ts : List Tok} {l' : List UInt8} {o' : Nat} (h : Run l o ts l' o') : ∀ {us : List Tok} {l2 : List UInt8} {o2 : Nat}, Run l o us l2 o2 → ts.length ≤ us.length → ∃ vs, us = ts ++ vs ∧ Run l' o' vs l2 o2 := by
  induction h with
  | nil l o =>
    intro us l2 o2 k _
    exact ⟨us, rfl, run_past.mp k⟩
  | cons h h0 _ ih =>
    intro us l2 o2 k hle
    cases k with
    | nil => simp at hle
    | cons h' h0' k' =>
      obtain ⟨vs, e, kv⟩ := ih k' (by simpa using hle)
      exact ⟨vs, by rw [e]; rfl, kv⟩
theorem run_stop {o : Nat} {ts : List Tok} {l' : List UInt8} {o' : Nat} (h : Run [] o ts l' o') : ts = [] ∧ l' = [] := by
  cases h with
  | nil => exact ⟨rfl, rfl⟩
  | cons h => exact absurd rfl h
theorem run_zero {l : List UInt8} {o : Nat} {ts : List Tok} {l' : List UInt8} {o' : Nat} (h : Run l o ts l' o') (e : ts = []) : l' = past l := by
  cases h with
  | nil => rfl
  | cons => cases e
theorem run_err {l : List UInt8} {o : Nat} {ts : List Tok} {l' : List UInt8} {o' : Nat} (hp : past l = l) (he : (tokL l).1 ≠ 0) (h : Run l o ts l' o') : ts = [] ∧ l' = l := by
  cases h with
  | nil => exact ⟨rfl, hp⟩
  | cons h h0 =>
    rw [hp] at h0
    exact absurd h0 he
/-- A run to the end is what Lex returns, if it is short enough. -/
theorem lex_of_run (s : ByteArray) (hs : s.size ≤ 8000) {ts : List Tok} {o' : Nat} (h : Run s.data.toList 0 ts [] o') (hl : ts.length ≤ 2000) : lexF s = (ts, 0, 0) := by
  obtain ⟨us, l2, o2, k, hc⟩ := lex_run s hs
  rcases hc with ⟨rfl, h2, h3⟩ | ⟨h1, h2, h3⟩ | ⟨h1, h2, h3, h4⟩
  · rcases Nat.le_total ts.length us.length with hle | hle
    · obtain ⟨vs, e, kv⟩ := run_det h k hle
      obtain ⟨rfl, _⟩ := run_stop kv
      rw [h3, e, List.append_nil]
    · obtain ⟨vs, e, kv⟩ := run_det k h hle
      obtain ⟨rfl, _⟩ := run_stop kv
      rw [h3, e, List.append_nil]
  · exfalso
    rcases Nat.le_total ts.length us.length with hle | hle
    · obtain ⟨vs, e, kv⟩ := run_det h k hle
      exact h1 (run_stop kv).2
    · obtain ⟨vs, e, kv⟩ := run_det k h hle
      have : vs = [] := by
        rw [e, List.length_append] at hl
        exact List.length_eq_zero_iff.mp (by omega)
      have h5 := run_zero kv this
      rw [run_end k] at h5
      exact h1 h5.symm
  · exfalso
    rcases Nat.le_total ts.length us.length with hle | hle
    · obtain ⟨vs, e, kv⟩ := run_det h k hle
      exact h1 (run_stop kv).2
    · obtain ⟨vs, e, kv⟩ := run_det k h hle
      exact h1 (run_err (run_end k) h3 kv).2.symm
/-- A run that is too long is refused. -/
theorem lex_of_long (s : ByteArray) (hs : s.size ≤ 8000) {ts : List Tok} {o' : Nat} (h : Run s.data.toList 0 ts [] o') (hl : 2000 < ts.length) : ∃ o, lexF s = ([], 2, o) := by
  obtain ⟨us, l2, o2, k, hc⟩ := lex_run s hs
  rcases hc with ⟨rfl, h2, h3⟩ | ⟨h1, h2, h3⟩ | ⟨h1, h2, h3, h4⟩
  · exfalso
    obtain ⟨vs, e, kv⟩ := run_det k h (by omega)
    obtain ⟨rfl, _⟩ := run_stop kv
    rw [e, List.append_nil] at hl
    omega
  · exact ⟨_, h3⟩
  · exfalso
    obtain ⟨vs, e, kv⟩ := run_det k h (by omega)
    exact h1 (run_err (run_end k) h3 kv).2.symm
end Go.Proofs.YtmpjoaljincclaaDoor.Pure

