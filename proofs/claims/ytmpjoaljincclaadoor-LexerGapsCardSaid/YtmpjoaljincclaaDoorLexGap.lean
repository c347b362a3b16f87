/- Gaps between tokens, and runs that are split at a token. No Go and no memory in it. -/
import Derived.Test.YtmpjoaljincclaaDoorLexRef3
import Derived.Test.YtmpjoaljincclaaDoorLexPure2
namespace Go.Proofs.YtmpjoaljincclaaDoor.Pure
open Go.RowKit Go.Proofs.YtmpjoaljincclaaDoor.X Go.Proofs.YtmpjoaljincclaaDoorW.PrintWords

/-- A gap: whatever stands behind it, it is skipped whole. -/
def Gap (g : List UInt8) : Prop := ∀ r, skipN false (g ++ r) = g.length + skipN false r
theorem gap_nil : Gap [] := fun r => by simp
theorem gap_blank {g : List UInt8} (h : Gap g) {b : UInt8} (hb : isBlank b = true) : Gap (g ++ [b]) := by
  intro r
  rw [List.append_assoc, h, List.singleton_append, skipN]
  have hd : ((if b == 10 then false else if b == 35 then true else false) || isBlank b) = true := by rw [hb, Bool.or_true]
  rw [if_pos hd, List.length_append, List.length_singleton]
  have hf : (if (b == 10) = true then false else if (b == 35) = true then true else false) = false := by
    have : (b == 35) = false := by
      unfold isBlank at hb
      rw [beq_eq_false_iff_ne]
      rintro rfl
      exact absurd hb (by decide)
    rw [this]
    simp
  rw [hf]
  omega
/-- A comment that goes on. -/
theorem com_in : ∀ (c : List UInt8), (∀ b ∈ c, b ≠ 10) → ∀ r, skipN true (c ++ r) = c.length + skipN true r
  | [], _, r => by simp
  | b :: c, h, r => by
    have hb : (b == 10) = false := by rw [beq_eq_false_iff_ne]; exact h b List.mem_cons_self
    rw [List.cons_append, skipN, hb]
    have hd : (if false = true then false else if (b == 35) = true then true else true) = true := by cases (b == 35) <;> rfl
    rw [hd, if_pos (by simp), com_in c (fun x hx => h x (List.mem_cons_of_mem _ hx)), List.length_cons]
    omega
theorem gap_com {g c : List UInt8} (h : Gap g) (hc : ∀ b ∈ c, b ≠ 10) : Gap (g ++ 35 :: c ++ [10]) := by
  intro r
  have e : g ++ 35 :: c ++ [10] ++ r = g ++ 35 :: (c ++ 10 :: r) := by simp
  have e1 : ∀ x, skipN false (35 :: x) = 1 + skipN true x := by
    intro x
    rw [skipN]
    have hd : (if ((35 : UInt8) == 10) = true then false else if ((35 : UInt8) == 35) = true then true else false) = true := by decide
    rw [hd, if_pos (by simp)]
  have e2 : skipN true (10 :: r) = 1 + skipN false r := by
    rw [skipN]
    have hd : (if ((10 : UInt8) == 10) = true then false else if ((10 : UInt8) == 35) = true then true else true) = false := by decide
    rw [hd, if_pos (by decide)]
  rw [e, h, e1, com_in c hc, e2]
  simp
  omega
theorem gap_append {g h : List UInt8} (hg : Gap g) (hh : Gap h) : Gap (g ++ h) := by
  intro r
  rw [List.append_assoc, hg, hh, List.length_append]
  omega
theorem gap_stop {g : List UInt8} (hg : Gap g) (h0 : g ≠ []) (r : List UInt8) : Stop (g ++ r) := by
  intro c q e
  have h := hg r
  have hpos : 0 < g.length := List.length_pos_iff.mpr h0
  rw [e, skipN] at h
  by_cases hd : ((if (c == 10) = true then false else if (c == 35) = true then true else false) || isBlank c) = true
  · clear h
    have hcases : c = 35 ∨ isBlank c = true := by
      rw [Bool.or_eq_true] at hd
      rcases hd with hd | hd
      · left
        by_cases h1 : (c == 10) = true
        · rw [if_pos h1] at hd; exact absurd hd (by decide)
        · rw [if_neg h1] at hd
          by_cases h2 : (c == 35) = true
          · exact beq_iff_eq.mp h2
          · rw [if_neg h2] at hd; exact absurd hd (by decide)
      · right; exact hd
    have hc4 : c = 35 ∨ c = 32 ∨ c = 9 ∨ c = 10 ∨ c = 13 := by
      rcases hcases with h | h
      · exact .inl h
      · unfold isBlank at h
        simp only [Bool.or_eq_true, beq_iff_eq] at h
        rcases h with ((h | h) | h) | h
        · exact .inr (.inl h)
        · exact .inr (.inr (.inl h))
        · exact .inr (.inr (.inr (.inl h)))
        · exact .inr (.inr (.inr (.inr h)))
    rcases hc4 with rfl | rfl | rfl | rfl | rfl <;> decide
  · rw [if_neg hd] at h
    omega
/-- A run, split ahead of a token (or at its end). -/
theorem run_split {l : List UInt8} {o : Nat} {ts : List Tok} {l' : List UInt8} {o' : Nat} (h : Run l o ts l' o') : ∀ i, i ≤ ts.length → ∃ l1 o1, Run l o (ts.take i) l1 o1 ∧ Run l1 o1 (ts.drop i) l' o' ∧ past l1 = l1 ∧ (∀ t r, ts.drop i = t :: r → t.f1 = (o1 : Int) ∧ l1 ≠ []) := by
  induction h with
  | nil l o =>
    intro i hi
    refine ⟨past l, o + skipN false l, ?_, ?_, past_past l, ?_⟩
    · rw [List.take_nil]; exact Run.nil l o
    · rw [List.drop_nil]
      have := Run.nil (past l) (o + skipN false l)
      rw [past_past, skip_past0, Nat.add_zero] at this
      exact this
    · intro t r e
      simp at e
  | cons h h0 hr ih =>
    rename_i l o ts l' o'
    intro i hi
    cases i with
    | zero =>
      refine ⟨past l, o + skipN false l, Run.nil l o, ?_, past_past l, ?_⟩
      · exact run_past.mp (Run.cons h h0 hr)
      · intro t r e
        rw [List.drop_zero] at e
        injection e with e1 e2
        refine ⟨?_, h⟩
        rw [← e1]
        cases e3 : past l with
        | nil => exact absurd e3 h
        | cons c q =>
          unfold tokL
          simp only
          split
          · rfl
          · split <;> rfl
    | succ i =>
      rw [List.length_cons] at hi
      obtain ⟨l1, o1, k1, k2, k3, k4⟩ := ih i (by omega)
      exact ⟨l1, o1, by rw [List.take_succ_cons]; exact Run.cons h h0 k1, by rw [List.drop_succ_cons]; exact k2, k3, by rw [List.drop_succ_cons]; exact k4⟩
/-- A gap put ahead of a token. -/
theorem run_gap {s : List UInt8} {ts : List Tok} {o' : Nat} (h : Run s 0 ts [] o') (i : Nat) (t : Tok) (r : List Tok) (hi : ts.drop i = t :: r) {g : List UInt8} (hg : Gap g) : ∃ at1 o2 : Nat, t.f1 = (at1 : Int) ∧ at1 ≤ s.length ∧ Run (s.take at1 ++ (g ++ s.drop at1)) 0 (ts.take i ++ (ts.drop i).map (shift (g.length : Int))) [] o2 := by
  have hil : i ≤ ts.length := by
    rcases Nat.le_total i ts.length with h1 | h1
    · exact h1
    · rw [List.drop_of_length_le h1] at hi; simp at hi
  obtain ⟨l1, o1, k1, k2, k3, k4⟩ := run_split h i hil
  obtain ⟨hf, hne⟩ := k4 t r hi
  have hd := run_drop k1
  have hl := run_len k1
  have hs1 : s.length = l1.length + o1 := by omega
  have hdr : l1 = s.drop o1 := by rw [hd.2]; congr 1
  refine ⟨o1, o' + g.length, hf, by omega, ?_⟩
  have k2s := run_shift k2 g.length
  by_cases h0 : g = []
  · subst h0
    have hz : (shift (([] : List UInt8).length : Int)) = id := by
      funext t
      unfold shift
      simp
    rw [List.nil_append, List.take_append_drop, hz, List.map_id, List.take_append_drop]
    exact h
  · obtain ⟨d, hd2, k5⟩ := run_swap k1 (s.take o1) (g ++ l1) (by rw [hdr, List.take_append_drop]) (gap_stop hg h0 _)
    have hdf := hd2 hne
    subst hdf
    have e1 : skipN false (g ++ l1) = g.length := by
      have : skipN false l1 = 0 := by rw [← k3]; exact skip_past0 l1
      rw [hg, this]
      rfl
    have e2 : (g ++ l1).drop g.length = l1 := List.drop_left
    have e3 : (s.take o1).length = o1 := by rw [List.length_take]; omega
    rw [e1, e2, e3, Nat.zero_add] at k5
    rw [← hdr]
    exact run_trans k5 k2s
/-- A gap put at the end, behind a line feed. -/
theorem run_gap_end {s : List UInt8} {ts : List Tok} {o' : Nat} (h : Run s 0 ts [] o') {g : List UInt8} (hg : Gap g) : ∃ o2 : Nat, Run (s ++ (10 :: g)) 0 ts [] o2 := by
  obtain ⟨d, _, hr⟩ := run_swap h s (10 :: g) (by rw [List.append_nil]) (gap_stop (gap_append (g := [10]) (gap_blank gap_nil (b := 10) (by decide)) gap_nil) (by simp) g)
  have e1 : skipN d (10 :: g) = 1 + g.length := by
    rw [skipN]
    have := hg []
    rw [List.append_nil] at this
    simp [isBlank, this, skipN]
  have e2 : (10 :: g).drop (skipN d (10 :: g)) = [] := by
    rw [e1]
    exact List.drop_of_length_le (by simp; omega)
  rw [e2] at hr
  exact ⟨_, hr⟩
end Go.Proofs.YtmpjoaljincclaaDoor.Pure

