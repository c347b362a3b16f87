/- The law SpanDays as a statement over lists of stretches: every input answers true. No Go and no memory in it. -/
import Derived.Test.YtbfgblfhonpgaaaSpanCount
import Derived.Test.YtbfgblfhonpgaaaXx14
namespace Go.Proofs.Ytbfgblfhonpgaaa.Pure
open Go.RowKit Go.Proofs.Ytbfgblfhonpgaaa.X Go.Proofs.YtbfgblfhonpgaaaW.PrintWords

theorem lhas_eq (l : List S30) (d : Int) (k : Nat) (h : IsSet l) (hk : l.length < k) : cohousinglaw04_has.f k l d = some (mem l d) := by
  have := h.2
  unfold cohousinglaw04_has.f
  rw [has_eq l d k (by omega) hk, if_pos (tr_of h), Option.bind_some]
  cases mem l d <;> rfl
theorem days_j2 (k : Nat) (d : Int) (u m w n : List S30) (x y : Bool) (hu : IsSet u) (hm : IsSet m) (hw : IsSet w) (hn : IsSet n) (hk : 1000 < k)
    (eu : mem u d = (x || y)) (em : mem m d = (x && y)) (ew : mem w d = (x && !y)) (en : mem n d = (x || y)) :
    cohousinglaw04_SpanDays.j2 (k + 1) d true u m w n x y false = some true := by
  have := hu.2
  have := hm.2
  have := hw.2
  have := hn.2
  rw [cohousinglaw04_SpanDays.j2, lhas_eq u d k hu (by omega), lhas_eq m d k hm (by omega), lhas_eq w d k hw (by omega), lhas_eq n d k hn (by omega)]
  simp only [Option.bind_some]
  rw [eu, em, ew, en]
  cases x <;> cases y <;> rfl
theorem days_j1 (k : Nat) (a b : List S30) (d : Int) (u m w n : List S30) (eu em ew en : Int) (x y f : Bool) (hk : 1001 < k) (hab : (a.length : Int) + b.length ≤ 2000)
    (hf : f = false → eu = 0 ∧ em = 0 ∧ ew = 0 ∧ en = 0) (hf' : f = true → (1000 : Int) < a.length + b.length) (qu : eu = 0 ∨ eu = 2) (qm : em = 0 ∨ em = 2) (qw : ew = 0 ∨ ew = 2) (qn : en = eu)
    (hu : f = false → IsSet u) (hm : f = false → IsSet m) (hw : f = false → IsSet w) (hn : f = false → IsSet n)
    (du : f = false → mem u d = (x || y)) (dm : f = false → mem m d = (x && y)) (dw : f = false → mem w d = (x && !y)) (dn : f = false → mem n d = (x || y)) :
    cohousinglaw04_SpanDays.j1 (k + 1) a b d true u eu m em w ew n en x y f = some true := by
  rw [cohousinglaw04_SpanDays.j1]
  cases f with
  | true =>
    have w1 : wrap64 ((a.length : Int) + (b.length : Int)) = (a.length : Int) + (b.length : Int) := by unfold wrap64; omega
    have h1 := hf' rfl
    rw [w1, if_pos rfl, if_pos rfl, if_pos (by omega), qn]
    simp only [if_true]
    rcases qu with rfl | rfl <;> rcases qm with rfl | rfl <;> rcases qw with rfl | rfl <;> rfl
  | false =>
    have hu := hu rfl
    have hm := hm rfl
    have hw := hw rfl
    have hn := hn rfl
    have := hu.2
    have := hm.2
    have := hw.2
    have := hn.2
    rw [if_neg (by decide), valid_eq u k (by omega) (by omega), tr_of hu, Option.bind_some, if_pos rfl, valid_eq m k (by omega) (by omega), tr_of hm, Option.bind_some, if_pos rfl,
      valid_eq w k (by omega) (by omega), tr_of hw, Option.bind_some, if_pos rfl, valid_eq n k (by omega) (by omega), tr_of hn, Option.bind_some]
    obtain ⟨j, rfl⟩ : ∃ j, k = j + 1 := ⟨k - 1, by omega⟩
    exact days_j2 j d u m w n x y hu hm hw hn (by omega) (du rfl) (dm rfl) (dw rfl) (dn rfl)
theorem lim_01 (l : List S30) : (limF l).2 = 0 ∨ (limF l).2 = 2 := (lim_err l).imp id (·.1)
theorem lim_set {l : List S30} (h : Apart l) (e : (limF l).2 = 0) : IsSet (limF l).1 ∧ (limF l).1 = l := by
  obtain ⟨h1, h2⟩ := lim_ok e
  rw [h1]
  exact ⟨⟨h, h2⟩, rfl⟩
theorem days_j0 (k : Nat) (a b : List S30) (d : Int) (ha : IsSet a) (hb : IsSet b) (hk : 1010 < k) : cohousinglaw04_SpanDays.j0 (k + 1) a b d true false = some true := by
  have la := ha.2
  have lb := hb.2
  rw [cohousinglaw04_SpanDays.j0, if_neg (by decide), show span_Union.f k a b = sweepO (fun x y => x || y) k a b from rfl, show span_Meet.f k a b = sweepO (fun x y => x && y) k a b from rfl,
    show span_Without.f k a b = sweepO (fun x y => x && !y) k a b from rfl, sweepO_eq _ k a b (by omega) (by omega) (by omega) (by omega), sweepO_eq _ k a b (by omega) (by omega) (by omega) (by omega),
    sweepO_eq _ k a b (by omega) (by omega) (by omega) (by omega), if_pos ⟨tr_of ha, tr_of hb⟩, if_pos ⟨tr_of ha, tr_of hb⟩, if_pos ⟨tr_of ha, tr_of hb⟩]
  simp only [Option.bind_some, List.nil_append]
  rw [if_pos (by simp; omega), if_pos (by omega), norm_eq (b ++ a) (by simp; omega), norm_or a b ha.1 hb.1, lhas_eq a d k ha (by omega), lhas_eq b d k hb (by omega)]
  simp only [Option.bind_some]
  obtain ⟨u1, u2⟩ := sw_ap (fun x y => x || y) rfl a b ha.1 hb.1
  obtain ⟨m1, m2⟩ := sw_ap (fun x y => x && y) rfl a b ha.1 hb.1
  obtain ⟨w1, w2⟩ := sw_ap (fun x y => x && !y) rfl a b ha.1 hb.1
  have nu := or_len a b ha.1 hb.1
  have nm := and_len a b ha.1 hb.1
  have nw := not_len a b ha.1 hb.1
  generalize sw (fun x y => x || y) a b = u at *
  generalize sw (fun x y => x && y) a b = m at *
  generalize sw (fun x y => x && !y) a b = w at *
  obtain ⟨j, rfl⟩ : ∃ j, k = j + 1 := ⟨k - 1, by omega⟩
  have big : ∀ l : List S30, l.length ≤ a.length + b.length → (limF l).2 ≠ 0 → (1000 : Int) < a.length + b.length := by
    intro l h1 h2
    rcases lim_err l with h3 | ⟨_, h3⟩
    · exact absurd h3 h2
    · omega
  have main : ∀ f : Bool, (f = false → (limF u).2 = 0 ∧ (limF m).2 = 0 ∧ (limF w).2 = 0) → (f = true → (1000 : Int) < a.length + b.length) →
      cohousinglaw04_SpanDays.j1 (j + 1) a b d true (limF u).1 (limF u).2 (limF m).1 (limF m).2 (limF w).1 (limF w).2 (limF u).1 (limF u).2 (mem a d) (mem b d) f = some true := by
    intro f h1 h2
    refine days_j1 j a b d _ _ _ _ _ _ _ _ _ _ f (by omega) (by omega) (fun h => ⟨(h1 h).1, (h1 h).2.1, (h1 h).2.2, (h1 h).1⟩) h2 (lim_01 u) (lim_01 m) (lim_01 w) rfl
      (fun h => (lim_set u1 (h1 h).1).1) (fun h => (lim_set m1 (h1 h).2.1).1) (fun h => (lim_set w1 (h1 h).2.2).1) (fun h => (lim_set u1 (h1 h).1).1) ?_ ?_ ?_ ?_
    · intro h; rw [(lim_set u1 (h1 h).1).2, u2]
    · intro h; rw [(lim_set m1 (h1 h).2.1).2, m2]
    · intro h; rw [(lim_set w1 (h1 h).2.2).2, w2]
    · intro h; rw [(lim_set u1 (h1 h).1).2, u2]
  by_cases e1 : (limF u).2 = 0
  · rw [if_pos e1]
    by_cases e2 : (limF m).2 = 0
    · rw [if_pos e2]
      by_cases e3 : (limF w).2 = 0
      · rw [if_pos e3]
        refine main _ (fun _ => ⟨e1, e2, e3⟩) (fun h => ?_)
        rw [e1] at h
        exact absurd h (by decide)
      · rw [if_neg e3]
        exact main _ (fun h => by simp at h) (fun _ => big w nw e3)
    · rw [if_neg e2]
      exact main _ (fun h => by simp at h) (fun _ => big m nm e2)
  · rw [if_neg e1]
    exact main _ (fun h => by simp at h) (fun _ => big u nu e1)
theorem days_out (k : Nat) (a b : List S30) (d : Int) : cohousinglaw04_SpanDays.j0 (k + 1) a b d true true = some true := by
  rw [cohousinglaw04_SpanDays.j0]
  rfl
theorem SpanDays : ∀ (l0 : List S30) (l1 : List S30) (a2 : Int), l0.length * 16 ≤ 140737488351232 → (∀ x ∈ l0, (Lit.int .i64 x.f0).wf = true ∧ (Lit.int .i64 x.f1).wf = true) → l1.length * 16 ≤ 140737488351232 → (∀ x ∈ l1, (Lit.int .i64 x.f0).wf = true ∧ (Lit.int .i64 x.f1).wf = true) → (Lit.int .i64 a2).wf = true → ∃ k, cohousinglaw04_SpanDays.f k l0 l1 a2 = some true := by
  intro a b d ha _ hb _ _
  refine ⟨a.length + b.length + 1020, ?_⟩
  have hh : cohousinglaw04_head.f (a.length + b.length + 1020) = some true :=
    at_rounds (g := fun k => cohousinglaw04_head.f k) cohousinglaw04_head.mono (by omega) head_ok
  unfold cohousinglaw04_SpanDays.f
  rw [hh, Option.bind_some, valid_eq a _ (by omega) (by omega), Option.bind_some, valid_eq b _ (by omega) (by omega)]
  by_cases h1 : IsSet a
  · rw [tr_of h1, if_pos rfl, Option.bind_some]
    by_cases h2 : IsSet b
    · rw [tr_of h2]
      exact days_j0 _ a b d h1 h2 (by omega)
    · rw [tr_not h2]
      exact days_out _ a b d
  · rw [tr_not h1, if_neg (by decide)]
    exact days_out _ a b d
end Go.Proofs.Ytbfgblfhonpgaaa.Pure

