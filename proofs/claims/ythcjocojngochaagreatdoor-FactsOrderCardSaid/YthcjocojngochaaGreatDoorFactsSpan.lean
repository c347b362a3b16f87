/- Facts: the kept stretches between cuts, as a set of days. No Go and no memory in it. -/
import Derived.Test.YthcjocojngochaaGreatDoorSpanSets
import Derived.Test.YthcjocojngochaaGreatDoorFactsBase
namespace Go.Proofs.YthcjocojngochaaGreatDoor.Pure
open Go.RowKit Go.Proofs.YthcjocojngochaaGreatDoor.X Go.Proofs.YthcjocojngochaaGreatDoorW.PrintWords
set_option linter.unusedVariables false
def partsS (p : Int → Bool) (c : List Int) : List S24 := (parts p c).map fun x => ⟨x.1, x.2⟩
theorem partsS_mem (p : Int → Bool) (c : List Int) (d : Int) : mem (partsS p c) d = true ↔ InP (parts p c) d := by
  rw [mem_iff]
  unfold partsS InP
  constructor
  · rintro ⟨s, hs, h⟩
    obtain ⟨x, hx, rfl⟩ := List.mem_map.1 hs
    exact ⟨x, hx, h⟩
  · rintro ⟨x, hx, h⟩
    exact ⟨_, List.mem_map.2 ⟨x, hx, rfl⟩, h⟩
theorem parts_str (p : Int → Bool) : ∀ c : List Int, c.Pairwise (· < ·) → (∀ x ∈ c, 0 ≤ x ∧ x ≤ 36525) → ∀ x ∈ parts p c, 0 ≤ x.1 ∧ x.1 < x.2 ∧ x.2 ≤ 36525
  | [], _, _, _, h => by simp [parts] at h
  | [_], _, _, _, h => by simp [parts] at h
  | a :: b :: r, hs, hb, x, h => by
    obtain ⟨s1, s2⟩ := List.pairwise_cons.1 hs
    have ih := parts_str p (b :: r) s2 (fun y hy => hb y (List.mem_cons_of_mem _ hy)) x
    rw [parts] at h
    split at h
    · rcases List.mem_cons.1 h with rfl | h
      · exact ⟨(hb a (by simp)).1, s1 b (by simp), (hb b (by simp)).2⟩
      · exact ih h
    · exact ih h
theorem partsS_str (p : Int → Bool) (c : List Int) (hs : c.Pairwise (· < ·)) (hb : ∀ x ∈ c, 0 ≤ x ∧ x ≤ 36525) : ∀ s ∈ partsS p c, strB s = true := by
  intro s h
  obtain ⟨x, hx, rfl⟩ := List.mem_map.1 h
  exact (str_iff _).2 (parts_str p c hs hb x hx)
/-- The days of what `where` returns. -/
theorem where_days (p : Int → Bool) (a : Int) (c : List Int) (hs : (a :: c).Pairwise (· < ·)) (hb : ∀ x ∈ a :: c, 0 ≤ x ∧ x ≤ 36525)
    (hp : ∀ (u v : Int), (∀ x ∈ a :: c, ¬ (u < x ∧ x ≤ v)) → u ≤ v → a ≤ u → v < (a :: c).getLast (by simp) → p u = p v) (d : Int) :
    mem (normL (partsS p (a :: c))) d = true ↔ a ≤ d ∧ d < (a :: c).getLast (by simp) ∧ p d = true := by
  rw [(norm_ok _ (partsS_str p _ hs hb)).2, partsS_mem]
  exact parts_mem p c a hs hp d
/-- Two sets of days of `where` that have the same days are one list. -/
theorem where_ext (p q : Int → Bool) (c e : List Int) (hc : c.Pairwise (· < ·)) (he : e.Pairwise (· < ·)) (bc : ∀ x ∈ c, 0 ≤ x ∧ x ≤ 36525) (be : ∀ x ∈ e, 0 ≤ x ∧ x ≤ 36525)
    (h : ∀ d, mem (normL (partsS p c)) d = mem (normL (partsS q e)) d) : normL (partsS p c) = normL (partsS q e) :=
  apart_ext _ _ (norm_ok _ (partsS_str p c hc bc)).1 (norm_ok _ (partsS_str q e he be)).1 h
/-- The reference's way: a stretch is joined to the last one if it begins where that ends. -/
def joinS (out : List S24) (s : S24) : List S24 :=
  match out.getLast? with
  | some t => if t.f1 = s.f0 then out.dropLast ++ [⟨t.f0, s.f1⟩] else out ++ [s]
  | none => [s]
theorem join_ok (out : List S24) (s : S24) (h : Apart out) (hs : strB s = true) (hl : ∀ t ∈ out, t.f1 ≤ s.f0) :
    Apart (joinS out s) ∧ (∀ d, mem (joinS out s) d = true ↔ mem out d = true ∨ (s.f0 ≤ d ∧ d < s.f1)) ∧ ∀ t ∈ joinS out s, t.f1 ≤ s.f1 := by
  have ws := (str_iff s).1 hs
  rcases List.eq_nil_or_concat out with rfl | ⟨o, t, e0⟩
  · refine ⟨⟨by simpa [joinS] using hs, by simp [joinS]⟩, fun d => ?_, by simp [joinS]⟩
    rw [mem_iff, mem_iff]
    simp [joinS]
  · rw [List.concat_eq_append] at e0
    subst e0
    have ht := hl t (by simp)
    have wt := (str_iff t).1 (h.str t (by simp))
    have hpw := List.pairwise_append.1 h.pw
    have hg : (o ++ [t]).getLast? = some t := by simp
    unfold joinS
    rw [hg]
    simp only
    by_cases e : t.f1 = s.f0
    · rw [if_pos e, List.dropLast_concat]
      refine ⟨⟨fun x hx => ?_, List.pairwise_append.2 ⟨hpw.1, by simp, fun a ha b hb => ?_⟩⟩, fun d => ?_, fun x hx => ?_⟩
      · rcases List.mem_append.1 hx with hx | hx
        · exact h.str x (List.mem_append_left _ hx)
        · rw [List.mem_singleton.1 hx, str_iff]
          simp only
          omega
      · rw [List.mem_singleton.1 hb]
        exact hpw.2.2 a ha t (by simp)
      · rw [mem_iff, mem_iff]
        constructor
        · rintro ⟨x, hx, h1, h2⟩
          rcases List.mem_append.1 hx with hx | hx
          · exact .inl ⟨x, List.mem_append_left _ hx, h1, h2⟩
          · rw [List.mem_singleton.1 hx] at h1 h2
            simp only at h1 h2
            by_cases hd : d < t.f1
            · exact .inl ⟨t, by simp, h1, hd⟩
            · exact .inr ⟨by omega, h2⟩
        · rintro (⟨x, hx, h1, h2⟩ | ⟨h1, h2⟩)
          · rcases List.mem_append.1 hx with hx | hx
            · exact ⟨x, List.mem_append_left _ hx, h1, h2⟩
            · rw [List.mem_singleton.1 hx] at h1 h2
              exact ⟨_, List.mem_append_right _ (List.mem_singleton.2 rfl), h1, by simp only; omega⟩
          · exact ⟨_, List.mem_append_right _ (List.mem_singleton.2 rfl), by simp only; omega, h2⟩
      · rcases List.mem_append.1 hx with hx | hx
        · have := hl x (List.mem_append_left _ hx); omega
        · rw [List.mem_singleton.1 hx]; exact Int.le_refl _
    · rw [if_neg e]
      refine ⟨⟨fun x hx => ?_, List.pairwise_append.2 ⟨h.pw, by simp, fun a ha b hb => ?_⟩⟩, fun d => ?_, fun x hx => ?_⟩
      · rcases List.mem_append.1 hx with hx | hx
        · exact h.str x hx
        · rw [List.mem_singleton.1 hx]; exact hs
      · rw [List.mem_singleton.1 hb]
        rcases List.mem_append.1 ha with ha | ha
        · have := hpw.2.2 a ha t (by simp); omega
        · rw [List.mem_singleton.1 ha]; omega
      · rw [mem_iff, mem_iff]
        constructor
        · rintro ⟨x, hx, h1, h2⟩
          rcases List.mem_append.1 hx with hx | hx
          · exact .inl ⟨x, hx, h1, h2⟩
          · rw [List.mem_singleton.1 hx] at h1 h2; exact .inr ⟨h1, h2⟩
        · rintro (⟨x, hx, h1, h2⟩ | ⟨h1, h2⟩)
          · exact ⟨x, List.mem_append_left _ hx, h1, h2⟩
          · exact ⟨s, by simp, h1, h2⟩
      · rcases List.mem_append.1 hx with hx | hx
        · have := hl x hx; omega
        · rw [List.mem_singleton.1 hx]; exact Int.le_refl _
theorem join_fold : ∀ (l out : List S24), Apart out → (∀ s ∈ l, strB s = true) → l.Pairwise (fun a b => a.f1 ≤ b.f0) → (∀ t ∈ out, ∀ s ∈ l, t.f1 ≤ s.f0) →
    Apart (l.foldl joinS out) ∧ ∀ d, mem (l.foldl joinS out) d = true ↔ mem out d = true ∨ mem l d = true
  | [], out, h, _, _, _ => ⟨h, fun d => by rw [List.foldl_nil, mem_iff (l := [])]; simp⟩
  | s :: l, out, h, hs, hp, hl => by
    obtain ⟨p1, p2⟩ := List.pairwise_cons.1 hp
    obtain ⟨j1, j2, j3⟩ := join_ok out s h (hs s (by simp)) fun t ht => hl t ht s (by simp)
    have ws := (str_iff s).1 (hs s (by simp))
    obtain ⟨k1, k2⟩ := join_fold l (joinS out s) j1 (fun x hx => hs x (by simp [hx])) p2 fun t ht x hx => Int.le_trans (j3 t ht) (p1 x hx)
    refine ⟨k1, fun d => ?_⟩
    rw [List.foldl_cons, k2, j2, mem_iff (s :: l)]
    rw [mem_iff l]
    constructor
    · rintro ((h | h) | ⟨x, hx, h⟩)
      · exact .inl h
      · exact .inr ⟨s, by simp, h⟩
      · exact .inr ⟨x, by simp [hx], h⟩
    · rintro (h | ⟨x, hx, h⟩)
      · exact .inl (.inl h)
      · rcases List.mem_cons.1 hx with rfl | hx
        · exact .inl (.inr h)
        · exact .inr ⟨x, hx, h⟩
theorem parts_low (p : Int → Bool) : ∀ (c : List Int) (a : Int), (a :: c).Pairwise (· < ·) → ∀ x ∈ parts p (a :: c), a ≤ x.1
  | [], a, _, x, h => by simp [parts] at h
  | b :: r, a, hs, x, h => by
    obtain ⟨s1, s2⟩ := List.pairwise_cons.1 hs
    have hab := s1 b (by simp)
    have ih := parts_low p r b s2 x
    rw [parts] at h
    split at h
    · rcases List.mem_cons.1 h with rfl | h
      · exact Int.le_refl _
      · have := ih h; omega
    · have := ih h; omega
theorem parts_pw (p : Int → Bool) : ∀ c : List Int, c.Pairwise (· < ·) → (parts p c).Pairwise (fun a b => a.2 ≤ b.1)
  | [], _ => by simp [parts]
  | [_], _ => by simp [parts]
  | a :: b :: r, hs => by
    obtain ⟨s1, s2⟩ := List.pairwise_cons.1 hs
    have ih := parts_pw p (b :: r) s2
    rw [parts]
    split
    · exact List.pairwise_cons.2 ⟨fun x hx => parts_low p r b s2 x hx, ih⟩
    · exact ih
theorem partsS_pw (p : Int → Bool) (c : List Int) (hs : c.Pairwise (· < ·)) : (partsS p c).Pairwise (fun a b => a.f1 ≤ b.f0) :=
  List.pairwise_map.2 (parts_pw p c hs)
/-- The reference's joined stretches are what `where` returns, over the same cuts and the same test. -/
theorem join_norm (p : Int → Bool) (c : List Int) (hs : c.Pairwise (· < ·)) (hb : ∀ x ∈ c, 0 ≤ x ∧ x ≤ 36525) : (partsS p c).foldl joinS [] = normL (partsS p c) := by
  obtain ⟨j1, j2⟩ := join_fold (partsS p c) [] Apart.nil (partsS_str p c hs hb) (partsS_pw p c hs) (by simp)
  obtain ⟨n1, n2⟩ := norm_ok _ (partsS_str p c hs hb)
  refine apart_ext _ _ j1 n1 fun d => ?_
  rw [n2]
  have := j2 d
  rw [Bool.eq_iff_iff, this]
  constructor
  · rintro (h | h)
    · rw [mem_iff] at h; obtain ⟨x, hx, _⟩ := h; cases hx
    · exact h
  · exact .inr
end Go.Proofs.YthcjocojngochaaGreatDoor.Pure

