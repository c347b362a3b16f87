/- How many stretches a result has, and whether a day belongs to it. No Go and no memory in it. -/
import Derived.Test.YtbfgblfhonpgaaaSpanHead
namespace Go.Proofs.Ytbfgblfhonpgaaa.Pure
open Go.RowKit Go.Proofs.Ytbfgblfhonpgaaa.X Go.Proofs.YtbfgblfhonpgaaaW.PrintWords

theorem sw_ap (kf : Bool → Bool → Bool) (h0 : kf false false = false) (a b : List S30) (ha : Apart a) (hb : Apart b) : Apart (sw kf a b) ∧ ∀ d, mem (sw kf a b) d = kf (mem a d) (mem b d) := sweep_fact kf h0 a b ha hb
theorem nodup_sub : ∀ (l m : List Int), l.Nodup → (∀ x ∈ l, x ∈ m) → l.length ≤ m.length
  | [], _, _, _ => Nat.zero_le _
  | x :: l, m, h, hs => by
    obtain ⟨h1, h2⟩ := List.nodup_cons.mp h
    have hx := hs x List.mem_cons_self
    have ih := nodup_sub l (m.erase x) h2 (fun y hy => (List.mem_erase_of_ne (fun e => h1 (by rw [← e]; exact hy))).mpr (hs y (List.mem_cons_of_mem _ hy)))
    rw [List.length_erase_of_mem hx] at ih
    have : 0 < m.length := List.length_pos_of_mem hx
    rw [List.length_cons]
    omega
theorem Apart.pre : ∀ {l : List S30}, Apart l → ∀ s ∈ l, mem l (s.f0 - 1) = false
  | [], _, s, hs => by simp at hs
  | t :: l, h, s, hs => by
    cases hm : mem (t :: l) (s.f0 - 1) with
    | false => rfl
    | true =>
      exfalso
      rcases List.mem_cons.mp hs with rfl | hs
      · have := h.low _ hm
        omega
      · have ih := h.tail.pre s hs
        rw [mem_cons, ih, Bool.or_false] at hm
        have h1 := (in_iff _ _).mp hm
        have h2 := h.head.2 s hs
        omega
theorem Apart.at_ {l : List S30} (h : Apart l) (s : S30) (hs : s ∈ l) : mem l s.f0 = true :=
  (mem_iff _ _).mpr ⟨s, hs, Int.le_refl _, ((str_iff s).mp (h.str s hs)).2.1⟩
theorem on_at (l : List S30) (x : Int) (h1 : mem l x = true) (h2 : mem l (x - 1) = false) : x ∈ l.map (·.f0) := by
  obtain ⟨s, hs, h3, h4⟩ := (mem_iff _ _).mp h1
  refine List.mem_map.mpr ⟨s, hs, ?_⟩
  apply Classical.byContradiction
  intro h5
  have : mem l (x - 1) = true := (mem_iff _ _).mpr ⟨s, hs, by omega, by omega⟩
  rw [h2] at this
  exact absurd this (by simp)
theorem off_at (l : List S30) (x : Int) (h1 : mem l x = false) (h2 : mem l (x - 1) = true) : x ∈ l.map (·.f1) := by
  obtain ⟨s, hs, h3, h4⟩ := (mem_iff _ _).mp h2
  refine List.mem_map.mpr ⟨s, hs, ?_⟩
  apply Classical.byContradiction
  intro h5
  have : mem l x = true := (mem_iff _ _).mpr ⟨s, hs, by omega, by omega⟩
  rw [h1] at this
  exact absurd this (by simp)
theorem Apart.nodup {l : List S30} (h : Apart l) : (l.map (·.f0)).Nodup := by
  unfold List.Nodup
  rw [List.pairwise_map]
  refine List.Pairwise.imp_of_mem ?_ h.pw
  intro a b ha hb hab
  have := (str_iff a).mp (h.str a ha)
  omega
theorem count_le (m a b : List S30) (hm : Apart m) (z : List Int) (hz : z.length = b.length)
    (h : ∀ x, mem m x = true → mem m (x - 1) = false → x ∈ a.map (·.f0) ++ z) : m.length ≤ a.length + b.length := by
  have := nodup_sub (m.map (·.f0)) (a.map (·.f0) ++ z) hm.nodup (fun x hx => by
    obtain ⟨s, hs, rfl⟩ := List.mem_map.mp hx
    exact h _ (hm.at_ s hs) (hm.pre s hs))
  rw [List.length_map, List.length_append, List.length_map, hz] at this
  exact this
theorem or_len (a b : List S30) (ha : Apart a) (hb : Apart b) : (sw (fun x y => x || y) a b).length ≤ a.length + b.length := by
  obtain ⟨h1, h2⟩ := sw_ap (fun x y => x || y) rfl a b ha hb
  refine count_le _ a b h1 (b.map (·.f0)) (by simp) fun x hx hy => ?_
  rw [h2] at hx hy
  obtain ⟨hy1, hy2⟩ := Bool.or_eq_false_iff.mp hy
  rcases Bool.or_eq_true _ _ ▸ hx with hx | hx
  · exact List.mem_append_left _ (on_at a x hx hy1)
  · exact List.mem_append_right _ (on_at b x hx hy2)
theorem and_len (a b : List S30) (ha : Apart a) (hb : Apart b) : (sw (fun x y => x && y) a b).length ≤ a.length + b.length := by
  obtain ⟨h1, h2⟩ := sw_ap (fun x y => x && y) rfl a b ha hb
  refine count_le _ a b h1 (b.map (·.f0)) (by simp) fun x hx hy => ?_
  rw [h2] at hx hy
  obtain ⟨hx1, hx2⟩ := (Bool.and_eq_true _ _).mp hx
  cases h3 : mem a (x - 1) with
  | false => exact List.mem_append_left _ (on_at a x hx1 h3)
  | true =>
    rw [h3] at hy
    exact List.mem_append_right _ (on_at b x hx2 hy)
theorem not_len (a b : List S30) (ha : Apart a) (hb : Apart b) : (sw (fun x y => x && !y) a b).length ≤ a.length + b.length := by
  obtain ⟨h1, h2⟩ := sw_ap (fun x y => x && !y) rfl a b ha hb
  refine count_le _ a b h1 (b.map (·.f1)) (by simp) fun x hx hy => ?_
  rw [h2] at hx hy
  obtain ⟨hx1, hx2⟩ := (Bool.and_eq_true _ _).mp hx
  cases h3 : mem a (x - 1) with
  | false => exact List.mem_append_left _ (on_at a x hx1 h3)
  | true =>
    rw [h3] at hy
    have hy' : mem b (x - 1) = true := by simpa using hy
    have hx' : mem b x = false := by simpa using hx2
    exact List.mem_append_right _ (off_at b x hx' hy')
theorem has_eq (l : List S30) (d : Int) (k : Nat) (hl : l.length ≤ 8796093022208) (hk : l.length < k) : span_Has.f k l d = some (if tr (IsSet l) = true then (mem l d, 0) else (false, 1)) := by
  unfold span_Has.f
  rw [valid_eq l k hl hk, Option.bind_some]
  cases tr (IsSet l) <;> rfl
/-- Normal of two lists, one after the other, is their union. -/
theorem norm_or (a b : List S30) (ha : Apart a) (hb : Apart b) : normF (b ++ a) = limF (sw (fun x y => x || y) a b) := by
  have hs : ∀ s ∈ b ++ a, strB s = true := by
    intro s hs
    rcases List.mem_append.mp hs with h | h
    · exact hb.str s h
    · exact ha.str s h
  rw [normF_eq, if_pos (List.all_eq_true.mpr hs)]
  obtain ⟨p1, p2⟩ := norm_ok _ hs
  obtain ⟨q1, q2⟩ := sw_ap (fun x y => x || y) rfl a b ha hb
  rw [apart_ext _ _ p1 q1 (fun d => by rw [p2, q2, mem_append, Bool.or_comm])]
end Go.Proofs.Ytbfgblfhonpgaaa.Pure

