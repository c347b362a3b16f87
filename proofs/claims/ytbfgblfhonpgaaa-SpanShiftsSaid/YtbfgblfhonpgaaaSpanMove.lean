/- Sets that are moved by days. No Go and no memory in it. -/
import Derived.Test.YtbfgblfhonpgaaaSpanOps
import Derived.Test.YtbfgblfhonpgaaaXx17
namespace Go.Proofs.Ytbfgblfhonpgaaa.Pure
open Go.RowKit Go.Proofs.Ytbfgblfhonpgaaa.X Go.Proofs.YtbfgblfhonpgaaaW.PrintWords

/-- A list of stretches, moved. -/
def mv (by_ : Int) (l : List S30) : List S30 := l.map fun s => ⟨s.f0 + by_, s.f1 + by_⟩
theorem mv_mem (c : Int) (l : List S30) (d : Int) : mem (mv c l) d = mem l (d - c) := by
  rw [Bool.eq_iff_iff, mem_iff, mem_iff]
  unfold mv
  constructor
  · rintro ⟨s, hs, h1, h2⟩
    obtain ⟨t, ht, rfl⟩ := List.mem_map.mp hs
    simp only at h1 h2
    exact ⟨t, ht, by omega, by omega⟩
  · rintro ⟨s, hs, h1, h2⟩
    exact ⟨_, List.mem_map.mpr ⟨s, hs, rfl⟩, by simp only; omega, by simp only; omega⟩
/-- A moved list is apart where it lies within the calendar. -/
theorem mv_apart (c : Int) (l : List S30) (h : Apart l) (hin : ∀ d, mem l d = true → 0 ≤ d + c ∧ d + c < 36525) : Apart (mv c l) := by
  refine ⟨fun s hs => ?_, ?_⟩
  · obtain ⟨t, ht, rfl⟩ := List.mem_map.mp hs
    have h1 := (str_iff t).mp (h.str t ht)
    have h2 := hin t.f0 ((mem_iff _ _).mpr ⟨t, ht, by omega, by omega⟩)
    have h3 := hin (t.f1 - 1) ((mem_iff _ _).mpr ⟨t, ht, by omega, by omega⟩)
    rw [str_iff]
    simp only
    omega
  · unfold mv
    rw [List.pairwise_map]
    refine h.pw.imp ?_
    intro a b hab
    simp only
    omega
theorem apart_in (l : List S30) (h : Apart l) (d : Int) (hd : mem l d = true) : 0 ≤ d ∧ d < 36525 := by
  obtain ⟨s, hs, h1, h2⟩ := (mem_iff _ _).mp hd
  have := (str_iff s).mp (h.str s hs)
  omega
theorem mv_in (c : Int) (l : List S30) (h : Apart (mv c l)) (d : Int) (hd : mem l d = true) : 0 ≤ d + c ∧ d + c < 36525 :=
  apart_in _ h (d + c) (by rw [mv_mem, show d + c - c = d by omega]; exact hd)
theorem shift_l (l : List S30) (c : Int) (hl : l.length ≤ 1000) (hc : -36525 ≤ c ∧ c ≤ 36525) (hs : ∀ s ∈ l, 0 ≤ s.f0 ∧ s.f0 ≤ 36525 ∧ 0 ≤ s.f1 ∧ s.f1 ≤ 36525) : ∀ (j i k : Nat), i + j = l.length → j < k →
    cohousingref04_Shift.l0 k l c (mv c (l.take i)) (i : Int) = some (mv c l)
  | 0, i, k + 1, hi, _ => by
    rw [cohousingref04_Shift.l0, if_neg (by omega), List.take_of_length_le (by omega)]
  | j + 1, i, k + 1, hi, hk => by
    have hm : rd_T30 l (i : Int) ∈ l := by rw [rd30_nat l i (by omega)]; exact List.getElem_mem _
    have h1 := hs _ hm
    have w1 : wrap64 ((i : Int) + 1) = ((i + 1 : Nat) : Int) := by unfold wrap64; omega
    have w2 : wrap64 ((rd_T30 l (i : Int)).f0 + c) = (rd_T30 l (i : Int)).f0 + c := by clear w1; unfold wrap64; omega
    have w3 : wrap64 ((rd_T30 l (i : Int)).f1 + c) = (rd_T30 l (i : Int)).f1 + c := by clear w1 w2; unfold wrap64; omega
    have hlen : (mv c (l.take i)).length = i := by unfold mv; rw [List.length_map, List.length_take]; omega
    rw [cohousingref04_Shift.l0, if_pos (by clear w1 w2 w3; omega), if_pos (by clear w1 w2 w3; omega), if_pos (by clear w1 w2 w3; omega), w1, w2, w3]
    have e : mv c (l.take i) ++ [(⟨(rd_T30 l (i : Int)).f0 + c, (rd_T30 l (i : Int)).f1 + c⟩ : S30)] = mv c (l.take (i + 1)) := by
      have hi' : i < l.length := by clear w1 w2 w3; omega
      rw [rd30_nat l i hi', List.take_succ_eq_append_getElem hi']
      unfold mv
      rw [List.map_append]
      rfl
    rw [e]
    exact shift_l l c hl hc hs j (i + 1) k (by clear w1 w2 w3; omega) (by clear w1 w2 w3; omega)
theorem shift_eq (l : List S30) (c : Int) (k : Nat) (h : IsSet l) (hc : -36525 ≤ c ∧ c ≤ 36525) (hk : l.length < k) : cohousingref04_Shift.f k l c = some (mv c l) := by
  unfold cohousingref04_Shift.f
  have := shift_l l c h.2 hc (fun s hs => by have := (str_iff s).mp (h.1.str s hs); omega) l.length 0 k (by omega) hk
  exact this
theorem mv_len (c : Int) (l : List S30) : (mv c l).length = l.length := by unfold mv; rw [List.length_map]
/-- What an operation of moved sets gives is what it gives, moved. -/
theorem mv_op (kf : Bool → Bool → Bool) (h0 : kf false false = false) (c : Int) (a b x y : List S30) (ca : Apart (mv c a)) (cb : Apart (mv c b)) (hx : Apart x) (hy : Apart y)
    (mx : ∀ d, mem x d = kf (mem a d) (mem b d)) (my : ∀ d, mem y d = kf (mem (mv c a) d) (mem (mv c b) d)) : mv c x = y := by
  refine apart_ext _ _ (mv_apart c x hx fun d hd => ?_) hy fun d => ?_
  · rw [mx] at hd
    cases h1 : mem a d with
    | true => exact mv_in c a ca d h1
    | false =>
      cases h2 : mem b d with
      | true => exact mv_in c b cb d h2
      | false => rw [h1, h2, h0] at hd; exact absurd hd (by simp)
  · rw [mv_mem, mx, my, mv_mem, mv_mem]
end Go.Proofs.Ytbfgblfhonpgaaa.Pure

