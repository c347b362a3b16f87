/- What the law's gap returns is a gap. No Go and no memory in it. -/
import Derived.Test.YtmpjoaljincclaaDoorXx10
import Derived.Test.YtmpjoaljincclaaDoorLexGap
import Derived.Test.YtmpjoaljincclaaDoorLexHead
namespace Go.Proofs.YtmpjoaljincclaaDoor.Pure
open Go.RowKit Go.Proofs.YtmpjoaljincclaaDoor.X Go.Proofs.YtmpjoaljincclaaDoorW.PrintWords

theorem wf_u8 {x : Int} (h : (Lit.int .u8 x).wf = true) : 0 ≤ x ∧ x < 256 := by
  have : 0 ≤ x ∧ x ≤ 255 := by simpa [Lit.wf, IntKind.min, IntKind.max, IntKind.signed, IntKind.bits] using h
  omega
theorem rd_in (b : List Int) (hb : ∀ x ∈ b, 0 ≤ x ∧ x < 256) (i : Nat) (h : i < b.length) : 0 ≤ rd b (i : Int) ∧ rd b (i : Int) < 256 := by
  unfold rd
  rw [Int.toNat_natCast, List.getD_eq_getElem?_getD, List.getElem?_eq_getElem h]
  exact hb _ (List.getElem_mem h)
theorem blank4 (q : Int) (h0 : 0 ≤ q) (h4 : q < 4) : ∃ c : UInt8, isBlank c = true ∧ rdOf ByteArray.empty [(⟨#[32]⟩ : ByteArray), (⟨#[9]⟩ : ByteArray), (⟨#[10]⟩ : ByteArray), (⟨#[13]⟩ : ByteArray)] q = ⟨#[c]⟩ := by
  have : q = 0 ∨ q = 1 ∨ q = 2 ∨ q = 3 := by omega
  rcases this with rfl | rfl | rfl | rfl
  · exact ⟨32, by decide, rfl⟩
  · exact ⟨9, by decide, rfl⟩
  · exact ⟨10, by decide, rfl⟩
  · exact ⟨13, by decide, rfl⟩
theorem app1 (x : ByteArray) (c : UInt8) : (x ++ (⟨#[c]⟩ : ByteArray)).data.toList = x.data.toList ++ [c] := by
  rw [ByteArray.data_append, Array.toList_append]
theorem size_list (x : ByteArray) : x.data.toList.length = x.size := by simp
theorem gap_l0 (b : List Int) (hb : ∀ x ∈ b, 0 ≤ x ∧ x < 256) : ∀ (m i : Nat) (x : ByteArray) (k : Nat), i + m = min b.length 20 → x.size = i → Gap x.data.toList →
    ∃ y : ByteArray, y.size ≤ 20 ∧ Gap y.data.toList ∧ cohousinglaw07_gap.l0 (k + m + 1) b x (i : Int) = cohousinglaw07_gap.j1 k b y
  | 0, i, x, k, e, hx, hg => by
    refine ⟨x, by omega, hg, ?_⟩
    rw [Nat.add_zero, cohousinglaw07_gap.l0]
    by_cases h1 : (i : Int) < (b.length : Int)
    · rw [if_pos h1, if_neg (by omega)]
    · rw [if_neg h1]
  | m + 1, i, x, k, e, hx, hg => by
    have hr := rd_in b hb i (by omega)
    have t0 : 0 ≤ Int.tmod (rd b (i : Int)) 4 := Int.tmod_nonneg _ hr.1
    have t4 : Int.tmod (rd b (i : Int)) 4 < 4 := Int.tmod_lt_of_pos _ (by decide)
    obtain ⟨c, hc, ec⟩ := blank4 _ t0 t4
    have hs1 : (x ++ (⟨#[c]⟩ : ByteArray)).size = i + 1 := by rw [ByteArray.size_append, hx]; rfl
    obtain ⟨y, h1, h2, h3⟩ := gap_l0 b hb m (i + 1) (x ++ (⟨#[c]⟩ : ByteArray)) k (by omega) hs1 (by rw [app1]; exact gap_blank hg hc)
    refine ⟨y, h1, h2, ?_⟩
    have q1 : (i : Int) < (b.length : Int) := by omega
    have q2 : (i : Int) < 20 := by omega
    have q3 : (0 : Int) ≤ (i : Int) := by omega
    have q5 : x.size + (⟨#[c]⟩ : ByteArray).size ≤ 9223372036854775807 := by
      have : (⟨#[c]⟩ : ByteArray).size = 1 := rfl
      omega
    have hw : wrap64 ((i : Int) + 1) = ((i + 1 : Nat) : Int) := by unfold wrap64; omega
    rw [show k + (m + 1) + 1 = (k + m + 1) + 1 by rfl, cohousinglaw07_gap.l0, if_pos q1, if_pos q2, Option.bind_some, if_pos q3, if_pos t0, if_pos (show Int.tmod (rd b (i : Int)) 4 < (([(⟨#[32]⟩ : ByteArray), (⟨#[9]⟩ : ByteArray), (⟨#[10]⟩ : ByteArray), (⟨#[13]⟩ : ByteArray)].length : Nat) : Int) from t4), ec, if_pos q5, hw]
    exact h3
theorem str1 (v : Int) (h0 : 0 ≤ v) (h1 : v < 256) (h : v ≠ 10) : ∃ c : UInt8, c ≠ 10 ∧ strOfNums [v] = ⟨#[c]⟩ := by
  refine ⟨UInt8.ofNat v.toNat, ?_, rfl⟩
  intro e
  have := congrArg UInt8.toNat e
  rw [UInt8.toNat_ofNat'] at this
  have h2 : (10 : UInt8).toNat = 10 := rfl
  rw [h2] at this
  omega
theorem gap_l1 (y : List Int) (hy : ∀ x ∈ y, 0 ≤ x ∧ x < 256) (g : List UInt8) : ∀ (m j : Nat) (x : ByteArray) (c : List UInt8) (k : Nat), j + m = y.length → y.length ≤ 1000 → x.size ≤ 1000 + j → x.data.toList = g ++ 35 :: c → (∀ b ∈ c, b ≠ 10) →
    ∃ (z : ByteArray) (c' : List UInt8), z.size ≤ x.size + m + 1 ∧ z.data.toList = g ++ 35 :: c' ++ [10] ∧ (∀ b ∈ c', b ≠ 10) ∧ cohousinglaw07_gap.l1 (k + m + 1) x y (y.length : Int) (j : Int) = some z
  | 0, j, x, c, k, e, hl, hx, hxl, hc => by
    refine ⟨x ++ (⟨#[10]⟩ : ByteArray), c, ?_, ?_, hc, ?_⟩
    · rw [ByteArray.size_append]
      exact Nat.le_refl _
    · rw [app1, hxl]
    · rw [Nat.add_zero, cohousinglaw07_gap.l1, if_neg (by omega), if_pos (by omega)]
  | m + 1, j, x, c, k, e, hl, hx, hxl, hc => by
    have hr := rd_in y hy j (by omega)
    have q1 : (j : Int) < (y.length : Int) := by omega
    have q3 : (0 : Int) ≤ (j : Int) := by omega
    have hw : wrap64 ((j : Int) + 1) = ((j + 1 : Nat) : Int) := by unfold wrap64; omega
    by_cases h10 : rd y (j : Int) = 10
    · obtain ⟨z, c', z1, z2, z3, z4⟩ := gap_l1 y hy g m (j + 1) x c k (by clear hw; omega) hl (by clear hw; omega) hxl hc
      refine ⟨z, c', by clear hw; omega, z2, z3, ?_⟩
      rw [show k + (m + 1) + 1 = (k + m + 1) + 1 by rfl, cohousinglaw07_gap.l1, if_pos q1, if_pos q3, if_pos q1, if_pos h10, hw]
      exact z4
    · obtain ⟨b, hb, eb⟩ := str1 _ hr.1 hr.2 h10
      have hs1 : (x ++ (⟨#[b]⟩ : ByteArray)).size = x.size + 1 := by rw [ByteArray.size_append]; rfl
      obtain ⟨z, c', z1, z2, z3, z4⟩ := gap_l1 y hy g m (j + 1) (x ++ (⟨#[b]⟩ : ByteArray)) (c ++ [b]) k (by clear hw; omega) hl (by clear hw; omega) (by rw [app1, hxl]; simp) (by
        intro a ha
        rcases List.mem_append.mp ha with ha | ha
        · exact hc a ha
        · rw [List.mem_singleton.mp ha]; exact hb)
      have q5 : x.size + (⟨#[b]⟩ : ByteArray).size ≤ 9223372036854775807 := by
        have : (⟨#[b]⟩ : ByteArray).size = 1 := rfl
        clear hw
        omega
      refine ⟨z, c', by clear hw; omega, z2, z3, ?_⟩
      rw [show k + (m + 1) + 1 = (k + m + 1) + 1 by rfl, cohousinglaw07_gap.l1, if_pos q1, if_pos q3, if_pos q1, if_neg h10, Option.bind_some, eb, if_pos q5, hw]
      exact z4
theorem gap_ok (b : List Int) (hl : b.length ≤ 140737488351232) (hb : ∀ x ∈ b, 0 ≤ x ∧ x < 256) (k : Nat) (hk : 200 ≤ k) : ∃ g : ByteArray, Gap g.data.toList ∧ g.size ≤ 42 ∧ cohousinglaw07_gap.f k b = some g := by
  obtain ⟨k', rfl⟩ : ∃ k', k = (k' + 1 + 1 + 22) + min b.length 20 + 1 := ⟨k - 25 - min b.length 20, by omega⟩
  obtain ⟨x, hx, hg, e⟩ := gap_l0 b hb (min b.length 20) 0 ⟨#[]⟩ (k' + 1 + 1 + 22) (by omega) rfl gap_nil
  unfold cohousinglaw07_gap.f
  rw [show ((0 : Int)) = ((0 : Nat) : Int) from rfl, e]
  have j2f : ∀ K, cohousinglaw07_gap.j2 (K + 1) b x false = some x := by
    intro K
    rw [cohousinglaw07_gap.j2, if_neg (by decide)]
  rw [show k' + 1 + 1 + 22 = (k' + 22 + 1) + 1 by omega, cohousinglaw07_gap.j1]
  by_cases h0 : (b.length : Int) > 0
  · have hw : wrap64 ((b.length : Int) - 1) = (b.length : Int) - 1 := wrap_ok (by omega) (by omega)
    rw [if_pos h0, hw, if_pos (by clear hw; omega), if_pos (by clear hw; omega)]
    clear hw
    cases hq : (Int.tmod (rd b ((b.length : Int) - 1)) 2 == 1) with
    | false => exact ⟨x, hg, by omega, j2f _⟩
    | true =>
      have hmn : mn (b.length : Int) 20 = ((min b.length 20 : Nat) : Int) := by
        unfold mn
        split <;> omega
      have hs1 : (x ++ (⟨#[35]⟩ : ByteArray)).size = x.size + 1 := by rw [ByteArray.size_append]; rfl
      have hlen : (b.take (min b.length 20)).length = min b.length 20 := by rw [List.length_take]; omega
      obtain ⟨z, c', z1, z2, z3, z4⟩ := gap_l1 (b.take (min b.length 20)) (fun a ha => hb a (List.mem_of_mem_take ha)) x.data.toList (min b.length 20) 0 (x ++ (⟨#[35]⟩ : ByteArray)) [] (k' + 21 - min b.length 20 + 0) (by omega) (by omega) (by omega) (app1 x 35) (by simp)
      refine ⟨z, by rw [z2]; exact gap_com hg z3, by omega, ?_⟩
      rw [cohousinglaw07_gap.j2, if_pos rfl, if_pos (by omega), hmn, if_pos (by omega), if_pos (by omega), Int.toNat_natCast]
      rw [show k' + 21 - min b.length 20 + 0 + min b.length 20 + 1 = k' + 22 by omega] at z4
      exact z4
  · rw [if_neg h0]
    exact ⟨x, hg, by omega, j2f _⟩
end Go.Proofs.YtmpjoaljincclaaDoor.Pure

