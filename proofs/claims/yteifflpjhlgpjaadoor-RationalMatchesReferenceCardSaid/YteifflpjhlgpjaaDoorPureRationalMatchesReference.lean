/- The law RationalMatchesReference as a statement over numbers and lists: every input answers true. No Go and no memory in it. -/
import Derived.Test.YteifflpjhlgpjaaDoorXx9
import Derived.Test.YteifflpjhlgpjaaDoorRefRat5
namespace Go.Proofs.YteifflpjhlgpjaaDoor.Pure
open Go.RowKit Go.Proofs.YteifflpjhlgpjaaDoor.X Go.Proofs.YteifflpjhlgpjaaDoorW.PrintWords

theorem wf_in {x : Int} (h : (Lit.int .i64 x).wf = true) : inI64 x := by
  simpa [Lit.wf, IntKind.min, IntKind.max, IntKind.signed, IntKind.bits, inI64] using h
theorem make_eq (n d : Int) (hn : inI64 n) (hd : inI64 d) : rational_Make.f n d = some (ratMk n d) := by
  unfold rational_Make.f
  rw [if_pos ⟨hn, hd⟩]
theorem some3 (f : Option (Int × Int × Int)) (h : ∃ r, f = some r) {β : Type} (g : Int × Int × Int → Int × Int × Int → Option β) (b : β) (hg : ∀ r, g r r = some b) : (f.bind fun x => f.bind fun y => g x y) = some b := by
  obtain ⟨r, rfl⟩ := h
  exact hg r
theorem some2 (f : Option (Int × Int)) (h : ∃ r, f = some r) {β : Type} (g : Int × Int → Int × Int → Option β) (b : β) (hg : ∀ r, g r r = some b) : (f.bind fun x => f.bind fun y => g x y) = some b := by
  obtain ⟨r, rfl⟩ := h
  exact hg r
theorem floor_some (n d : Int) (h : inI64 n) (h2 : inI64 d) : ∃ r, rational_Floor.f n d = some r := by
  unfold rational_Floor.f
  rw [valid_eq, Option.bind_some]
  by_cases hv : vld n d = true
  · rw [if_pos hv]
    have := (vld_iff _ _).mp hv
    rw [if_neg (show ¬ d = 0 by omega)]
    split
    · split <;> exact ⟨_, rfl⟩
    · exact ⟨_, rfl⟩
  · rw [if_neg hv]
    exact ⟨_, rfl⟩
theorem compare_some (k : Nat) (a b c d : Int) : ∃ r, rational_Compare.f (k + 1) a b c d = some r := by
  unfold rational_Compare.f
  rw [valid_eq, valid_eq]
  cases vld a b <;> cases vld c d <;> simp [rational_Compare.j0]
  split
  · exact ⟨_, _, rfl⟩
  · split <;> exact ⟨_, _, rfl⟩
theorem parse_some (s : ByteArray) (hs : s.size ≤ 140737488351232) : ∃ r, rational_Parse.f s = some r := by
  rcases parse_ends s hs with h | ⟨n, d, h, _⟩
  · exact ⟨_, h⟩
  · exact ⟨_, h⟩
section
variable (B : Nat) (hB : 40000000000000000000 ≤ B) (a b c d : Int) (s : ByteArray) (ha : inI64 a) (hb : inI64 b) (hc : inI64 c) (hd : inI64 d) (hs : s.size ≤ 140737488351232)
theorem mr7 (hB : 40000000000000000000 ≤ B) (ha : inI64 a) (hb : inI64 b) (hs : s.size ≤ 140737488351232) : cohousinglaw01_RationalMatchesReference.j7 (B + 1) s true a b = some true := by
  rw [cohousinglaw01_RationalMatchesReference.j7, ref_text B (by unfold Big; omega) a b ha hb, text_eq a b ha hb, parse_same B hB s hs]
  obtain ⟨r, hr⟩ := parse_some s hs
  rw [hr]
  simp
theorem mr6 (hB : 40000000000000000000 ≤ B) (ha : inI64 a) (hb : inI64 b) (hs : s.size ≤ 140737488351232) : cohousinglaw01_RationalMatchesReference.j6 (B + 2) s true a b = some true := by
  rw [cohousinglaw01_RationalMatchesReference.j6, ref_floor (B + 1) (by unfold Big; omega) a b ha hb]
  refine some2 _ (floor_some a b ha hb) _ _ (fun r => ?_)
  rw [if_pos rfl, if_pos rfl, beq_self_eq_true]
  exact mr7 B a b s hB ha hb hs
theorem mr5 (hB : 40000000000000000000 ≤ B) (ha : inI64 a) (hb : inI64 b) (hc : inI64 c) (hd : inI64 d) (hs : s.size ≤ 140737488351232) : cohousinglaw01_RationalMatchesReference.j5 (B + 3) s true a b c d = some true := by
  rw [cohousinglaw01_RationalMatchesReference.j5, ref_compare (B + 2) (by unfold Big; omega) a b c d ha hb hc hd]
  refine some2 _ (compare_some (B + 1) a b c d) _ _ (fun r => ?_)
  rw [if_pos rfl, if_pos rfl, beq_self_eq_true]
  exact mr6 B a b s hB ha hb hs
theorem mr4 (hB : 40000000000000000000 ≤ B) (ha : inI64 a) (hb : inI64 b) (hc : inI64 c) (hd : inI64 d) (hs : s.size ≤ 140737488351232) : cohousinglaw01_RationalMatchesReference.j4 (B + 4) s true a b c d = some true := by
  rw [cohousinglaw01_RationalMatchesReference.j4, ref_div (B + 3) (by unfold Big; omega) a b c d ha hb hc hd]
  refine some3 _ ⟨_, rfl⟩ _ _ (fun r => ?_)
  rw [if_pos rfl, if_pos (by simp), beq_self_eq_true]
  exact mr5 B a b c d s hB ha hb hc hd hs
theorem mr3 (hB : 40000000000000000000 ≤ B) (ha : inI64 a) (hb : inI64 b) (hc : inI64 c) (hd : inI64 d) (hs : s.size ≤ 140737488351232) : cohousinglaw01_RationalMatchesReference.j3 (B + 5) s true a b c d = some true := by
  rw [cohousinglaw01_RationalMatchesReference.j3, ref_mul (B + 4) (by unfold Big; omega) a b c d ha hb hc hd]
  refine some3 _ ⟨_, rfl⟩ _ _ (fun r => ?_)
  rw [if_pos rfl, if_pos (by simp), beq_self_eq_true]
  exact mr4 B a b c d s hB ha hb hc hd hs
theorem mr2 (hB : 40000000000000000000 ≤ B) (ha : inI64 a) (hb : inI64 b) (hc : inI64 c) (hd : inI64 d) (hs : s.size ≤ 140737488351232) : cohousinglaw01_RationalMatchesReference.j2 (B + 6) s true a b c d = some true := by
  rw [cohousinglaw01_RationalMatchesReference.j2, ref_sub (B + 5) (by unfold Big; omega) a b c d ha hb hc hd]
  refine some3 _ ⟨_, rfl⟩ _ _ (fun r => ?_)
  rw [if_pos rfl, if_pos (by simp), beq_self_eq_true]
  exact mr3 B a b c d s hB ha hb hc hd hs
theorem mr1 (hB : 40000000000000000000 ≤ B) (ha : inI64 a) (hb : inI64 b) (hc : inI64 c) (hd : inI64 d) (hs : s.size ≤ 140737488351232) : cohousinglaw01_RationalMatchesReference.j1 (B + 7) s true a b c d = some true := by
  rw [cohousinglaw01_RationalMatchesReference.j1, ref_add (B + 6) (by unfold Big; omega) a b c d ha hb hc hd]
  refine some3 _ ⟨_, rfl⟩ _ _ (fun r => ?_)
  rw [if_pos rfl, if_pos (by simp), beq_self_eq_true]
  exact mr2 B a b c d s hB ha hb hc hd hs
theorem mr0 (hB : 40000000000000000000 ≤ B) (ha : inI64 a) (hb : inI64 b) (hc : inI64 c) (hd : inI64 d) (hs : s.size ≤ 140737488351232) (n e : Int) (hn : inI64 n) (he : inI64 e) : cohousinglaw01_RationalMatchesReference.j0 (B + 8) n e s true a b c d = some true := by
  rw [cohousinglaw01_RationalMatchesReference.j0, ref_make (B + 7) (by unfold Big; omega) n e hn he, make_eq n e hn he]
  refine some3 _ ⟨_, rfl⟩ _ _ (fun r => ?_)
  rw [if_pos rfl, if_pos (by simp), beq_self_eq_true]
  exact mr1 B a b c d s hB ha hb hc hd hs
end
theorem RationalMatchesReference : ∀ (a0_0 : Int) (a0_1 : Int) (a1_0 : Int) (a1_1 : Int) (a2 : Int) (a3 : Int) (a4 : ByteArray), (Lit.int .i64 a0_0).wf = true → (Lit.int .i64 a0_1).wf = true → (Lit.int .i64 a1_0).wf = true → (Lit.int .i64 a1_1).wf = true → (Lit.int .i64 a2).wf = true → (Lit.int .i64 a3).wf = true → a4.size ≤ 140737488351232 → ∃ k, cohousinglaw01_RationalMatchesReference.f k a0_0 a0_1 a1_0 a1_1 a2 a3 a4 = some true := by
  intro a b c d n e s ha hb hc hd hn he hs
  refine ⟨40000000000000000000 + 8, ?_⟩
  unfold cohousinglaw01_RationalMatchesReference.f
  rw [at_rounds cohousinglaw01_head.mono (show 10 ≤ 40000000000000000000 + 8 from Nat.le_of_ble_eq_true rfl) head_true, Option.bind_some, if_pos rfl, valid_eq, ref_valid _ (show Big (40000000000000000000 + 8) from Nat.le_of_ble_eq_true rfl) a b (wf_in ha) (wf_in hb), Option.bind_some, Option.bind_some, beq_self_eq_true]
  exact mr0 40000000000000000000 a b c d s (Nat.le_refl _) (wf_in ha) (wf_in hb) (wf_in hc) (wf_in hd) hs n e (wf_in hn) (wf_in he)
end Go.Proofs.YteifflpjhlgpjaaDoor.Pure

