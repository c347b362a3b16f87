-- Written by a program of mine (wip/tools/xprint.py) over the kit's print.py: printed functions and hand-proved ones side by side.
import Derived.Test.YthcjocojngochaaGreatDoorXx0
import Derived.Test.YthcjocojngochaaGreatDoorXx9
import Derived.Test.YthcjocojngochaaGreatDoorXx13
import Derived.Test.YthcjocojngochaaGreatDoorXx14
namespace Go.Proofs.YthcjocojngochaaGreatDoor.X
open Go.RowKit Go.Proofs.YthcjocojngochaaGreatDoorW.PrintWords Go.Proofs.YthcjocojngochaaGreatDoorW.PrintLast Go.Proofs.YthcjocojngochaaGreatDoorW.PrintMore
attribute [local go_sem] max2_int min2_int max_two min_two max_three min_three max_four min_four   -- for this text's walks alone
set_option linter.unusedVariables false
set_option linter.unusedSimpArgs false

/-! ### cohousinglaw16_FactsLate: function 3 -/
mutual
def cohousinglaw16_FactsLate.j0 : Nat → List (S26) → Int → ByteArray → Int → Int → List (S26) → Bool → Int → ByteArray → Int → Int → Int → Int → Bool → Option (Bool)
  | 0, _, _, _, _, _, _, _, _, _, _, _, _, _, _ => none
  | k + 1, x0, x2, x3, x4, x5, x14, x37, x171000, x171001, x171002, x171003, x171004, x171005, x171006 => if x37 = true then (some true) else (cohousinglaw16_FactsLate.l0 k x0 x2 x3 x4 x5 true x14 x0 (x0.length : Int) 0 x171000 x171001 x171002 x171003 x171004 x171005 x171006)
def cohousinglaw16_FactsLate.l0 : Nat → List (S26) → Int → ByteArray → Int → Int → Bool → List (S26) → List (S26) → Int → Int → Int → ByteArray → Int → Int → Int → Int → Bool → Option (Bool)
  | 0, _, _, _, _, _, _, _, _, _, _, _, _, _, _, _, _, _ => none
  | k + 1, x0, x2, x3, x4, x5, x13, x14, x39, x40, x41, x171000, x171001, x171002, x171003, x171004, x171005, x171006 => if x41 < x40 then (if 0 ≤ x41 then (if x41 < (x39.length : Int) then (if ((rd_T26 x39 x41).f4) ≥ x171005 then (if x13 = true then (some true) else (none)) else (cohousinglaw16_FactsLate.l0 k x0 x2 x3 x4 x5 x13 x14 x39 x40 (wrap64 (x41 + 1)) x171000 x171001 x171002 x171003 x171004 x171005 x171006)) else (none)) else (none)) else ((facts_Value.f x0 x2 x3 x4 x5).bind fun bt187 => ((facts_Value.f x14 x2 x3 x4 x5).bind fun bt190 => (if bt187.2.2 = 0 then (cohousinglaw16_FactsLate.j2 k x2 x3 x4 x5 x13 bt187.1 bt187.2.1 bt187.2.2 bt190.1 bt190.2.1 bt190.2.2 (bt190.2.2 != 0) x171000 x171001 x171002 x171003 x171004 x171005 x171006) else (cohousinglaw16_FactsLate.j2 k x2 x3 x4 x5 x13 bt187.1 bt187.2.1 bt187.2.2 bt190.1 bt190.2.1 bt190.2.2 true x171000 x171001 x171002 x171003 x171004 x171005 x171006))))
def cohousinglaw16_FactsLate.j2 : Nat → Int → ByteArray → Int → Int → Bool → Int → Bool → Int → Int → Bool → Int → Bool → Int → ByteArray → Int → Int → Int → Int → Bool → Option (Bool)
  | 0, _, _, _, _, _, _, _, _, _, _, _, _, _, _, _, _, _, _, _ => none
  | k + 1, x2, x3, x4, x5, x13, x17, x18, x19, x20, x21, x22, x77, x171000, x171001, x171002, x171003, x171004, x171005, x171006 => if x77 = true then (if x13 = true then (if x19 = x22 then (some true) else (none)) else (none)) else (if x171000 = x2 then (if x171001.toList = x3.toList then (if x171003 ≤ x4 then (if x4 < x171004 then (if x171005 ≤ x5 then (if x13 = true then (if (x21 == (!x171006)) = true then (if x20 = x171002 then (some true) else (none)) else (none)) else (none)) else (if x13 = true then (if x17 = x20 then (if (x18 == x21) = true then (some true) else (none)) else (none)) else (none))) else (if x13 = true then (if x17 = x20 then (if (x18 == x21) = true then (some true) else (none)) else (none)) else (none))) else (if x13 = true then (if x17 = x20 then (if (x18 == x21) = true then (some true) else (none)) else (none)) else (none))) else (if x13 = true then (if x17 = x20 then (if (x18 == x21) = true then (some true) else (none)) else (none)) else (none))) else (if x13 = true then (if x17 = x20 then (if (x18 == x21) = true then (some true) else (none)) else (none)) else (none)))
end
def cohousinglaw16_FactsLate.f (k : Nat) (l0 : List (S26)) (a1_0 : Int) (a1_1 : ByteArray) (a1_2 : Int) (a1_3 : Int) (a1_4 : Int) (a1_5 : Int) (a1_6 : Bool) (a2 : Int) (a3 : ByteArray) (a4 : Int) (a5 : Int) : Option (Bool) := (cohousinglaw16_head.f k).bind fun t171 => (if t171 = true then ((some (([] : List (S26)) : List (S26))).bind fun y172 => (if y172.length + l0.length < 2199023255552 then ((some (y172 ++ l0 : List (S26))).bind fun y175 => ((some (([(⟨a1_0, a1_1, a1_2, (⟨a1_3, a1_4⟩ : S24), a1_5, a1_6⟩ : S26)] : List (S26)) : List (S26))).bind fun y178 => (if y175.length + y178.length < 2199023255552 then ((some (y175 ++ y178 : List (S26))).bind fun y181 => (if (l0.length : Int) > 400 then (cohousinglaw16_FactsLate.j0 k l0 a2 a3 a4 a5 y181 true a1_0 a1_1 a1_2 a1_3 a1_4 a1_5 a1_6) else ((facts_Valid.f y181).bind fun t184 => (cohousinglaw16_FactsLate.j0 k l0 a2 a3 a4 a5 y181 (!t184) a1_0 a1_1 a1_2 a1_3 a1_4 a1_5 a1_6)))) else (none)))) else (none))) else (none))
theorem cohousinglaw16_FactsLate.mono_l : ∀ k, (∀ y0 y1 y2 y3 y4 y5 y6 y7 y8 y9 y10 y11 y12 y13, LeO (cohousinglaw16_FactsLate.j0 k y0 y1 y2 y3 y4 y5 y6 y7 y8 y9 y10 y11 y12 y13) (cohousinglaw16_FactsLate.j0 (k + 1) y0 y1 y2 y3 y4 y5 y6 y7 y8 y9 y10 y11 y12 y13)) ∧ (∀ y0 y1 y2 y3 y4 y5 y6 y7 y8 y9 y10 y11 y12 y13 y14 y15 y16, LeO (cohousinglaw16_FactsLate.l0 k y0 y1 y2 y3 y4 y5 y6 y7 y8 y9 y10 y11 y12 y13 y14 y15 y16) (cohousinglaw16_FactsLate.l0 (k + 1) y0 y1 y2 y3 y4 y5 y6 y7 y8 y9 y10 y11 y12 y13 y14 y15 y16)) ∧ (∀ y0 y1 y2 y3 y4 y5 y6 y7 y8 y9 y10 y11 y12 y13 y14 y15 y16 y17 y18, LeO (cohousinglaw16_FactsLate.j2 k y0 y1 y2 y3 y4 y5 y6 y7 y8 y9 y10 y11 y12 y13 y14 y15 y16 y17 y18) (cohousinglaw16_FactsLate.j2 (k + 1) y0 y1 y2 y3 y4 y5 y6 y7 y8 y9 y10 y11 y12 y13 y14 y15 y16 y17 y18))
  | 0 => ⟨fun _ _ _ _ _ _ _ _ _ _ _ _ _ _ r h => by simp [cohousinglaw16_FactsLate.j0] at h, fun _ _ _ _ _ _ _ _ _ _ _ _ _ _ _ _ _ r h => by simp [cohousinglaw16_FactsLate.l0] at h, fun _ _ _ _ _ _ _ _ _ _ _ _ _ _ _ _ _ _ _ r h => by simp [cohousinglaw16_FactsLate.j2] at h⟩
  | k + 1 => by
    obtain ⟨ih0, ih1, ih2⟩ := cohousinglaw16_FactsLate.mono_l k
    refine ⟨?_, ?_, ?_⟩
    · intro y0 y1 y2 y3 y4 y5 y6 y7 y8 y9 y10 y11 y12 y13
      unfold cohousinglaw16_FactsLate.j0
      repeat' first
      | (with_reducible exact ih0 _ _ _ _ _ _ _ _ _ _ _ _ _ _)
      | (with_reducible exact ih1 _ _ _ _ _ _ _ _ _ _ _ _ _ _ _ _ _)
      | (with_reducible exact ih2 _ _ _ _ _ _ _ _ _ _ _ _ _ _ _ _ _ _ _)
      | (with_reducible exact cohousinglaw16_head.mono _)
      | (with_reducible exact LeO.refl _)
      | (with_reducible exact LeO.none _)
      | (with_reducible refine LeO.ite ?_ ?_)
      | (with_reducible refine LeO.bind ?_ (fun _ => ?_))
      | exact ih0 _ _ _ _ _ _ _ _ _ _ _ _ _ _
      | exact ih1 _ _ _ _ _ _ _ _ _ _ _ _ _ _ _ _ _
      | exact ih2 _ _ _ _ _ _ _ _ _ _ _ _ _ _ _ _ _ _ _
      | exact cohousinglaw16_head.mono _
      | exact LeO.none _
      | refine LeO.ite ?_ ?_
      | refine LeO.bind ?_ (fun _ => ?_)
    · intro y0 y1 y2 y3 y4 y5 y6 y7 y8 y9 y10 y11 y12 y13 y14 y15 y16
      unfold cohousinglaw16_FactsLate.l0
      repeat' first
      | (with_reducible exact ih0 _ _ _ _ _ _ _ _ _ _ _ _ _ _)
      | (with_reducible exact ih1 _ _ _ _ _ _ _ _ _ _ _ _ _ _ _ _ _)
      | (with_reducible exact ih2 _ _ _ _ _ _ _ _ _ _ _ _ _ _ _ _ _ _ _)
      | (with_reducible exact cohousinglaw16_head.mono _)
      | (with_reducible exact LeO.refl _)
      | (with_reducible exact LeO.none _)
      | (with_reducible refine LeO.ite ?_ ?_)
      | (with_reducible refine LeO.bind ?_ (fun _ => ?_))
      | exact ih0 _ _ _ _ _ _ _ _ _ _ _ _ _ _
      | exact ih1 _ _ _ _ _ _ _ _ _ _ _ _ _ _ _ _ _
      | exact ih2 _ _ _ _ _ _ _ _ _ _ _ _ _ _ _ _ _ _ _
      | exact cohousinglaw16_head.mono _
      | exact LeO.none _
      | refine LeO.ite ?_ ?_
      | refine LeO.bind ?_ (fun _ => ?_)
    · intro y0 y1 y2 y3 y4 y5 y6 y7 y8 y9 y10 y11 y12 y13 y14 y15 y16 y17 y18
      unfold cohousinglaw16_FactsLate.j2
      repeat' first
      | (with_reducible exact ih0 _ _ _ _ _ _ _ _ _ _ _ _ _ _)
      | (with_reducible exact ih1 _ _ _ _ _ _ _ _ _ _ _ _ _ _ _ _ _)
      | (with_reducible exact ih2 _ _ _ _ _ _ _ _ _ _ _ _ _ _ _ _ _ _ _)
      | (with_reducible exact cohousinglaw16_head.mono _)
      | (with_reducible exact LeO.refl _)
      | (with_reducible exact LeO.none _)
      | (with_reducible refine LeO.ite ?_ ?_)
      | (with_reducible refine LeO.bind ?_ (fun _ => ?_))
      | exact ih0 _ _ _ _ _ _ _ _ _ _ _ _ _ _
      | exact ih1 _ _ _ _ _ _ _ _ _ _ _ _ _ _ _ _ _
      | exact ih2 _ _ _ _ _ _ _ _ _ _ _ _ _ _ _ _ _ _ _
      | exact cohousinglaw16_head.mono _
      | exact LeO.none _
      | refine LeO.ite ?_ ?_
      | refine LeO.bind ?_ (fun _ => ?_)
theorem cohousinglaw16_FactsLate.mono : ∀ a0 a1 a2 a3 a4 a5 a6 a7 a8 a9 a10 a11 k, LeO (cohousinglaw16_FactsLate.f k a0 a1 a2 a3 a4 a5 a6 a7 a8 a9 a10 a11) (cohousinglaw16_FactsLate.f (k + 1) a0 a1 a2 a3 a4 a5 a6 a7 a8 a9 a10 a11) := by
  intro a0 a1 a2 a3 a4 a5 a6 a7 a8 a9 a10 a11 k
  obtain ⟨ih0, ih1, ih2⟩ := cohousinglaw16_FactsLate.mono_l k
  unfold cohousinglaw16_FactsLate.f
  repeat' first
      | (with_reducible exact ih0 _ _ _ _ _ _ _ _ _ _ _ _ _ _)
      | (with_reducible exact ih1 _ _ _ _ _ _ _ _ _ _ _ _ _ _ _ _ _)
      | (with_reducible exact ih2 _ _ _ _ _ _ _ _ _ _ _ _ _ _ _ _ _ _ _)
      | (with_reducible exact cohousinglaw16_head.mono _)
      | (with_reducible exact LeO.refl _)
      | (with_reducible exact LeO.none _)
      | (with_reducible refine LeO.ite ?_ ?_)
      | (with_reducible refine LeO.bind ?_ (fun _ => ?_))
      | exact ih0 _ _ _ _ _ _ _ _ _ _ _ _ _ _
      | exact ih1 _ _ _ _ _ _ _ _ _ _ _ _ _ _ _ _ _
      | exact ih2 _ _ _ _ _ _ _ _ _ _ _ _ _ _ _ _ _ _ _
      | exact cohousinglaw16_head.mono _
      | exact LeO.none _
      | refine LeO.ite ?_ ?_
      | refine LeO.bind ?_ (fun _ => ?_)
set_option maxHeartbeats 8000000 in
set_option maxRecDepth 100000 in
theorem cohousinglaw16_FactsLate.calls (k : Nat) (A0 : Option Addr) (c0 : Nat) (l0 : List (S26)) (a1_0 : Int) (a1_1 : ByteArray) (a1_2 : Int) (a1_3 : Int) (a1_4 : Int) (a1_5 : Int) (a1_6 : Bool) (a2 : Int) (a3 : ByteArray) (a4 : Int) (a5 : Int) (r : Bool) (w : World) (hr0 : Kd.C k26 w A0 l0.length l0) (hc0 : l0.length ≤ c0) (h : cohousinglaw16_FactsLate.f k l0 a1_0 a1_1 a1_2 a1_3 a1_4 a1_5 a1_6 a2 a3 a4 a5 = some r) :
    Calls Tryz.prog 3 #[.slice A0 l0.length c0, .agg #[.int .i64 a1_0, .string a1_1, .int .i64 a1_2, .int .i64 a1_3, .int .i64 a1_4, .int .i64 a1_5, .bool a1_6], .int .i64 a2, .string a3, .int .i64 a4, .int .i64 a5] w fun e w' => e = .returned (.bool r) ∧ Below w.heap.size w w' := by
  have hu26 := Tryz.underlying26
  have HR0 := Aside0.mk hr0
  have HC0 := Aside0.mk hc0
  clear hr0 hc0
  have HB := Aside0.mk (Below.refl w.heap.size w)
  have H : ((cohousinglaw16_head.f k).bind fun t171 => (if t171 = true then ((some (([] : List (S26)) : List (S26))).bind fun y172 => (if y172.length + l0.length < 2199023255552 then ((some (y172 ++ l0 : List (S26))).bind fun y175 => ((some (([(⟨a1_0, a1_1, a1_2, (⟨a1_3, a1_4⟩ : S24), a1_5, a1_6⟩ : S26)] : List (S26)) : List (S26))).bind fun y178 => (if y175.length + y178.length < 2199023255552 then ((some (y175 ++ y178 : List (S26))).bind fun y181 => (if (l0.length : Int) > 400 then (cohousinglaw16_FactsLate.j0 k l0 a2 a3 a4 a5 y181 true a1_0 a1_1 a1_2 a1_3 a1_4 a1_5 a1_6) else ((facts_Valid.f y181).bind fun t184 => (cohousinglaw16_FactsLate.j0 k l0 a2 a3 a4 a5 y181 (!t184) a1_0 a1_1 a1_2 a1_3 a1_4 a1_5 a1_6)))) else (none)))) else (none))) else (none))) = some r := h
  clear h
  replace H := Option.bind_eq_some_iff.mp H
  obtain ⟨t171, A70, H⟩ := H
  replace H : (if t171 = true then ((some (([] : List (S26)) : List (S26))).bind fun y172 => (if y172.length + l0.length < 2199023255552 then ((some (y172 ++ l0 : List (S26))).bind fun y175 => ((some (([(⟨a1_0, a1_1, a1_2, (⟨a1_3, a1_4⟩ : S24), a1_5, a1_6⟩ : S26)] : List (S26)) : List (S26))).bind fun y178 => (if y175.length + y178.length < 2199023255552 then ((some (y175 ++ y178 : List (S26))).bind fun y181 => (if (l0.length : Int) > 400 then (cohousinglaw16_FactsLate.j0 k l0 a2 a3 a4 a5 y181 true a1_0 a1_1 a1_2 a1_3 a1_4 a1_5 a1_6) else ((facts_Valid.f y181).bind fun t184 => (cohousinglaw16_FactsLate.j0 k l0 a2 a3 a4 a5 y181 (!t184) a1_0 a1_1 a1_2 a1_3 a1_4 a1_5 a1_6)))) else (none)))) else (none))) else (none)) = some r := H
  have A7 := Aside0.mk A70
  clear A70
  by_cases c8 : t171 = true
  · subst c8
    have H1 : ((some (([] : List (S26)) : List (S26))).bind fun y172 => (if y172.length + l0.length < 2199023255552 then ((some (y172 ++ l0 : List (S26))).bind fun y175 => ((some (([(⟨a1_0, a1_1, a1_2, (⟨a1_3, a1_4⟩ : S24), a1_5, a1_6⟩ : S26)] : List (S26)) : List (S26))).bind fun y178 => (if y175.length + y178.length < 2199023255552 then ((some (y175 ++ y178 : List (S26))).bind fun y181 => (if (l0.length : Int) > 400 then (cohousinglaw16_FactsLate.j0 k l0 a2 a3 a4 a5 y181 true a1_0 a1_1 a1_2 a1_3 a1_4 a1_5 a1_6) else ((facts_Valid.f y181).bind fun t184 => (cohousinglaw16_FactsLate.j0 k l0 a2 a3 a4 a5 y181 (!t184) a1_0 a1_1 a1_2 a1_3 a1_4 a1_5 a1_6)))) else (none)))) else (none))) = some r := by rw [if_pos rfl] at H; exact H
    clear H
    have H := H1
    clear H1
    obtain ⟨y172, hy172⟩ : ∃ y_ : List (S26), y_ = (([] : List (S26))) := ⟨_, rfl⟩
    replace H : (if y172.length + l0.length < 2199023255552 then ((some (y172 ++ l0 : List (S26))).bind fun y175 => ((some (([(⟨a1_0, a1_1, a1_2, (⟨a1_3, a1_4⟩ : S24), a1_5, a1_6⟩ : S26)] : List (S26)) : List (S26))).bind fun y178 => (if y175.length + y178.length < 2199023255552 then ((some (y175 ++ y178 : List (S26))).bind fun y181 => (if (l0.length : Int) > 400 then (cohousinglaw16_FactsLate.j0 k l0 a2 a3 a4 a5 y181 true a1_0 a1_1 a1_2 a1_3 a1_4 a1_5 a1_6) else ((facts_Valid.f y181).bind fun t184 => (cohousinglaw16_FactsLate.j0 k l0 a2 a3 a4 a5 y181 (!t184) a1_0 a1_1 a1_2 a1_3 a1_4 a1_5 a1_6)))) else (none)))) else (none)) = some r := by first | (rw [hy172]; with_reducible exact H) | (have H2_ := (Option.bind_some _ _).symm.trans H; rw [hy172]; with_reducible exact H2_) | (have H2_ := (Option.bind_some _ _).symm.trans H; with_reducible exact H2_) | with_reducible exact H | (rw [hy172]; exact H) | exact H
    have Ny172 := Aside0.mk hy172
    clear hy172
    by_cases c9 : y172.length + l0.length < 2199023255552
    · rw [if_pos c9] at H
      have LMc9 := Aside0.mk c9
      clear c9
      obtain ⟨y175, hy175⟩ : ∃ y_ : List (S26), y_ = (y172 ++ l0) := ⟨_, rfl⟩
      replace H : ((some (([(⟨a1_0, a1_1, a1_2, (⟨a1_3, a1_4⟩ : S24), a1_5, a1_6⟩ : S26)] : List (S26)) : List (S26))).bind fun y178 => (if y175.length + y178.length < 2199023255552 then ((some (y175 ++ y178 : List (S26))).bind fun y181 => (if (l0.length : Int) > 400 then (cohousinglaw16_FactsLate.j0 k l0 a2 a3 a4 a5 y181 true a1_0 a1_1 a1_2 a1_3 a1_4 a1_5 a1_6) else ((facts_Valid.f y181).bind fun t184 => (cohousinglaw16_FactsLate.j0 k l0 a2 a3 a4 a5 y181 (!t184) a1_0 a1_1 a1_2 a1_3 a1_4 a1_5 a1_6)))) else (none))) = some r := by first | (rw [hy175]; with_reducible exact H) | (have H2_ := (Option.bind_some _ _).symm.trans H; rw [hy175]; with_reducible exact H2_) | (have H2_ := (Option.bind_some _ _).symm.trans H; with_reducible exact H2_) | with_reducible exact H | (rw [hy175]; exact H) | exact H
      have Ny175 := Aside0.mk hy175
      clear hy175
      obtain ⟨y178, hy178⟩ : ∃ y_ : List (S26), y_ = (([(⟨a1_0, a1_1, a1_2, (⟨a1_3, a1_4⟩ : S24), a1_5, a1_6⟩ : S26)] : List (S26))) := ⟨_, rfl⟩
      replace H : (if y175.length + y178.length < 2199023255552 then ((some (y175 ++ y178 : List (S26))).bind fun y181 => (if (l0.length : Int) > 400 then (cohousinglaw16_FactsLate.j0 k l0 a2 a3 a4 a5 y181 true a1_0 a1_1 a1_2 a1_3 a1_4 a1_5 a1_6) else ((facts_Valid.f y181).bind fun t184 => (cohousinglaw16_FactsLate.j0 k l0 a2 a3 a4 a5 y181 (!t184) a1_0 a1_1 a1_2 a1_3 a1_4 a1_5 a1_6)))) else (none)) = some r := by first | (rw [hy178]; with_reducible exact H) | (have H2_ := (Option.bind_some _ _).symm.trans H; rw [hy178]; with_reducible exact H2_) | (have H2_ := (Option.bind_some _ _).symm.trans H; with_reducible exact H2_) | with_reducible exact H | (rw [hy178]; exact H) | exact H
      have Ny178 := Aside0.mk hy178
      clear hy178
      by_cases c10 : y175.length + y178.length < 2199023255552
      · rw [if_pos c10] at H
        have LMc10 := Aside0.mk c10
        clear c10
        obtain ⟨y181, hy181⟩ : ∃ y_ : List (S26), y_ = (y175 ++ y178) := ⟨_, rfl⟩
        replace H : (if (l0.length : Int) > 400 then (cohousinglaw16_FactsLate.j0 k l0 a2 a3 a4 a5 y181 true a1_0 a1_1 a1_2 a1_3 a1_4 a1_5 a1_6) else ((facts_Valid.f y181).bind fun t184 => (cohousinglaw16_FactsLate.j0 k l0 a2 a3 a4 a5 y181 (!t184) a1_0 a1_1 a1_2 a1_3 a1_4 a1_5 a1_6))) = some r := by first | (rw [hy181]; with_reducible exact H) | (have H2_ := (Option.bind_some _ _).symm.trans H; rw [hy181]; with_reducible exact H2_) | (have H2_ := (Option.bind_some _ _).symm.trans H; with_reducible exact H2_) | with_reducible exact H | (rw [hy181]; exact H) | exact H
        have Ny181 := Aside0.mk hy181
        clear hy181
        have HC11 := Aside0.mk H
        clear H
        go_enter Tryz.func3, Tryz.ntmps3
        try go_wp2_with (first | ((with_reducible refine gate_dst (N := 7) rfl ?_); refine box_event ?hg (N := 7) ?hd (cs := #[.int .i64 a1_0, .string a1_1, .int .i64 a1_2, .int .i64 a1_3, .int .i64 a1_4, .int .i64 a1_5, .bool a1_6]) (t := 26) ?hr ?_; (case hd => rfl); (case hg => rfl); (case hr => first | (go_simp; done) | (go_simp; rfl)); intro gb170 hg w12 hbox hb; have n0_ := Aside0.mk (below_step (by repeat (first | (with_reducible first | exact HB.out | apply below_alloc | apply pw_below_drewN | apply below_drew1) | exact HB.out)) hb); have n1_ := Aside0.mk (hbox); have n2_ := Aside0.mk ((by rw [hg]; exact (below_size (by repeat (first | (with_reducible first | exact HB.out | apply below_alloc | apply pw_below_drewN | apply below_drew1) | exact HB.out))) : w.heap.size ≤ gb170)); have n3_ := Aside0.mk ((by rw [hg]; exact (below_size (by repeat (first | (with_reducible first | exact HB.out | apply below_alloc | apply pw_below_drewN | apply below_drew1) | exact HB.out))) : w.heap.size ≤ gb170)); clear HB; have HB := n0_; have BK170 := n1_; have GW170 := n2_; have GE170 := n3_; clear n0_ n1_ n2_ n3_; clear hb hbox hg) | ((with_reducible refine gate_callee (f := 10) rfl ?_); refine goesL_ (some 23) rfl rfl Tryz.func10 (by kernel_rfl) rfl #[] rfl (by (try simp only [List.map_toArray, List.map_cons, List.map_nil]); first | done | rfl | (simp only [List.length_drop, List.length_take]; rfl)) ?_; (with_reducible refine (cohousinglaw16_head.calls k  true _ A7.out).mono ?_); rintro e w13 ⟨rfl, hb⟩; refine ⟨_, rfl, ?_⟩; have n0_ := Aside0.mk (blk_below (g := gb170) (o := .cells #[.int .i64 a1_0, .string a1_1, .int .i64 a1_2, .int .i64 a1_3, .int .i64 a1_4, .int .i64 a1_5, .bool a1_6] 26 (0, 0)) (by (with_reducible repeat (first | refine blk_drewN ?_ _ | refine blk_drew ?_ | refine blk_alloc ?_ _)); exact BK170.out) hb); have n1_ := Aside0.mk (below_step (by repeat (first | (with_reducible first | exact HB.out | apply below_alloc | apply pw_below_drewN | apply below_drew1 | refine below_set ?_ GE170.out) | exact HB.out)) hb); clear BK170; clear HB; have BK170 := n0_; have HB := n1_; clear n0_ n1_; (try clear hb); (try clear hb2); (try clear hk); (try clear hi)))
        have n0_ := Aside0.mk (blk_drew BK170.out)
        have n1_ := Aside0.mk (below_drew1 HB.out)
        clear BK170
        clear HB
        have BK170 := n0_
        have HB := n1_
        clear n0_ n1_
        refine start_ (n := 7) (S := fun w' => w'.cell? ⟨gb170, 0, none⟩ = some (.int .i64 a1_0) ∧ w'.cell? ⟨gb170, 1, none⟩ = some (.string a1_1) ∧ w'.cell? ⟨gb170, 2, none⟩ = some (.int .i64 a1_2) ∧ w'.cell? ⟨gb170, 3, none⟩ = some (.int .i64 a1_3) ∧ w'.cell? ⟨gb170, 4, none⟩ = some (.int .i64 a1_4) ∧ w'.cell? ⟨gb170, 5, none⟩ = some (.int .i64 a1_5) ∧ w'.cell? ⟨gb170, 6, none⟩ = some (.bool a1_6)) (ds := []) #[false, false, false, false, false, false, false] (by kernel_rfl) rfl rfl ⟨(blk_cell BK170.out 0).trans rfl, (blk_cell BK170.out 1).trans rfl, (blk_cell BK170.out 2).trans rfl, (blk_cell BK170.out 3).trans rfl, (blk_cell BK170.out 4).trans rfl, (blk_cell BK170.out 5).trans rfl, (blk_cell BK170.out 6).trans rfl⟩ (fun hHeld => ?_)
        generalize w13.drew = w14 at BK170 HB hHeld ⊢
        refine pure_ (i := 1) (N := some 25) (v := ?_) (a' := ?_) #[false, true, false, false, false, false, false] rfl rfl (by kernel_rfl) (fun _ _ _ h => h) (Or.inl ⟨by rfl, ?_⟩) ?_ ?_
        rotate_left
        · intro w'
          go_simp
          with_reducible rfl
        rotate_left
        · simp only [Act.put, List.setIfInBounds_toArray, List.set_cons_zero, List.set_cons_succ, i64_w, i32_w]
          rfl
        refine take_ (i := 3) (N := some 27) (v := ?_) (a' := ?_) #[false, true, false, true, false, false, false] rfl rfl (by kernel_rfl) (fun _ _ _ h => h) (Or.inl ⟨by rfl, ?_⟩) hHeld ?_ ?_
        rotate_left
        · rintro w' ⟨s0, s1, s2, s3, s4, s5, s6⟩
          go_simp
          with_reducible rfl
        rotate_left
        · simp only [Act.put, List.setIfInBounds_toArray, List.set_cons_zero, List.set_cons_succ, i64_w, i32_w]
          rfl
        refine join_ (σ := Value × Value × Value) 2 #[true, true, true, true, true, false, false] (fun s_ => [(24, s_.1), (26, s_.2.1), (28, s_.2.2)]) (fun s_ w' => (w'.cell? ⟨gb170, 0, none⟩ = some (.int .i64 a1_0) ∧ w'.cell? ⟨gb170, 1, none⟩ = some (.string a1_1) ∧ w'.cell? ⟨gb170, 2, none⟩ = some (.int .i64 a1_2) ∧ w'.cell? ⟨gb170, 3, none⟩ = some (.int .i64 a1_3) ∧ w'.cell? ⟨gb170, 4, none⟩ = some (.int .i64 a1_4) ∧ w'.cell? ⟨gb170, 5, none⟩ = some (.int .i64 a1_5) ∧ w'.cell? ⟨gb170, 6, none⟩ = some (.bool a1_6)) ∧ (Kd.R k26 26 w' w.heap.size (fun k_ => some k_ ≠ (s_.2.2 : Value).ownBlock ∧ k_ ≠ gb170) s_.2.1 y175) ∧ (Kd.R k26 26 w' w.heap.size (fun k_ => some k_ ≠ (s_.2.1 : Value).ownBlock ∧ k_ ≠ gb170) s_.2.2 y178) ∧ (w'.heap[gb170]? = some (.cells #[.int .i64 a1_0, .string a1_1, .int .i64 a1_2, .int .i64 a1_3, .int .i64 a1_4, .int .i64 a1_5, .bool a1_6] 26 (0, 0))) ∧ (Below w.heap.size w w')) ?_ ?_
        rotate_left
        · intro hCont
          refine two_ (i := 0) (j := 4) (Ni := some 24) (Nj := some 28) #[true, true, false, true, false, false, false] #[false, true, false, true, true, false, false] rfl rfl rfl rfl (by kernel_rfl) (by decide) (by decide) (fun K hK => ?_) (fun K hK => ?_)
          · skip
            refine Kd.R_lit_step k26 _ 26 ?hg (N := 24) ?hd (xs := ([] : List (S26))) (inner := []) (ok := fun _ => True) (okp := fun _ => True) ?hr ?hp (fun _ hk => hk) trivial (Below.refl _ _) (Nat.le_refl _) (by simp) ?_; (case hd => rfl); (case hg => rfl); (case hr => first | (go_simp; done) | (go_simp; rfl)); (case hp => exact (Reps.none _ _))
            intro v173 w15 ho16 hb hg_ hnew_
            clear hg_ hnew_
            (first | rw [← Ny172.out] at ho16 | (simp only [Int.reduceToNat] at ho16; rw [← Ny172.out] at ho16))
            have n0_ := Aside0.mk (Kd.R_lower (Kd.R_newB ho16 (g := gb170) (o := .cells #[.int .i64 a1_0, .string a1_1, .int .i64 a1_2, .int .i64 a1_3, .int .i64 a1_4, .int .i64 a1_5, .bool a1_6] 26 (0, 0)) (by (with_reducible repeat (first | refine blk_drewN ?_ _ | refine blk_drew ?_ | refine blk_alloc ?_ _)); exact BK170.out)) (below_size (by repeat (first | (with_reducible first | exact HB.out | apply below_alloc | apply pw_below_drewN | apply below_drew1 | refine below_set ?_ GE170.out) | exact HB.out))))
            have n1_ := Aside0.mk (blk_below (g := gb170) (o := .cells #[.int .i64 a1_0, .string a1_1, .int .i64 a1_2, .int .i64 a1_3, .int .i64 a1_4, .int .i64 a1_5, .bool a1_6] 26 (0, 0)) (by (with_reducible repeat (first | refine blk_drewN ?_ _ | refine blk_drew ?_ | refine blk_alloc ?_ _)); exact BK170.out) hb)
            have n2_ := Aside0.mk (below_step (by repeat (first | (with_reducible first | exact HB.out | apply below_alloc | apply pw_below_drewN | apply below_drew1 | refine below_set ?_ GE170.out) | exact HB.out)) hb)
            clear BK170
            clear HB
            have HO174 := n0_
            have BK170 := n1_
            have HB := n2_
            clear n0_ n1_ n2_
            clear hb ho16
            refine hK.out _ _ ⟨(blk_cell BK170.out 0).trans rfl, (blk_cell BK170.out 1).trans rfl, (blk_cell BK170.out 2).trans rfl, (blk_cell BK170.out 3).trans rfl, (blk_cell BK170.out 4).trans rfl, (blk_cell BK170.out 5).trans rfl, (blk_cell BK170.out 6).trans rfl⟩ (fun hHeld => ?_)
            clear hK K
            refine norm_ (a' := ?_) ?_ ?_
            rotate_left
            · show Act.put _ (some 24) _ = _
              simp only [Act.put, List.setIfInBounds_toArray, List.set_cons_zero, List.set_cons_succ, i64_w, i32_w]
              rfl
            refine two_ (i := 2) (j := 4) (Ni := some 26) (Nj := some 28) #[true, true, true, true, false, false, false] #[true, true, false, true, true, false, false] rfl rfl rfl rfl (by kernel_rfl) (by decide) (by decide) (fun K hK => ?_) (fun K hK => ?_)
            · skip
              refine Kd.R_append_rows_step k26 (w0 := w) w.heap.size (by rfl) (.tmp 24) (.tmp 25) 22 26 (.agg #[(.int .i64 0), (.string ⟨#[]⟩), (.int .i64 0), (.int .i64 0), (.int .i64 0), (.int .i64 0), (.bool false)]) 64 rfl Tryz.underlying22 info26 rfl (by decide) (by omega) v173 y172 l0 _ _ _ (fun k_ => k_ ≠ gb170) (fun _ => False) rfl rfl ?aO ?aR (fun _ _ h => h) (fun _ h => h.elim) ?aF ?aB ?aS ?aL ?_
              (case aR => repeat (first | exact (Kd.C_below HR0.out HB.out) | (with_reducible refine Kd.C_alloc ?_ _) | (with_reducible refine Kd.C_drewN ?_ _) | (with_reducible refine Kd.C_drew ?_)))
              (case aB => exact (by repeat (first | (with_reducible first | exact HB.out | apply below_alloc | apply pw_below_drewN | apply below_drew1 | refine below_set ?_ GE170.out) | exact HB.out)))
              (case aF => exact (fun k_ hk => Kd.freshB (g := gb170) (o := .cells #[.int .i64 a1_0, .string a1_1, .int .i64 a1_2, .int .i64 a1_3, .int .i64 a1_4, .int .i64 a1_5, .bool a1_6] 26 (0, 0)) (by (with_reducible repeat (first | refine blk_drewN ?_ _ | refine blk_drew ?_ | refine blk_alloc ?_ _)); exact BK170.out) k_ hk))
              (case aO => exact (by (with_reducible repeat (first | apply Kd.R_alloc | apply Kd.R_drewN | apply Kd.R_drew)); exact Kd.R_mono HO174.out (fun _ hk => hk.2)))
              (case aS => exact (below_size (by repeat (first | (with_reducible first | exact HB.out | apply below_alloc | apply pw_below_drewN | apply below_drew1 | refine below_set ?_ GE170.out) | exact HB.out))))
              (case aL => have := LMc9.out; omega)
              intro v176 w17 ho hb hg hat
              rw [← Ny175.out] at ho
              have n0_ := Aside0.mk (blk_grown (g := gb170) (o := .cells #[.int .i64 a1_0, .string a1_1, .int .i64 a1_2, .int .i64 a1_3, .int .i64 a1_4, .int .i64 a1_5, .bool a1_6] 26 (0, 0)) (by (with_reducible repeat (first | refine blk_drewN ?_ _ | refine blk_drew ?_ | refine blk_alloc ?_ _)); exact BK170.out) hg (Kd.R_away HO174.out (fun _ hk => hk.2)))
              have n1_ := Aside0.mk (hb)
              have n2_ := Aside0.mk (ho)
              clear BK170
              clear HB
              clear HO174
              have BK170 := n0_
              have HB := n1_
              have HO177 := n2_
              clear n0_ n1_ n2_
              clear ho hb hg hat
              refine hK.out _ _ ⟨(blk_cell BK170.out 0).trans rfl, (blk_cell BK170.out 1).trans rfl, (blk_cell BK170.out 2).trans rfl, (blk_cell BK170.out 3).trans rfl, (blk_cell BK170.out 4).trans rfl, (blk_cell BK170.out 5).trans rfl, (blk_cell BK170.out 6).trans rfl⟩ (fun hHeld => ?_)
              clear hK K
              refine norm_ (a' := ?_) ?_ ?_
              rotate_left
              · show Act.put _ (some 26) _ = _
                simp only [Act.put, List.setIfInBounds_toArray, List.set_cons_zero, List.set_cons_succ, i64_w, i32_w]
                rfl
              refine one_ (i := 4) (N := some 28) #[true, true, true, true, true, false, false] rfl rfl (by kernel_rfl) (by decide) (fun K hK => ?_)
              refine Kd.R_lit_step k26 _ 26 ?hg (N := 28) ?hd (xs := ([(⟨a1_0, a1_1, a1_2, (⟨a1_3, a1_4⟩ : S24), a1_5, a1_6⟩ : S26)] : List (S26))) (inner := [.int .i64 a1_0, .string a1_1, .int .i64 a1_2, .int .i64 a1_3, .int .i64 a1_4, .int .i64 a1_5, .bool a1_6]) (ok := fun _ => True) (okp := fun _ => True) ?hr ?hp (fun _ hk => hk) trivial (Below.refl _ _) (Nat.le_refl _) (by simp) ?_; (case hd => rfl); (case hg => rfl); (case hr => first | (go_simp; done) | (go_simp; rfl)); (case hp => exact (Reps.c7 (show Kd.M k26 _ _ _ (⟨a1_0, a1_1, a1_2, (⟨a1_3, a1_4⟩ : S24), a1_5, a1_6⟩ : S26) [.int .i64 a1_0, .string a1_1, .int .i64 a1_2, .int .i64 a1_3, .int .i64 a1_4, .int .i64 a1_5, .bool a1_6] from (k26_mkM _ _ _ (⟨a1_0, a1_1, a1_2, (⟨a1_3, a1_4⟩ : S24), a1_5, a1_6⟩ : S26) )) (Reps.none _ _)))
              intro v179 w18 ho19 hb hg_ hnew_
              clear hg_ hnew_
              (first | rw [← Ny178.out] at ho19 | (simp only [Int.reduceToNat] at ho19; rw [← Ny178.out] at ho19))
              have n0_ := Aside0.mk (Kd.R_elder' (by (with_reducible repeat (first | apply Kd.R_alloc | apply Kd.R_drewN | apply Kd.R_drew)); exact HO177.out) (Kd.R_base ho19) hb)
              have n1_ := Aside0.mk (Kd.R_lower (Kd.R_newB (Kd.R_new' ho19 (Kd.R_lt (by (with_reducible repeat (first | apply Kd.R_alloc | apply Kd.R_drewN | apply Kd.R_drew)); exact HO177.out))) (g := gb170) (o := .cells #[.int .i64 a1_0, .string a1_1, .int .i64 a1_2, .int .i64 a1_3, .int .i64 a1_4, .int .i64 a1_5, .bool a1_6] 26 (0, 0)) (by (with_reducible repeat (first | refine blk_drewN ?_ _ | refine blk_drew ?_ | refine blk_alloc ?_ _)); exact BK170.out)) (below_size (by repeat (first | (with_reducible first | exact HB.out | apply below_alloc | apply pw_below_drewN | apply below_drew1 | refine below_set ?_ GE170.out) | exact HB.out))))
              have n2_ := Aside0.mk (blk_below (g := gb170) (o := .cells #[.int .i64 a1_0, .string a1_1, .int .i64 a1_2, .int .i64 a1_3, .int .i64 a1_4, .int .i64 a1_5, .bool a1_6] 26 (0, 0)) (by (with_reducible repeat (first | refine blk_drewN ?_ _ | refine blk_drew ?_ | refine blk_alloc ?_ _)); exact BK170.out) hb)
              have n3_ := Aside0.mk (below_step (by repeat (first | (with_reducible first | exact HB.out | apply below_alloc | apply pw_below_drewN | apply below_drew1 | refine below_set ?_ GE170.out) | exact HB.out)) hb)
              clear HO177
              clear BK170
              clear HB
              have HO177 := n0_
              have HO180 := n1_
              have BK170 := n2_
              have HB := n3_
              clear n0_ n1_ n2_ n3_
              clear hb ho19
              refine hK.out _ _ ⟨(blk_cell BK170.out 0).trans rfl, (blk_cell BK170.out 1).trans rfl, (blk_cell BK170.out 2).trans rfl, (blk_cell BK170.out 3).trans rfl, (blk_cell BK170.out 4).trans rfl, (blk_cell BK170.out 5).trans rfl, (blk_cell BK170.out 6).trans rfl⟩ (fun hHeld => ?_)
              clear hK K
              refine norm_ (a' := ?_) ?_ ?_
              rotate_left
              · show Act.put _ (some 28) _ = _
                simp only [Act.put, List.setIfInBounds_toArray, List.set_cons_zero, List.set_cons_succ, i64_w, i32_w]
                rfl
              exact norm_ (by simp only [putAll, Act.put, List.setIfInBounds_toArray, List.set_cons_zero, List.set_cons_succ]) (hCont (v173, v176, v179) _ ⟨hHeld, (by (with_reducible repeat (first | apply Kd.R_alloc | apply Kd.R_drewN | apply Kd.R_drew)); exact Kd.R_mono HO177.out (fun _ hk => ⟨hk.2, hk.1⟩)), (by (with_reducible repeat (first | apply Kd.R_alloc | apply Kd.R_drewN | apply Kd.R_drew)); exact Kd.R_mono HO180.out (fun _ hk => ⟨hk.1.2, hk.2⟩)), (by (with_reducible repeat (first | refine blk_drewN ?_ _ | refine blk_drew ?_ | refine blk_alloc ?_ _)); exact BK170.out), (by repeat (first | (with_reducible first | exact HB.out | apply below_alloc | apply pw_below_drewN | apply below_drew1 | refine below_set ?_ GE170.out) | exact HB.out))⟩)
            · skip
              refine Kd.R_lit_step k26 _ 26 ?hg (N := 28) ?hd (xs := ([(⟨a1_0, a1_1, a1_2, (⟨a1_3, a1_4⟩ : S24), a1_5, a1_6⟩ : S26)] : List (S26))) (inner := [.int .i64 a1_0, .string a1_1, .int .i64 a1_2, .int .i64 a1_3, .int .i64 a1_4, .int .i64 a1_5, .bool a1_6]) (ok := fun _ => True) (okp := fun _ => True) ?hr ?hp (fun _ hk => hk) trivial (Below.refl _ _) (Nat.le_refl _) (by simp) ?_; (case hd => rfl); (case hg => rfl); (case hr => first | (go_simp; done) | (go_simp; rfl)); (case hp => exact (Reps.c7 (show Kd.M k26 _ _ _ (⟨a1_0, a1_1, a1_2, (⟨a1_3, a1_4⟩ : S24), a1_5, a1_6⟩ : S26) [.int .i64 a1_0, .string a1_1, .int .i64 a1_2, .int .i64 a1_3, .int .i64 a1_4, .int .i64 a1_5, .bool a1_6] from (k26_mkM _ _ _ (⟨a1_0, a1_1, a1_2, (⟨a1_3, a1_4⟩ : S24), a1_5, a1_6⟩ : S26) )) (Reps.none _ _)))
              intro v179 w17 ho18 hb hg_ hnew_
              clear hg_ hnew_
              (first | rw [← Ny178.out] at ho18 | (simp only [Int.reduceToNat] at ho18; rw [← Ny178.out] at ho18))
              have n0_ := Aside0.mk (Kd.R_elder' (by (with_reducible repeat (first | apply Kd.R_alloc | apply Kd.R_drewN | apply Kd.R_drew)); exact HO174.out) (Kd.R_base ho18) hb)
              have n1_ := Aside0.mk (Kd.R_lower (Kd.R_newB (Kd.R_new' ho18 (Kd.R_lt (by (with_reducible repeat (first | apply Kd.R_alloc | apply Kd.R_drewN | apply Kd.R_drew)); exact HO174.out))) (g := gb170) (o := .cells #[.int .i64 a1_0, .string a1_1, .int .i64 a1_2, .int .i64 a1_3, .int .i64 a1_4, .int .i64 a1_5, .bool a1_6] 26 (0, 0)) (by (with_reducible repeat (first | refine blk_drewN ?_ _ | refine blk_drew ?_ | refine blk_alloc ?_ _)); exact BK170.out)) (below_size (by repeat (first | (with_reducible first | exact HB.out | apply below_alloc | apply pw_below_drewN | apply below_drew1 | refine below_set ?_ GE170.out) | exact HB.out))))
              have n2_ := Aside0.mk (blk_below (g := gb170) (o := .cells #[.int .i64 a1_0, .string a1_1, .int .i64 a1_2, .int .i64 a1_3, .int .i64 a1_4, .int .i64 a1_5, .bool a1_6] 26 (0, 0)) (by (with_reducible repeat (first | refine blk_drewN ?_ _ | refine blk_drew ?_ | refine blk_alloc ?_ _)); exact BK170.out) hb)
              have n3_ := Aside0.mk (below_step (by repeat (first | (with_reducible first | exact HB.out | apply below_alloc | apply pw_below_drewN | apply below_drew1 | refine below_set ?_ GE170.out) | exact HB.out)) hb)
              clear HO174
              clear BK170
              clear HB
              have HO174 := n0_
              have HO180 := n1_
              have BK170 := n2_
              have HB := n3_
              clear n0_ n1_ n2_ n3_
              clear hb ho18
              refine hK.out _ _ ⟨(blk_cell BK170.out 0).trans rfl, (blk_cell BK170.out 1).trans rfl, (blk_cell BK170.out 2).trans rfl, (blk_cell BK170.out 3).trans rfl, (blk_cell BK170.out 4).trans rfl, (blk_cell BK170.out 5).trans rfl, (blk_cell BK170.out 6).trans rfl⟩ (fun hHeld => ?_)
              clear hK K
              refine norm_ (a' := ?_) ?_ ?_
              rotate_left
              · show Act.put _ (some 28) _ = _
                simp only [Act.put, List.setIfInBounds_toArray, List.set_cons_zero, List.set_cons_succ, i64_w, i32_w]
                rfl
              refine one_ (i := 2) (N := some 26) #[true, true, true, true, true, false, false] rfl rfl (by kernel_rfl) (by decide) (fun K hK => ?_)
              refine Kd.R_append_rows_step k26 (w0 := w) w.heap.size (by rfl) (.tmp 24) (.tmp 25) 22 26 (.agg #[(.int .i64 0), (.string ⟨#[]⟩), (.int .i64 0), (.int .i64 0), (.int .i64 0), (.int .i64 0), (.bool false)]) 64 rfl Tryz.underlying22 info26 rfl (by decide) (by omega) v173 y172 l0 _ _ _ (fun k_ => some k_ ≠ (v179 : Value).ownBlock ∧ k_ ≠ gb170) (fun _ => False) rfl rfl ?aO ?aR (fun _ _ h => h) (fun _ h => h.elim) ?aF ?aB ?aS ?aL ?_
              (case aR => repeat (first | exact (Kd.C_below HR0.out HB.out) | (with_reducible refine Kd.C_alloc ?_ _) | (with_reducible refine Kd.C_drewN ?_ _) | (with_reducible refine Kd.C_drew ?_)))
              (case aB => exact (by repeat (first | (with_reducible first | exact HB.out | apply below_alloc | apply pw_below_drewN | apply below_drew1 | refine below_set ?_ GE170.out) | exact HB.out)))
              (case aF => exact (fun k_ hk => ⟨Kd.fresh' (Kd.R_lt (by (with_reducible repeat (first | apply Kd.R_alloc | apply Kd.R_drewN | apply Kd.R_drew)); exact HO180.out)) k_ hk, Kd.freshB (g := gb170) (o := .cells #[.int .i64 a1_0, .string a1_1, .int .i64 a1_2, .int .i64 a1_3, .int .i64 a1_4, .int .i64 a1_5, .bool a1_6] 26 (0, 0)) (by (with_reducible repeat (first | refine blk_drewN ?_ _ | refine blk_drew ?_ | refine blk_alloc ?_ _)); exact BK170.out) k_ hk⟩))
              (case aO => exact (by (with_reducible repeat (first | apply Kd.R_alloc | apply Kd.R_drewN | apply Kd.R_drew)); exact Kd.R_mono HO174.out (fun _ hk => ⟨hk.2, hk.1.2⟩)))
              (case aS => exact (below_size (by repeat (first | (with_reducible first | exact HB.out | apply below_alloc | apply pw_below_drewN | apply below_drew1 | refine below_set ?_ GE170.out) | exact HB.out))))
              (case aL => have := LMc9.out; omega)
              intro v176 w19 ho hb hg hat
              rw [← Ny175.out] at ho
              have n0_ := Aside0.mk (blk_grown (g := gb170) (o := .cells #[.int .i64 a1_0, .string a1_1, .int .i64 a1_2, .int .i64 a1_3, .int .i64 a1_4, .int .i64 a1_5, .bool a1_6] 26 (0, 0)) (by (with_reducible repeat (first | refine blk_drewN ?_ _ | refine blk_drew ?_ | refine blk_alloc ?_ _)); exact BK170.out) hg (Kd.R_away HO174.out (fun _ hk => hk.1.2)))
              have n1_ := Aside0.mk (Kd.R_after (ok := (fun k_ => k_ ≠ gb170)) (by (with_reducible repeat (first | apply Kd.R_alloc | apply Kd.R_drewN | apply Kd.R_drew)); exact Kd.R_mono HO180.out (fun _ hk => ⟨hk.2, hk.1.2⟩)) hg hat)
              have n2_ := Aside0.mk (hb)
              have n3_ := Aside0.mk (ho)
              clear BK170
              clear HO180
              clear HB
              clear HO174
              have BK170 := n0_
              have HO180 := n1_
              have HB := n2_
              have HO177 := n3_
              clear n0_ n1_ n2_ n3_
              clear ho hb hg hat
              refine hK.out _ _ ⟨(blk_cell BK170.out 0).trans rfl, (blk_cell BK170.out 1).trans rfl, (blk_cell BK170.out 2).trans rfl, (blk_cell BK170.out 3).trans rfl, (blk_cell BK170.out 4).trans rfl, (blk_cell BK170.out 5).trans rfl, (blk_cell BK170.out 6).trans rfl⟩ (fun hHeld => ?_)
              clear hK K
              refine norm_ (a' := ?_) ?_ ?_
              rotate_left
              · show Act.put _ (some 26) _ = _
                simp only [Act.put, List.setIfInBounds_toArray, List.set_cons_zero, List.set_cons_succ, i64_w, i32_w]
                rfl
              exact norm_ (by simp only [putAll, Act.put, List.setIfInBounds_toArray, List.set_cons_zero, List.set_cons_succ]) (hCont (v173, v176, v179) _ ⟨hHeld, (by (with_reducible repeat (first | apply Kd.R_alloc | apply Kd.R_drewN | apply Kd.R_drew)); exact HO177.out), (by (with_reducible repeat (first | apply Kd.R_alloc | apply Kd.R_drewN | apply Kd.R_drew)); exact Kd.R_mono HO180.out (fun _ hk => ⟨hk.2, hk.1⟩)), (by (with_reducible repeat (first | refine blk_drewN ?_ _ | refine blk_drew ?_ | refine blk_alloc ?_ _)); exact BK170.out), (by repeat (first | (with_reducible first | exact HB.out | apply below_alloc | apply pw_below_drewN | apply below_drew1 | refine below_set ?_ GE170.out) | exact HB.out))⟩)
          · skip
            refine Kd.R_lit_step k26 _ 26 ?hg (N := 28) ?hd (xs := ([(⟨a1_0, a1_1, a1_2, (⟨a1_3, a1_4⟩ : S24), a1_5, a1_6⟩ : S26)] : List (S26))) (inner := [.int .i64 a1_0, .string a1_1, .int .i64 a1_2, .int .i64 a1_3, .int .i64 a1_4, .int .i64 a1_5, .bool a1_6]) (ok := fun _ => True) (okp := fun _ => True) ?hr ?hp (fun _ hk => hk) trivial (Below.refl _ _) (Nat.le_refl _) (by simp) ?_; (case hd => rfl); (case hg => rfl); (case hr => first | (go_simp; done) | (go_simp; rfl)); (case hp => exact (Reps.c7 (show Kd.M k26 _ _ _ (⟨a1_0, a1_1, a1_2, (⟨a1_3, a1_4⟩ : S24), a1_5, a1_6⟩ : S26) [.int .i64 a1_0, .string a1_1, .int .i64 a1_2, .int .i64 a1_3, .int .i64 a1_4, .int .i64 a1_5, .bool a1_6] from (k26_mkM _ _ _ (⟨a1_0, a1_1, a1_2, (⟨a1_3, a1_4⟩ : S24), a1_5, a1_6⟩ : S26) )) (Reps.none _ _)))
            intro v179 w15 ho16 hb hg_ hnew_
            clear hg_ hnew_
            (first | rw [← Ny178.out] at ho16 | (simp only [Int.reduceToNat] at ho16; rw [← Ny178.out] at ho16))
            have n0_ := Aside0.mk (Kd.R_lower (Kd.R_newB ho16 (g := gb170) (o := .cells #[.int .i64 a1_0, .string a1_1, .int .i64 a1_2, .int .i64 a1_3, .int .i64 a1_4, .int .i64 a1_5, .bool a1_6] 26 (0, 0)) (by (with_reducible repeat (first | refine blk_drewN ?_ _ | refine blk_drew ?_ | refine blk_alloc ?_ _)); exact BK170.out)) (below_size (by repeat (first | (with_reducible first | exact HB.out | apply below_alloc | apply pw_below_drewN | apply below_drew1 | refine below_set ?_ GE170.out) | exact HB.out))))
            have n1_ := Aside0.mk (blk_below (g := gb170) (o := .cells #[.int .i64 a1_0, .string a1_1, .int .i64 a1_2, .int .i64 a1_3, .int .i64 a1_4, .int .i64 a1_5, .bool a1_6] 26 (0, 0)) (by (with_reducible repeat (first | refine blk_drewN ?_ _ | refine blk_drew ?_ | refine blk_alloc ?_ _)); exact BK170.out) hb)
            have n2_ := Aside0.mk (below_step (by repeat (first | (with_reducible first | exact HB.out | apply below_alloc | apply pw_below_drewN | apply below_drew1 | refine below_set ?_ GE170.out) | exact HB.out)) hb)
            clear BK170
            clear HB
            have HO180 := n0_
            have BK170 := n1_
            have HB := n2_
            clear n0_ n1_ n2_
            clear hb ho16
            refine hK.out _ _ ⟨(blk_cell BK170.out 0).trans rfl, (blk_cell BK170.out 1).trans rfl, (blk_cell BK170.out 2).trans rfl, (blk_cell BK170.out 3).trans rfl, (blk_cell BK170.out 4).trans rfl, (blk_cell BK170.out 5).trans rfl, (blk_cell BK170.out 6).trans rfl⟩ (fun hHeld => ?_)
            clear hK K
            refine norm_ (a' := ?_) ?_ ?_
            rotate_left
            · show Act.put _ (some 28) _ = _
              simp only [Act.put, List.setIfInBounds_toArray, List.set_cons_zero, List.set_cons_succ, i64_w, i32_w]
              rfl
            refine one_ (i := 0) (N := some 24) #[true, true, false, true, true, false, false] rfl rfl (by kernel_rfl) (by decide) (fun K hK => ?_)
            refine Kd.R_lit_step k26 _ 26 ?hg (N := 24) ?hd (xs := ([] : List (S26))) (inner := []) (ok := fun _ => True) (okp := fun _ => True) ?hr ?hp (fun _ hk => hk) trivial (Below.refl _ _) (Nat.le_refl _) (by simp) ?_; (case hd => rfl); (case hg => rfl); (case hr => first | (go_simp; done) | (go_simp; rfl)); (case hp => exact (Reps.none _ _))
            intro v173 w17 ho18 hb hg_ hnew_
            clear hg_ hnew_
            (first | rw [← Ny172.out] at ho18 | (simp only [Int.reduceToNat] at ho18; rw [← Ny172.out] at ho18))
            have n0_ := Aside0.mk (Kd.R_elder' (by (with_reducible repeat (first | apply Kd.R_alloc | apply Kd.R_drewN | apply Kd.R_drew)); exact HO180.out) (Kd.R_base ho18) hb)
            have n1_ := Aside0.mk (Kd.R_lower (Kd.R_newB (Kd.R_new' ho18 (Kd.R_lt (by (with_reducible repeat (first | apply Kd.R_alloc | apply Kd.R_drewN | apply Kd.R_drew)); exact HO180.out))) (g := gb170) (o := .cells #[.int .i64 a1_0, .string a1_1, .int .i64 a1_2, .int .i64 a1_3, .int .i64 a1_4, .int .i64 a1_5, .bool a1_6] 26 (0, 0)) (by (with_reducible repeat (first | refine blk_drewN ?_ _ | refine blk_drew ?_ | refine blk_alloc ?_ _)); exact BK170.out)) (below_size (by repeat (first | (with_reducible first | exact HB.out | apply below_alloc | apply pw_below_drewN | apply below_drew1 | refine below_set ?_ GE170.out) | exact HB.out))))
            have n2_ := Aside0.mk (blk_below (g := gb170) (o := .cells #[.int .i64 a1_0, .string a1_1, .int .i64 a1_2, .int .i64 a1_3, .int .i64 a1_4, .int .i64 a1_5, .bool a1_6] 26 (0, 0)) (by (with_reducible repeat (first | refine blk_drewN ?_ _ | refine blk_drew ?_ | refine blk_alloc ?_ _)); exact BK170.out) hb)
            have n3_ := Aside0.mk (below_step (by repeat (first | (with_reducible first | exact HB.out | apply below_alloc | apply pw_below_drewN | apply below_drew1 | refine below_set ?_ GE170.out) | exact HB.out)) hb)
            clear HO180
            clear BK170
            clear HB
            have HO180 := n0_
            have HO174 := n1_
            have BK170 := n2_
            have HB := n3_
            clear n0_ n1_ n2_ n3_
            clear hb ho18
            refine hK.out _ _ ⟨(blk_cell BK170.out 0).trans rfl, (blk_cell BK170.out 1).trans rfl, (blk_cell BK170.out 2).trans rfl, (blk_cell BK170.out 3).trans rfl, (blk_cell BK170.out 4).trans rfl, (blk_cell BK170.out 5).trans rfl, (blk_cell BK170.out 6).trans rfl⟩ (fun hHeld => ?_)
            clear hK K
            refine norm_ (a' := ?_) ?_ ?_
            rotate_left
            · show Act.put _ (some 24) _ = _
              simp only [Act.put, List.setIfInBounds_toArray, List.set_cons_zero, List.set_cons_succ, i64_w, i32_w]
              rfl
            refine one_ (i := 2) (N := some 26) #[true, true, true, true, true, false, false] rfl rfl (by kernel_rfl) (by decide) (fun K hK => ?_)
            refine Kd.R_append_rows_step k26 (w0 := w) w.heap.size (by rfl) (.tmp 24) (.tmp 25) 22 26 (.agg #[(.int .i64 0), (.string ⟨#[]⟩), (.int .i64 0), (.int .i64 0), (.int .i64 0), (.int .i64 0), (.bool false)]) 64 rfl Tryz.underlying22 info26 rfl (by decide) (by omega) v173 y172 l0 _ _ _ (fun k_ => some k_ ≠ (v179 : Value).ownBlock ∧ k_ ≠ gb170) (fun _ => False) rfl rfl ?aO ?aR (fun _ _ h => h) (fun _ h => h.elim) ?aF ?aB ?aS ?aL ?_
            (case aR => repeat (first | exact (Kd.C_below HR0.out HB.out) | (with_reducible refine Kd.C_alloc ?_ _) | (with_reducible refine Kd.C_drewN ?_ _) | (with_reducible refine Kd.C_drew ?_)))
            (case aB => exact (by repeat (first | (with_reducible first | exact HB.out | apply below_alloc | apply pw_below_drewN | apply below_drew1 | refine below_set ?_ GE170.out) | exact HB.out)))
            (case aF => exact (fun k_ hk => ⟨Kd.fresh' (Kd.R_lt (by (with_reducible repeat (first | apply Kd.R_alloc | apply Kd.R_drewN | apply Kd.R_drew)); exact HO180.out)) k_ hk, Kd.freshB (g := gb170) (o := .cells #[.int .i64 a1_0, .string a1_1, .int .i64 a1_2, .int .i64 a1_3, .int .i64 a1_4, .int .i64 a1_5, .bool a1_6] 26 (0, 0)) (by (with_reducible repeat (first | refine blk_drewN ?_ _ | refine blk_drew ?_ | refine blk_alloc ?_ _)); exact BK170.out) k_ hk⟩))
            (case aO => exact (by (with_reducible repeat (first | apply Kd.R_alloc | apply Kd.R_drewN | apply Kd.R_drew)); exact Kd.R_mono HO174.out (fun _ hk => ⟨hk.1.2, hk.2⟩)))
            (case aS => exact (below_size (by repeat (first | (with_reducible first | exact HB.out | apply below_alloc | apply pw_below_drewN | apply below_drew1 | refine below_set ?_ GE170.out) | exact HB.out))))
            (case aL => have := LMc9.out; omega)
            intro v176 w19 ho hb hg hat
            rw [← Ny175.out] at ho
            have n0_ := Aside0.mk (blk_grown (g := gb170) (o := .cells #[.int .i64 a1_0, .string a1_1, .int .i64 a1_2, .int .i64 a1_3, .int .i64 a1_4, .int .i64 a1_5, .bool a1_6] 26 (0, 0)) (by (with_reducible repeat (first | refine blk_drewN ?_ _ | refine blk_drew ?_ | refine blk_alloc ?_ _)); exact BK170.out) hg (Kd.R_away HO174.out (fun _ hk => hk.2)))
            have n1_ := Aside0.mk (Kd.R_after (ok := (fun k_ => k_ ≠ gb170)) (by (with_reducible repeat (first | apply Kd.R_alloc | apply Kd.R_drewN | apply Kd.R_drew)); exact Kd.R_mono HO180.out (fun _ hk => ⟨hk.1.2, hk.2⟩)) hg hat)
            have n2_ := Aside0.mk (hb)
            have n3_ := Aside0.mk (ho)
            clear BK170
            clear HO180
            clear HB
            clear HO174
            have BK170 := n0_
            have HO180 := n1_
            have HB := n2_
            have HO177 := n3_
            clear n0_ n1_ n2_ n3_
            clear ho hb hg hat
            refine hK.out _ _ ⟨(blk_cell BK170.out 0).trans rfl, (blk_cell BK170.out 1).trans rfl, (blk_cell BK170.out 2).trans rfl, (blk_cell BK170.out 3).trans rfl, (blk_cell BK170.out 4).trans rfl, (blk_cell BK170.out 5).trans rfl, (blk_cell BK170.out 6).trans rfl⟩ (fun hHeld => ?_)
            clear hK K
            refine norm_ (a' := ?_) ?_ ?_
            rotate_left
            · show Act.put _ (some 26) _ = _
              simp only [Act.put, List.setIfInBounds_toArray, List.set_cons_zero, List.set_cons_succ, i64_w, i32_w]
              rfl
            exact norm_ (by simp only [putAll, Act.put, List.setIfInBounds_toArray, List.set_cons_zero, List.set_cons_succ]) (hCont (v173, v176, v179) _ ⟨hHeld, (by (with_reducible repeat (first | apply Kd.R_alloc | apply Kd.R_drewN | apply Kd.R_drew)); exact HO177.out), (by (with_reducible repeat (first | apply Kd.R_alloc | apply Kd.R_drewN | apply Kd.R_drew)); exact Kd.R_mono HO180.out (fun _ hk => ⟨hk.2, hk.1⟩)), (by (with_reducible repeat (first | refine blk_drewN ?_ _ | refine blk_drew ?_ | refine blk_alloc ?_ _)); exact BK170.out), (by repeat (first | (with_reducible first | exact HB.out | apply below_alloc | apply pw_below_drewN | apply below_drew1 | refine below_set ?_ GE170.out) | exact HB.out))⟩)
        rintro ⟨v173, v176, v179⟩ w20 ⟨hS_, h0_, h1_, h2_, h3_⟩
        have n0_ : Aside0 (Kd.R k26 26 w20 w.heap.size (fun k_ => some k_ ≠ (v179 : Value).ownBlock ∧ k_ ≠ gb170) v176 y175) := ⟨h0_⟩
        have n1_ : Aside0 (Kd.R k26 26 w20 w.heap.size (fun k_ => some k_ ≠ (v176 : Value).ownBlock ∧ k_ ≠ gb170) v179 y178) := ⟨h1_⟩
        have n2_ : Aside0 (w20.heap[gb170]? = some (.cells #[.int .i64 a1_0, .string a1_1, .int .i64 a1_2, .int .i64 a1_3, .int .i64 a1_4, .int .i64 a1_5, .bool a1_6] 26 (0, 0))) := ⟨h2_⟩
        have n3_ : Aside0 (Below w.heap.size w w20) := ⟨h3_⟩
        clear BK170
        clear HB
        clear h0_ h1_ h2_ h3_
        have HO177 := n0_
        have HO180 := n1_
        have BK170 := n2_
        have HB := n3_
        clear n0_ n1_ n2_ n3_
        have hHeld : w20.cell? ⟨gb170, 0, none⟩ = some (.int .i64 a1_0) ∧ w20.cell? ⟨gb170, 1, none⟩ = some (.string a1_1) ∧ w20.cell? ⟨gb170, 2, none⟩ = some (.int .i64 a1_2) ∧ w20.cell? ⟨gb170, 3, none⟩ = some (.int .i64 a1_3) ∧ w20.cell? ⟨gb170, 4, none⟩ = some (.int .i64 a1_4) ∧ w20.cell? ⟨gb170, 5, none⟩ = some (.int .i64 a1_5) ∧ w20.cell? ⟨gb170, 6, none⟩ = some (.bool a1_6) := hS_
        obtain ⟨Ao22, co22, eo22⟩ := Kd.R_slice HO180.out
        (first | subst eo22 | (injection eo22 with f1_ f2_ f3_; have f4_ := f1_.symm; have f5_ := f3_.symm; clear f1_ f2_ f3_; subst f4_; subst f5_))
        refine norm_ (a' := ?_) ?_ ?_
        rotate_left
        · simp only [putAll, Act.put, List.setIfInBounds_toArray, List.set_cons_zero, List.set_cons_succ]
          rfl
        refine one_ (i := 5) (N := some 29) #[true, true, true, true, true, true, false] rfl rfl (by kernel_rfl) (by decide) (fun K hK => ?_)
        refine Kd.R_append_rows_step k26 (w0 := w) w.heap.size (by rfl) (.tmp 26) (.tmp 28) 22 26 (.agg #[(.int .i64 0), (.string ⟨#[]⟩), (.int .i64 0), (.int .i64 0), (.int .i64 0), (.int .i64 0), (.bool false)]) 64 rfl Tryz.underlying22 info26 rfl (by decide) (by omega) v176 y175 y178 _ _ _ (fun k_ => some k_ ≠ (.slice Ao22 y178.length co22 : Value).ownBlock ∧ k_ ≠ gb170) (fun _ => False) rfl rfl ?aO ?aR (fun _ _ h => h) (fun _ h => h.elim) ?aF ?aB ?aS ?aL ?_
        (case aR => repeat (first | exact (Kd.R_reads' HO180.out).2.2 | (with_reducible refine Kd.C_alloc ?_ _) | (with_reducible refine Kd.C_drewN ?_ _) | (with_reducible refine Kd.C_drew ?_)))
        (case aB => exact (by repeat (first | (with_reducible first | exact HB.out | apply below_alloc | apply pw_below_drewN | apply below_drew1 | refine below_set ?_ GE170.out) | exact HB.out)))
        (case aF => exact (fun k_ hk => ⟨Kd.fresh' (Kd.R_lt (by (with_reducible repeat (first | apply Kd.R_alloc | apply Kd.R_drewN | apply Kd.R_drew)); exact HO180.out)) k_ hk, Kd.freshB (g := gb170) (o := .cells #[.int .i64 a1_0, .string a1_1, .int .i64 a1_2, .int .i64 a1_3, .int .i64 a1_4, .int .i64 a1_5, .bool a1_6] 26 (0, 0)) (by (with_reducible repeat (first | refine blk_drewN ?_ _ | refine blk_drew ?_ | refine blk_alloc ?_ _)); exact BK170.out) k_ hk⟩))
        (case aO => exact (by (with_reducible repeat (first | apply Kd.R_alloc | apply Kd.R_drewN | apply Kd.R_drew)); exact HO177.out))
        (case aS => exact (below_size (by repeat (first | (with_reducible first | exact HB.out | apply below_alloc | apply pw_below_drewN | apply below_drew1 | refine below_set ?_ GE170.out) | exact HB.out))))
        (case aL => have := LMc10.out; omega)
        intro v182 w21 ho hb hg hat
        rw [← Ny181.out] at ho
        have n0_ := Aside0.mk (blk_grown (g := gb170) (o := .cells #[.int .i64 a1_0, .string a1_1, .int .i64 a1_2, .int .i64 a1_3, .int .i64 a1_4, .int .i64 a1_5, .bool a1_6] 26 (0, 0)) (by (with_reducible repeat (first | refine blk_drewN ?_ _ | refine blk_drew ?_ | refine blk_alloc ?_ _)); exact BK170.out) hg (Kd.R_away HO177.out (fun _ hk => hk.2)))
        have n1_ := Aside0.mk (Kd.R_after (ok := (fun k_ => k_ ≠ gb170)) (by (with_reducible repeat (first | apply Kd.R_alloc | apply Kd.R_drewN | apply Kd.R_drew)); exact Kd.R_mono HO180.out (fun _ hk => ⟨hk.2, hk.1⟩)) hg hat)
        have n2_ := Aside0.mk (hb)
        have n3_ := Aside0.mk (ho)
        clear BK170
        clear HO180
        clear HB
        clear HO177
        have BK170 := n0_
        have HO180 := n1_
        have HB := n2_
        have HO183 := n3_
        clear n0_ n1_ n2_ n3_
        clear ho hb hg hat
        refine hK.out _ _ ⟨(blk_cell BK170.out 0).trans rfl, (blk_cell BK170.out 1).trans rfl, (blk_cell BK170.out 2).trans rfl, (blk_cell BK170.out 3).trans rfl, (blk_cell BK170.out 4).trans rfl, (blk_cell BK170.out 5).trans rfl, (blk_cell BK170.out 6).trans rfl⟩ (fun hHeld => ?_)
        clear hK K
        refine norm_ (a' := ?_) ?_ ?_
        rotate_left
        · show Act.put _ (some 29) _ = _
          simp only [Act.put, List.setIfInBounds_toArray, List.set_cons_zero, List.set_cons_succ, i64_w, i32_w]
          rfl
        refine pure_ (i := 6) (N := some 14) (v := ?_) (a' := ?_) #[true, true, true, true, true, true, true] rfl rfl (by kernel_rfl) (fun _ _ _ h => h) (Or.inl ⟨by rfl, ?_⟩) ?_ ?_
        rotate_left
        · intro w'
          go_simp
          with_reducible rfl
        rotate_left
        · simp only [Act.put, List.setIfInBounds_toArray, List.set_cons_zero, List.set_cons_succ, i64_w, i32_w]
          rfl
        refine done_ (by kernel_rfl) ?_
        go_upto_region 3 with (fail)
        go_cut [37] (fun v37 wc => ∃ (kq : Nat) (x37_10 : Bool), v37 = .bool x37_10 ∧ Aside0 (cohousinglaw16_FactsLate.j0 kq l0 a2 a3 a4 a5 y181 x37_10 a1_0 a1_1 a1_2 a1_3 a1_4 a1_5 a1_6 = some r) ∧ Aside0 (kq ≤ k) ∧ Aside0 (Kd.R k26 26 wc w.heap.size (fun k_ => k_ ≠ gb170) v182 y181) ∧ Aside0 (wc.heap[gb170]? = some (.cells #[.int .i64 a1_0, .string a1_1, .int .i64 a1_2, .int .i64 a1_3, .int .i64 a1_4, .int .i64 a1_5, .bool a1_6] 26 (0, 0))) ∧ Aside0 (Below w.heap.size w wc))
        case first =>
          have H := HC11.out
          clear HC11
          by_cases c23 : (l0.length : Int) > 400
          · rw [if_pos c23] at H
            have c23b0 : decide (400 < (l0.length : Int)) = true := decide_eq_true c23
            have c23b1 : decide (400 < l0.length) = true := decide_eq_true (by omega)
            clear c23
            (first | rw [c23b0] | (simp only [i64_w, i32_w]; rw [c23b0]) | skip)
            have H' := Aside0.mk H
            clear H
            go_wp2
            go_meet
            case rel => exact ⟨_, (true), (by first | rfl | (simp; done) | (simp [*]; done)), H', ⟨by first | omega | exact Nat.le_refl _⟩, ⟨by (with_reducible repeat (first | apply Kd.R_alloc | apply Kd.R_drewN | apply Kd.R_drew)); exact Kd.R_mono HO183.out (fun _ hk => hk.2)⟩, ⟨by (with_reducible repeat (first | refine blk_drewN ?_ _ | refine blk_drew ?_ | refine blk_alloc ?_ _)); exact BK170.out⟩, ⟨by repeat (first | (with_reducible first | exact HB.out | apply below_alloc | apply pw_below_drewN | apply below_drew1 | refine below_set ?_ GE170.out) | exact HB.out)⟩⟩
          · rw [if_neg c23] at H
            have c23b0 : decide (400 < (l0.length : Int)) = false := decide_eq_false c23
            have c23b1 : decide (400 < l0.length) = false := decide_eq_false (by omega)
            clear c23
            (first | rw [c23b0] | (simp only [i64_w, i32_w]; rw [c23b0]) | skip)
            replace H := Option.bind_eq_some_iff.mp H
            obtain ⟨t184, A240, H⟩ := H
            replace H : (cohousinglaw16_FactsLate.j0 k l0 a2 a3 a4 a5 y181 (!t184) a1_0 a1_1 a1_2 a1_3 a1_4 a1_5 a1_6) = some r := H
            have A24 := Aside0.mk A240
            clear A240
            have H' := Aside0.mk H
            clear H
            obtain ⟨Ao25, co25, eo25⟩ := Kd.R_slice HO183.out
            subst eo25
            go_wp2_with (first | (go_at_call 11; (with_reducible refine (facts_Valid.calls _ _ y181 t184 _ ?side1 ?side2 A24.out).mono ?_); (case side1 => repeat (first | exact (Kd.R_reads' HO183.out).2.2 | (with_reducible refine Kd.C_alloc ?_ _) | (with_reducible refine Kd.C_drewN ?_ _) | (with_reducible refine Kd.C_drew ?_))); (case side2 => exact (Kd.R_reads' HO183.out).2.1); rintro e w26 ⟨rfl, hb⟩; have n0_ := Aside0.mk (Kd.R_below (by (with_reducible repeat (first | apply Kd.R_alloc | apply Kd.R_drewN | apply Kd.R_drew)); exact HO180.out) hb); have n1_ := Aside0.mk (Kd.R_below (by (with_reducible repeat (first | apply Kd.R_alloc | apply Kd.R_drewN | apply Kd.R_drew)); exact HO183.out) hb); have n2_ := Aside0.mk (blk_below (g := gb170) (o := .cells #[.int .i64 a1_0, .string a1_1, .int .i64 a1_2, .int .i64 a1_3, .int .i64 a1_4, .int .i64 a1_5, .bool a1_6] 26 (0, 0)) (by (with_reducible repeat (first | refine blk_drewN ?_ _ | refine blk_drew ?_ | refine blk_alloc ?_ _)); exact BK170.out) hb); have n3_ := Aside0.mk (below_step (by repeat (first | (with_reducible first | exact HB.out | apply below_alloc | apply pw_below_drewN | apply below_drew1 | refine below_set ?_ GE170.out) | exact HB.out)) hb); clear HO180; clear HO183; clear BK170; clear HB; have HO180 := n0_; have HO183 := n1_; have BK170 := n2_; have HB := n3_; clear n0_ n1_ n2_ n3_; (try clear hb); (try clear hb2); (try clear hk); (try clear hi)))
            go_meet
            case rel => exact ⟨_, (!t184), (by first | rfl | (simp; done) | (simp [*]; done)), H', ⟨by first | omega | exact Nat.le_refl _⟩, ⟨by (with_reducible repeat (first | apply Kd.R_alloc | apply Kd.R_drewN | apply Kd.R_drew)); exact Kd.R_mono HO183.out (fun _ hk => hk.2)⟩, ⟨by (with_reducible repeat (first | refine blk_drewN ?_ _ | refine blk_drew ?_ | refine blk_alloc ?_ _)); exact BK170.out⟩, ⟨by repeat (first | (with_reducible first | exact HB.out | apply below_alloc | apply pw_below_drewN | apply below_drew1 | refine below_set ?_ GE170.out) | exact HB.out)⟩⟩
        case rest =>
          clear HC11
          try clear c1
          try clear c2
          try clear p2
          try clear c3
          try clear c7
          try clear c8
          try clear c9
          try clear c10
          try clear c23
          try clear c23b0
          try clear c23b1
          obtain ⟨kq, x37_10, rfl, HA, HJ10, HO_14, BK170, HB⟩ := hcut
          cases kq with
          | zero => exact absurd HA.out (by simp [cohousinglaw16_FactsLate.j0])
          | succ kj10 =>
            have H := HA.out
            clear HA
            simp only [cohousinglaw16_FactsLate.j0] at H
            by_cases c27 : x37_10 = true
            · subst c27
              have H1 : (some true) = some r := by rw [if_pos rfl] at H; exact H
              clear H
              have H := H1
              clear H1
              obtain rfl := Option.some.inj H
              go_wp2
              go_ret
              exact ⟨by first | rfl | (simp [errW_none, errW_some] <;> rfl) | (simp [*, errW_none, errW_some] <;> rfl), by repeat (first | (with_reducible first | exact HB.out | apply below_alloc | apply pw_below_drewN | apply below_drew1 | refine below_set ?_ GE170.out) | exact HB.out)⟩
            · replace c27 := Bool.eq_false_iff.mpr c27
              subst c27
              have H1 : (cohousinglaw16_FactsLate.l0 kj10 l0 a2 a3 a4 a5 true y181 l0 (l0.length : Int) 0 a1_0 a1_1 a1_2 a1_3 a1_4 a1_5 a1_6) = some r := by rw [if_neg (show ¬ (false = true) by decide)] at H; exact H
              clear H
              have H := H1
              clear H1
              have H' := Aside0.mk H
              clear H
              go_wp2
              go_loopg [41] kj10 (fun kq v41 w' => ∃ (x41_2 : Int), v41 = .int .i64 x41_2 ∧ Aside0 (cohousinglaw16_FactsLate.l0 kq l0 a2 a3 a4 a5 true y181 l0 (l0.length : Int) x41_2 a1_0 a1_1 a1_2 a1_3 a1_4 a1_5 a1_6 = some r) ∧ Aside0 (kq ≤ kj10) ∧ Aside0 (Kd.R k26 26 w' w.heap.size (fun k_ => k_ ≠ gb170) v182 y181) ∧ Aside0 (w'.heap[gb170]? = some (.cells #[.int .i64 a1_0, .string a1_1, .int .i64 a1_2, .int .i64 a1_3, .int .i64 a1_4, .int .i64 a1_5, .bool a1_6] 26 (0, 0))) ∧ Aside0 (Below w.heap.size w w'))
              case atStart => exact ⟨(0), (by first | rfl | (simp; done) | (simp [*]; done)), H', ⟨Nat.le_refl _⟩, ⟨by (with_reducible repeat (first | apply Kd.R_alloc | apply Kd.R_drewN | apply Kd.R_drew)); exact HO_14.out⟩, ⟨by (with_reducible repeat (first | refine blk_drewN ?_ _ | refine blk_drew ?_ | refine blk_alloc ?_ _)); exact BK170.out⟩, ⟨by repeat (first | (with_reducible first | exact HB.out | apply below_alloc | apply pw_below_drewN | apply below_drew1 | refine below_set ?_ GE170.out) | exact HB.out)⟩⟩
              case round =>
                clear H'
                try clear c1
                try clear c2
                try clear p2
                try clear c3
                try clear c7
                try clear c8
                try clear c9
                try clear c10
                try clear c23
                try clear c23b0
                try clear c23b1
                try clear c27
                try clear p2
                obtain ⟨x41_2, rfl, HA, HK2, HO_14, BK170, HB⟩ := hrel
                cases gk with
                | zero => exact absurd HA.out (by simp [cohousinglaw16_FactsLate.l0])
                | succ k2 =>
                  have H := HA.out
                  clear HA
                  simp only [cohousinglaw16_FactsLate.l0] at H
                  by_cases c28 : x41_2 < (l0.length : Int)
                  · rw [if_pos c28] at H
                    have c28b0 : decide (x41_2 < (l0.length : Int)) = true := decide_eq_true c28
                    clear c28
                    by_cases c29 : 0 ≤ x41_2
                    · rw [if_pos c29] at H
                      have c29b0 : decide (0 ≤ x41_2) = true := decide_eq_true c29
                      clear c29
                      by_cases c30 : x41_2 < (l0.length : Int)
                      · rw [if_pos c30] at H
                        have c30b0 : decide (x41_2 < (l0.length : Int)) = true := decide_eq_true c30
                        clear c30
                        by_cases c31 : ((rd_T26 l0 x41_2).f4) ≥ a1_5
                        · rw [if_pos c31] at H
                          have c31b0 : decide (a1_5 ≤ ((rd_T26 l0 x41_2).f4)) = true := decide_eq_true c31
                          clear c31
                          replace H : (some true) = some r := by first | (rw [if_pos rfl] at H; exact H) | (rw [if_pos trivial] at H; exact H)
                          obtain rfl := Option.some.inj H
                          have p185 : 0 ≤ (x41_2 : Int) := of_decide_eq_true (by first | (with_reducible assumption) | assumption)
                          have q185 : x41_2 < (l0.length : Int) := of_decide_eq_true (by first | (with_reducible assumption) | assumption)
                          obtain ⟨ad185, e185, hx185_0, hx185_1, hx185_2, hx185_3, hx185_4, hx185_5, hx185_6⟩ := at_T26 HR0.out x41_2 p185 q185
                          cases e185
                          replace hx185_0 := (HB.out.cell (World.block_lt_of_cell? w _ hx185_0)).trans hx185_0
                          replace hx185_1 := (HB.out.cell (World.block_lt_of_cell? w _ hx185_1)).trans hx185_1
                          replace hx185_2 := (HB.out.cell (World.block_lt_of_cell? w _ hx185_2)).trans hx185_2
                          replace hx185_3 := (HB.out.cell (World.block_lt_of_cell? w _ hx185_3)).trans hx185_3
                          replace hx185_4 := (HB.out.cell (World.block_lt_of_cell? w _ hx185_4)).trans hx185_4
                          replace hx185_5 := (HB.out.cell (World.block_lt_of_cell? w _ hx185_5)).trans hx185_5
                          replace hx185_6 := (HB.out.cell (World.block_lt_of_cell? w _ hx185_6)).trans hx185_6
                          replace p185 := eq_true p185
                          replace q185 := eq_true q185
                          go_wp2_with (first | ((with_reducible refine gate_dst (N := 16) rfl ?_); refine box_event ?hg (N := 16) ?hd (cs := #[.int .i64 0, .string (⟨#[]⟩ : ByteArray), .int .i64 0, .int .i64 0, .int .i64 0, .int .i64 0, .bool false]) (t := 26) ?hr ?_; (case hd => rfl); (case hg => rfl); (case hr => first | (go_simp; done) | (go_simp; rfl)); intro gb186 hg w32 hbox hb; have n0_ := Aside0.mk (Kd.R_below (Kd.R_elderB (by (with_reducible repeat (first | apply Kd.R_alloc | apply Kd.R_drewN | apply Kd.R_drew)); exact HO_14.out) gb186 (Nat.le_of_eq hg.symm)) hb); have n1_ := Aside0.mk (blk_below (g := gb170) (o := .cells #[.int .i64 a1_0, .string a1_1, .int .i64 a1_2, .int .i64 a1_3, .int .i64 a1_4, .int .i64 a1_5, .bool a1_6] 26 (0, 0)) (by (with_reducible repeat (first | refine blk_drewN ?_ _ | refine blk_drew ?_ | refine blk_alloc ?_ _)); exact BK170.out) hb); have n2_ := Aside0.mk (below_step (by repeat (first | (with_reducible first | exact HB.out | apply below_alloc | apply pw_below_drewN | apply below_drew1 | refine below_set ?_ GE170.out) | exact HB.out)) hb); have n3_ := Aside0.mk (hbox); have n4_ := Aside0.mk ((by rw [hg]; exact (below_size (by repeat (first | (with_reducible first | exact HB.out | apply below_alloc | apply pw_below_drewN | apply below_drew1 | refine below_set ?_ GE170.out) | exact HB.out))) : w.heap.size ≤ gb186)); have n5_ := Aside0.mk ((by rw [hg]; exact (below_size (by repeat (first | (with_reducible first | exact HB.out | apply below_alloc | apply pw_below_drewN | apply below_drew1 | refine below_set ?_ GE170.out) | exact HB.out))) : w.heap.size ≤ gb186)); have n6_ := Aside0.mk ((by rw [hg]; exact Nat.ne_of_lt (blk_lt (g := gb170) (o := .cells #[.int .i64 a1_0, .string a1_1, .int .i64 a1_2, .int .i64 a1_3, .int .i64 a1_4, .int .i64 a1_5, .bool a1_6] 26 (0, 0)) (by (with_reducible repeat (first | refine blk_drewN ?_ _ | refine blk_drew ?_ | refine blk_alloc ?_ _)); exact BK170.out)) : gb170 ≠ gb186)); have n7_ := Aside0.mk ((by rw [hg]; exact Nat.ne_of_gt (blk_lt (g := gb170) (o := .cells #[.int .i64 a1_0, .string a1_1, .int .i64 a1_2, .int .i64 a1_3, .int .i64 a1_4, .int .i64 a1_5, .bool a1_6] 26 (0, 0)) (by (with_reducible repeat (first | refine blk_drewN ?_ _ | refine blk_drew ?_ | refine blk_alloc ?_ _)); exact BK170.out)) : gb186 ≠ gb170)); clear HO_14; clear BK170; clear HB; have HO_14 := n0_; have BK170 := n1_; have HB := n2_; have BK186 := n3_; have GW186 := n4_; have GE186 := n5_; have NB170_186 := n6_; have NB186_170 := n7_; clear n0_ n1_ n2_ n3_ n4_ n5_ n6_ n7_; clear hb hbox hg; have hnb33 := NB186_170.out; have hnc33 := NB170_186.out; have hcz34_0 : w32.cell? ⟨gb186, 0, none⟩ = some (.int .i64 0) := (blk_cell BK186.out 0).trans rfl; have hcz34_1 : w32.cell? ⟨gb186, 1, none⟩ = some (.string (⟨#[]⟩ : ByteArray)) := (blk_cell BK186.out 1).trans rfl; have hcz34_2 : w32.cell? ⟨gb186, 2, none⟩ = some (.int .i64 0) := (blk_cell BK186.out 2).trans rfl; have hcz34_3 : w32.cell? ⟨gb186, 3, none⟩ = some (.int .i64 0) := (blk_cell BK186.out 3).trans rfl; have hcz34_4 : w32.cell? ⟨gb186, 4, none⟩ = some (.int .i64 0) := (blk_cell BK186.out 4).trans rfl; have hcz34_5 : w32.cell? ⟨gb186, 5, none⟩ = some (.int .i64 0) := (blk_cell BK186.out 5).trans rfl; have hcz34_6 : w32.cell? ⟨gb186, 6, none⟩ = some (.bool false) := (blk_cell BK186.out 6).trans rfl; have hfz34_0 := blk_frozen BK186.out 0; have hfz34_1 := blk_frozen BK186.out 1; have hfz34_2 := blk_frozen BK186.out 2; have hfz34_3 := blk_frozen BK186.out 3; have hfz34_4 := blk_frozen BK186.out 4; have hfz34_5 := blk_frozen BK186.out 5; have hfz34_6 := blk_frozen BK186.out 6; have hcz35_0 : w32.cell? ⟨gb170, 0, none⟩ = some (.int .i64 a1_0) := (blk_cell BK170.out 0).trans rfl; have hcz35_1 : w32.cell? ⟨gb170, 1, none⟩ = some (.string a1_1) := (blk_cell BK170.out 1).trans rfl; have hcz35_2 : w32.cell? ⟨gb170, 2, none⟩ = some (.int .i64 a1_2) := (blk_cell BK170.out 2).trans rfl; have hcz35_3 : w32.cell? ⟨gb170, 3, none⟩ = some (.int .i64 a1_3) := (blk_cell BK170.out 3).trans rfl; have hcz35_4 : w32.cell? ⟨gb170, 4, none⟩ = some (.int .i64 a1_4) := (blk_cell BK170.out 4).trans rfl; have hcz35_5 : w32.cell? ⟨gb170, 5, none⟩ = some (.int .i64 a1_5) := (blk_cell BK170.out 5).trans rfl; have hcz35_6 : w32.cell? ⟨gb170, 6, none⟩ = some (.bool a1_6) := (blk_cell BK170.out 6).trans rfl; have hfz35_0 := blk_frozen BK170.out 0; have hfz35_1 := blk_frozen BK170.out 1; have hfz35_2 := blk_frozen BK170.out 2; have hfz35_3 := blk_frozen BK170.out 3; have hfz35_4 := blk_frozen BK170.out 4; have hfz35_5 := blk_frozen BK170.out 5; have hfz35_6 := blk_frozen BK170.out 6))
                          go_ret
                          exact ⟨by first | rfl | (simp [errW_none, errW_some] <;> rfl) | (simp [*, errW_none, errW_some] <;> rfl), by repeat (first | (with_reducible first | exact HB.out | apply below_alloc | apply pw_below_drewN | apply below_drew1 | refine below_set ?_ GE170.out | refine below_set ?_ GE186.out) | exact HB.out)⟩
                        · rw [if_neg c31] at H
                          have c31b0 : decide (a1_5 ≤ ((rd_T26 l0 x41_2).f4)) = false := decide_eq_false c31
                          clear c31
                          have H' := Aside0.mk H
                          clear H
                          have p185 : 0 ≤ (x41_2 : Int) := of_decide_eq_true (by first | (with_reducible assumption) | assumption)
                          have q185 : x41_2 < (l0.length : Int) := of_decide_eq_true (by first | (with_reducible assumption) | assumption)
                          obtain ⟨ad185, e185, hx185_0, hx185_1, hx185_2, hx185_3, hx185_4, hx185_5, hx185_6⟩ := at_T26 HR0.out x41_2 p185 q185
                          cases e185
                          replace hx185_0 := (HB.out.cell (World.block_lt_of_cell? w _ hx185_0)).trans hx185_0
                          replace hx185_1 := (HB.out.cell (World.block_lt_of_cell? w _ hx185_1)).trans hx185_1
                          replace hx185_2 := (HB.out.cell (World.block_lt_of_cell? w _ hx185_2)).trans hx185_2
                          replace hx185_3 := (HB.out.cell (World.block_lt_of_cell? w _ hx185_3)).trans hx185_3
                          replace hx185_4 := (HB.out.cell (World.block_lt_of_cell? w _ hx185_4)).trans hx185_4
                          replace hx185_5 := (HB.out.cell (World.block_lt_of_cell? w _ hx185_5)).trans hx185_5
                          replace hx185_6 := (HB.out.cell (World.block_lt_of_cell? w _ hx185_6)).trans hx185_6
                          replace p185 := eq_true p185
                          replace q185 := eq_true q185
                          go_wp2_with (first | ((with_reducible refine gate_dst (N := 16) rfl ?_); refine box_event ?hg (N := 16) ?hd (cs := #[.int .i64 0, .string (⟨#[]⟩ : ByteArray), .int .i64 0, .int .i64 0, .int .i64 0, .int .i64 0, .bool false]) (t := 26) ?hr ?_; (case hd => rfl); (case hg => rfl); (case hr => first | (go_simp; done) | (go_simp; rfl)); intro gb186 hg w36 hbox hb; have n0_ := Aside0.mk (Kd.R_below (Kd.R_elderB (by (with_reducible repeat (first | apply Kd.R_alloc | apply Kd.R_drewN | apply Kd.R_drew)); exact HO_14.out) gb186 (Nat.le_of_eq hg.symm)) hb); have n1_ := Aside0.mk (blk_below (g := gb170) (o := .cells #[.int .i64 a1_0, .string a1_1, .int .i64 a1_2, .int .i64 a1_3, .int .i64 a1_4, .int .i64 a1_5, .bool a1_6] 26 (0, 0)) (by (with_reducible repeat (first | refine blk_drewN ?_ _ | refine blk_drew ?_ | refine blk_alloc ?_ _)); exact BK170.out) hb); have n2_ := Aside0.mk (below_step (by repeat (first | (with_reducible first | exact HB.out | apply below_alloc | apply pw_below_drewN | apply below_drew1 | refine below_set ?_ GE170.out) | exact HB.out)) hb); have n3_ := Aside0.mk (hbox); have n4_ := Aside0.mk ((by rw [hg]; exact (below_size (by repeat (first | (with_reducible first | exact HB.out | apply below_alloc | apply pw_below_drewN | apply below_drew1 | refine below_set ?_ GE170.out) | exact HB.out))) : w.heap.size ≤ gb186)); have n5_ := Aside0.mk ((by rw [hg]; exact (below_size (by repeat (first | (with_reducible first | exact HB.out | apply below_alloc | apply pw_below_drewN | apply below_drew1 | refine below_set ?_ GE170.out) | exact HB.out))) : w.heap.size ≤ gb186)); have n6_ := Aside0.mk ((by rw [hg]; exact Nat.ne_of_lt (blk_lt (g := gb170) (o := .cells #[.int .i64 a1_0, .string a1_1, .int .i64 a1_2, .int .i64 a1_3, .int .i64 a1_4, .int .i64 a1_5, .bool a1_6] 26 (0, 0)) (by (with_reducible repeat (first | refine blk_drewN ?_ _ | refine blk_drew ?_ | refine blk_alloc ?_ _)); exact BK170.out)) : gb170 ≠ gb186)); have n7_ := Aside0.mk ((by rw [hg]; exact Nat.ne_of_gt (blk_lt (g := gb170) (o := .cells #[.int .i64 a1_0, .string a1_1, .int .i64 a1_2, .int .i64 a1_3, .int .i64 a1_4, .int .i64 a1_5, .bool a1_6] 26 (0, 0)) (by (with_reducible repeat (first | refine blk_drewN ?_ _ | refine blk_drew ?_ | refine blk_alloc ?_ _)); exact BK170.out)) : gb186 ≠ gb170)); clear HO_14; clear BK170; clear HB; have HO_14 := n0_; have BK170 := n1_; have HB := n2_; have BK186 := n3_; have GW186 := n4_; have GE186 := n5_; have NB170_186 := n6_; have NB186_170 := n7_; clear n0_ n1_ n2_ n3_ n4_ n5_ n6_ n7_; clear hb hbox hg; have hnb37 := NB186_170.out; have hnc37 := NB170_186.out; have hcz38_0 : w36.cell? ⟨gb186, 0, none⟩ = some (.int .i64 0) := (blk_cell BK186.out 0).trans rfl; have hcz38_1 : w36.cell? ⟨gb186, 1, none⟩ = some (.string (⟨#[]⟩ : ByteArray)) := (blk_cell BK186.out 1).trans rfl; have hcz38_2 : w36.cell? ⟨gb186, 2, none⟩ = some (.int .i64 0) := (blk_cell BK186.out 2).trans rfl; have hcz38_3 : w36.cell? ⟨gb186, 3, none⟩ = some (.int .i64 0) := (blk_cell BK186.out 3).trans rfl; have hcz38_4 : w36.cell? ⟨gb186, 4, none⟩ = some (.int .i64 0) := (blk_cell BK186.out 4).trans rfl; have hcz38_5 : w36.cell? ⟨gb186, 5, none⟩ = some (.int .i64 0) := (blk_cell BK186.out 5).trans rfl; have hcz38_6 : w36.cell? ⟨gb186, 6, none⟩ = some (.bool false) := (blk_cell BK186.out 6).trans rfl; have hfz38_0 := blk_frozen BK186.out 0; have hfz38_1 := blk_frozen BK186.out 1; have hfz38_2 := blk_frozen BK186.out 2; have hfz38_3 := blk_frozen BK186.out 3; have hfz38_4 := blk_frozen BK186.out 4; have hfz38_5 := blk_frozen BK186.out 5; have hfz38_6 := blk_frozen BK186.out 6; have hcz39_0 : w36.cell? ⟨gb170, 0, none⟩ = some (.int .i64 a1_0) := (blk_cell BK170.out 0).trans rfl; have hcz39_1 : w36.cell? ⟨gb170, 1, none⟩ = some (.string a1_1) := (blk_cell BK170.out 1).trans rfl; have hcz39_2 : w36.cell? ⟨gb170, 2, none⟩ = some (.int .i64 a1_2) := (blk_cell BK170.out 2).trans rfl; have hcz39_3 : w36.cell? ⟨gb170, 3, none⟩ = some (.int .i64 a1_3) := (blk_cell BK170.out 3).trans rfl; have hcz39_4 : w36.cell? ⟨gb170, 4, none⟩ = some (.int .i64 a1_4) := (blk_cell BK170.out 4).trans rfl; have hcz39_5 : w36.cell? ⟨gb170, 5, none⟩ = some (.int .i64 a1_5) := (blk_cell BK170.out 5).trans rfl; have hcz39_6 : w36.cell? ⟨gb170, 6, none⟩ = some (.bool a1_6) := (blk_cell BK170.out 6).trans rfl; have hfz39_0 := blk_frozen BK170.out 0; have hfz39_1 := blk_frozen BK170.out 1; have hfz39_2 := blk_frozen BK170.out 2; have hfz39_3 := blk_frozen BK170.out 3; have hfz39_4 := blk_frozen BK170.out 4; have hfz39_5 := blk_frozen BK170.out 5; have hfz39_6 := blk_frozen BK170.out 6))
                          go_roundg k2
                          case measure => have := HJ10.out; have := HK2.out; omega
                          case rel => exact ⟨(wrap64 (x41_2 + 1)), (by first | rfl | (simp; done) | (simp [*]; done)), H', ⟨by have := HJ10.out; have := HK2.out; omega⟩, ⟨by (with_reducible repeat (first | apply Kd.R_alloc | apply Kd.R_drewN | apply Kd.R_drew)); exact Kd.R_mono (Kd.R_far (p := ⟨gb186, 6, none⟩) (Kd.R_far (p := ⟨gb186, 5, none⟩) (Kd.R_far (p := ⟨gb186, 4, none⟩) (Kd.R_far (p := ⟨gb186, 3, none⟩) (Kd.R_far (p := ⟨gb186, 2, none⟩) (Kd.R_far (p := ⟨gb186, 1, none⟩) (Kd.R_far (p := ⟨gb186, 0, none⟩) (Kd.R_mono HO_14.out (fun k_ hk => (⟨hk, hk.2⟩ : _ ∧ k_ ≠ gb186))) (fun _ hk => hk.2) (.int .i64 ((rd_T26 l0 x41_2).f0))) (fun _ hk => hk.2) (.string ((rd_T26 l0 x41_2).f1))) (fun _ hk => hk.2) (.int .i64 ((rd_T26 l0 x41_2).f2))) (fun _ hk => hk.2) (.int .i64 ((rd_T26 l0 x41_2).f3.f0))) (fun _ hk => hk.2) (.int .i64 ((rd_T26 l0 x41_2).f3.f1))) (fun _ hk => hk.2) (.int .i64 ((rd_T26 l0 x41_2).f4))) (fun _ hk => hk.2) (.bool ((rd_T26 l0 x41_2).f5))) (fun _ hk => hk.1.1)⟩, ⟨by (with_reducible repeat (first | refine blk_drewN ?_ _ | refine blk_drew ?_ | refine blk_alloc ?_ _)); refine blk_far ?_ NB170_186.out _; (with_reducible repeat (first | refine blk_drewN ?_ _ | refine blk_drew ?_ | refine blk_alloc ?_ _)); refine blk_far ?_ NB170_186.out _; (with_reducible repeat (first | refine blk_drewN ?_ _ | refine blk_drew ?_ | refine blk_alloc ?_ _)); refine blk_far ?_ NB170_186.out _; (with_reducible repeat (first | refine blk_drewN ?_ _ | refine blk_drew ?_ | refine blk_alloc ?_ _)); refine blk_far ?_ NB170_186.out _; (with_reducible repeat (first | refine blk_drewN ?_ _ | refine blk_drew ?_ | refine blk_alloc ?_ _)); refine blk_far ?_ NB170_186.out _; (with_reducible repeat (first | refine blk_drewN ?_ _ | refine blk_drew ?_ | refine blk_alloc ?_ _)); refine blk_far ?_ NB170_186.out _; (with_reducible repeat (first | refine blk_drewN ?_ _ | refine blk_drew ?_ | refine blk_alloc ?_ _)); refine blk_far ?_ NB170_186.out _; (with_reducible repeat (first | refine blk_drewN ?_ _ | refine blk_drew ?_ | refine blk_alloc ?_ _)); exact BK170.out⟩, ⟨by repeat (first | (with_reducible first | exact HB.out | apply below_alloc | apply pw_below_drewN | apply below_drew1 | refine below_set ?_ GE170.out | refine below_set ?_ GE186.out) | exact HB.out)⟩⟩
                      · rw [if_neg c30] at H
                        exact absurd H (by simp)
                    · rw [if_neg c29] at H
                      exact absurd H (by simp)
                  · rw [if_neg c28] at H
                    have c28b0 : decide (x41_2 < (l0.length : Int)) = false := decide_eq_false c28
                    clear c28
                    replace H := Option.bind_eq_some_iff.mp H
                    obtain ⟨⟨t187, t188, t189⟩, A400, H⟩ := H
                    replace H : ((facts_Value.f y181 a2 a3 a4 a5).bind fun bt190 => (if t189 = 0 then (cohousinglaw16_FactsLate.j2 k2 a2 a3 a4 a5 true t187 t188 t189 bt190.1 bt190.2.1 bt190.2.2 (bt190.2.2 != 0) a1_0 a1_1 a1_2 a1_3 a1_4 a1_5 a1_6) else (cohousinglaw16_FactsLate.j2 k2 a2 a3 a4 a5 true t187 t188 t189 bt190.1 bt190.2.1 bt190.2.2 true a1_0 a1_1 a1_2 a1_3 a1_4 a1_5 a1_6))) = some r := H
                    have A40 := Aside0.mk A400
                    clear A400
                    replace H := Option.bind_eq_some_iff.mp H
                    obtain ⟨⟨t190, t191, t192⟩, A410, H⟩ := H
                    replace H : (if t189 = 0 then (cohousinglaw16_FactsLate.j2 k2 a2 a3 a4 a5 true t187 t188 t189 t190 t191 t192 (t192 != 0) a1_0 a1_1 a1_2 a1_3 a1_4 a1_5 a1_6) else (cohousinglaw16_FactsLate.j2 k2 a2 a3 a4 a5 true t187 t188 t189 t190 t191 t192 true a1_0 a1_1 a1_2 a1_3 a1_4 a1_5 a1_6)) = some r := H
                    have A41 := Aside0.mk A410
                    clear A410
                    have HC42 := Aside0.mk H
                    clear H
                    go_upto_region 13 with (first | ((with_reducible refine gate_callee (f := 12) rfl ?_); refine goesL_ (some 58) rfl rfl Tryz.func12 (by kernel_rfl) rfl #[.slice A0 l0.length c0, .int .i64 a2, .string a3, .int .i64 a4, .int .i64 a5] rfl (by (try simp only [List.map_toArray, List.map_cons, List.map_nil]); first | done | rfl | (simp only [List.length_drop, List.length_take]; rfl)) ?_; (with_reducible refine (facts_Value.calls _ _ l0 a2 a3 a4 a5 t187 t188 t189 _ ?side1 ?side2 A40.out).mono ?_); (case side1 => repeat (first | exact (Kd.C_below HR0.out HB.out) | (with_reducible refine Kd.C_alloc ?_ _) | (with_reducible refine Kd.C_drewN ?_ _) | (with_reducible refine Kd.C_drew ?_))); (case side2 => exact HC0.out); rintro e w43 ⟨rfl, hb⟩; refine ⟨_, rfl, ?_⟩; have n0_ := Aside0.mk (Kd.R_below (by (with_reducible repeat (first | apply Kd.R_alloc | apply Kd.R_drewN | apply Kd.R_drew)); exact HO_14.out) hb); have n1_ := Aside0.mk (blk_below (g := gb170) (o := .cells #[.int .i64 a1_0, .string a1_1, .int .i64 a1_2, .int .i64 a1_3, .int .i64 a1_4, .int .i64 a1_5, .bool a1_6] 26 (0, 0)) (by (with_reducible repeat (first | refine blk_drewN ?_ _ | refine blk_drew ?_ | refine blk_alloc ?_ _)); exact BK170.out) hb); have n2_ := Aside0.mk (below_step (by repeat (first | (with_reducible first | exact HB.out | apply below_alloc | apply pw_below_drewN | apply below_drew1 | refine below_set ?_ GE170.out) | exact HB.out)) hb); clear HO_14; clear BK170; clear HB; have HO_14 := n0_; have BK170 := n1_; have HB := n2_; clear n0_ n1_ n2_; (try clear hb); (try clear hb2); (try clear hk); (try clear hi); obtain ⟨Ao44, co44, eo44⟩ := Kd.R_slice HO_14.out; subst eo44) | ((with_reducible refine gate_callee (f := 12) rfl ?_); refine goesL_ (some 68) rfl rfl Tryz.func12 (by kernel_rfl) rfl #[.slice Ao44 y181.length co44, .int .i64 a2, .string a3, .int .i64 a4, .int .i64 a5] rfl (by (try simp only [List.map_toArray, List.map_cons, List.map_nil]); first | done | rfl | (simp only [List.length_drop, List.length_take]; rfl)) ?_; (with_reducible refine (facts_Value.calls _ _ y181 a2 a3 a4 a5 t190 t191 t192 _ ?side1 ?side2 A41.out).mono ?_); (case side1 => repeat (first | exact (Kd.R_reads' HO_14.out).2.2 | (with_reducible refine Kd.C_alloc ?_ _) | (with_reducible refine Kd.C_drewN ?_ _) | (with_reducible refine Kd.C_drew ?_))); (case side2 => exact (Kd.R_reads' HO_14.out).2.1); rintro e w45 ⟨rfl, hb⟩; refine ⟨_, rfl, ?_⟩; have n0_ := Aside0.mk (Kd.R_below (by (with_reducible repeat (first | apply Kd.R_alloc | apply Kd.R_drewN | apply Kd.R_drew)); exact HO_14.out) hb); have n1_ := Aside0.mk (blk_below (g := gb170) (o := .cells #[.int .i64 a1_0, .string a1_1, .int .i64 a1_2, .int .i64 a1_3, .int .i64 a1_4, .int .i64 a1_5, .bool a1_6] 26 (0, 0)) (by (with_reducible repeat (first | refine blk_drewN ?_ _ | refine blk_drew ?_ | refine blk_alloc ?_ _)); exact BK170.out) hb); have n2_ := Aside0.mk (below_step (by repeat (first | (with_reducible first | exact HB.out | apply below_alloc | apply pw_below_drewN | apply below_drew1 | refine below_set ?_ GE170.out) | exact HB.out)) hb); clear HO_14; clear BK170; clear HB; have HO_14 := n0_; have BK170 := n1_; have HB := n2_; clear n0_ n1_ n2_; (try clear hb); (try clear hb2); (try clear hk); (try clear hi)))
                    (try simp only [Act.put, List.setIfInBounds_toArray, List.set_cons_zero, List.set_cons_succ])
                    go_cut [77] (fun v77 wc => ∃ (kq : Nat) (x77_41 : Bool), v77 = .bool x77_41 ∧ Aside0 (cohousinglaw16_FactsLate.j2 kq a2 a3 a4 a5 true t187 t188 t189 t190 t191 t192 x77_41 a1_0 a1_1 a1_2 a1_3 a1_4 a1_5 a1_6 = some r) ∧ Aside0 (kq ≤ k2) ∧ Aside0 (wc.heap[gb170]? = some (.cells #[.int .i64 a1_0, .string a1_1, .int .i64 a1_2, .int .i64 a1_3, .int .i64 a1_4, .int .i64 a1_5, .bool a1_6] 26 (0, 0))) ∧ Aside0 (Below w.heap.size w wc))
                    case first =>
                      have H := HC42.out
                      clear HC42
                      by_cases c46 : t189 = 0
                      · rw [if_pos c46] at H
                        have c46b0 : (t189 == 0) = true := beq_iff_eq.mpr c46
                        have c46b1 : (t189 != 0) = false := bne_eq_false_iff_eq.mpr c46
                        clear c46
                        (first | rw [c46b0] | (simp only [i64_w, i32_w]; rw [c46b0]) | skip)
                        have H' := Aside0.mk H
                        clear H
                        go_wp2
                        go_meet
                        case rel => exact ⟨_, ((t192 != 0)), (by first | rfl | (simp; done) | (simp [*]; done)), H', ⟨by have := HJ10.out; have := HK2.out; first | omega | exact Nat.le_refl _⟩, ⟨by (with_reducible repeat (first | refine blk_drewN ?_ _ | refine blk_drew ?_ | refine blk_alloc ?_ _)); exact BK170.out⟩, ⟨by repeat (first | (with_reducible first | exact HB.out | apply below_alloc | apply pw_below_drewN | apply below_drew1 | refine below_set ?_ GE170.out) | exact HB.out)⟩⟩
                      · rw [if_neg c46] at H
                        have c46b0 : (t189 == 0) = false := beq_eq_false_iff_ne.mpr c46
                        have c46b1 : (t189 != 0) = true := bne_iff_ne.mpr c46
                        (first | rw [c46b0] | (simp only [i64_w, i32_w]; rw [c46b0]) | skip)
                        have H' := Aside0.mk H
                        clear H
                        go_wp2
                        go_meet
                        case rel => exact ⟨_, (true), (by first | rfl | (simp; done) | (simp [*]; done)), H', ⟨by have := HJ10.out; have := HK2.out; first | omega | exact Nat.le_refl _⟩, ⟨by (with_reducible repeat (first | refine blk_drewN ?_ _ | refine blk_drew ?_ | refine blk_alloc ?_ _)); exact BK170.out⟩, ⟨by repeat (first | (with_reducible first | exact HB.out | apply below_alloc | apply pw_below_drewN | apply below_drew1 | refine below_set ?_ GE170.out) | exact HB.out)⟩⟩
                    case rest =>
                      clear HC42
                      try clear c1
                      try clear p1
                      try clear q1
                      try clear hx1
                      try clear c2
                      try clear p2
                      try clear c3
                      try clear c4
                      try clear p6
                      try clear c7
                      try clear c8
                      try clear c9
                      try clear c10
                      try clear c12
                      try clear p18
                      try clear q18
                      try clear hx18
                      try clear c23
                      try clear c23b0
                      try clear c23b1
                      try clear c27
                      try clear c28
                      try clear c28b0
                      try clear c29
                      try clear c29b0
                      try clear c30
                      try clear c30b0
                      try clear c31
                      try clear c31b0
                      try clear c33
                      try clear c37
                      try clear c46
                      try clear c46b0
                      try clear c46b1
                      try clear hcz34_0
                      try clear hcz34_1
                      try clear hcz34_2
                      try clear hcz34_3
                      try clear hcz34_4
                      try clear hcz34_5
                      try clear hcz34_6
                      try clear hcz35_0
                      try clear hcz35_1
                      try clear hcz35_2
                      try clear hcz35_3
                      try clear hcz35_4
                      try clear hcz35_5
                      try clear hcz35_6
                      try clear hcz38_0
                      try clear hcz38_1
                      try clear hcz38_2
                      try clear hcz38_3
                      try clear hcz38_4
                      try clear hcz38_5
                      try clear hcz38_6
                      try clear hcz39_0
                      try clear hcz39_1
                      try clear hcz39_2
                      try clear hcz39_3
                      try clear hcz39_4
                      try clear hcz39_5
                      try clear hcz39_6
                      try clear hfz34_0
                      try clear hfz34_1
                      try clear hfz34_2
                      try clear hfz34_3
                      try clear hfz34_4
                      try clear hfz34_5
                      try clear hfz34_6
                      try clear hfz35_0
                      try clear hfz35_1
                      try clear hfz35_2
                      try clear hfz35_3
                      try clear hfz35_4
                      try clear hfz35_5
                      try clear hfz35_6
                      try clear hfz38_0
                      try clear hfz38_1
                      try clear hfz38_2
                      try clear hfz38_3
                      try clear hfz38_4
                      try clear hfz38_5
                      try clear hfz38_6
                      try clear hfz39_0
                      try clear hfz39_1
                      try clear hfz39_2
                      try clear hfz39_3
                      try clear hfz39_4
                      try clear hfz39_5
                      try clear hfz39_6
                      try clear hx185_0
                      try clear hx185_1
                      try clear hx185_2
                      try clear hx185_3
                      try clear hx185_4
                      try clear hx185_5
                      try clear hx185_6
                      try clear p185
                      try clear p2
                      try clear q185
                      obtain ⟨kq, x77_41, rfl, HA, HJ41, BK170, HB⟩ := hcut
                      cases kq with
                      | zero => exact absurd HA.out (by simp [cohousinglaw16_FactsLate.j2])
                      | succ kj41 =>
                        have H := HA.out
                        clear HA
                        simp only [cohousinglaw16_FactsLate.j2] at H
                        by_cases c47 : x77_41 = true
                        · subst c47
                          have H1 : (if true = true then (if t189 = t192 then (some true) else (none)) else (none)) = some r := by rw [if_pos rfl] at H; exact H
                          clear H
                          have H := H1
                          clear H1
                          replace H : (if t189 = t192 then (some true) else (none)) = some r := by first | (rw [if_pos rfl] at H; exact H) | (rw [if_pos trivial] at H; exact H)
                          by_cases c48 : t189 = t192
                          · rw [if_pos c48] at H
                            have c48b0 : (t189 == t192) = true := beq_iff_eq.mpr c48
                            have c48b1 : (t189 != t192) = false := bne_eq_false_iff_eq.mpr c48
                            clear c48
                            obtain rfl := Option.some.inj H
                            go_wp2
                            go_ret
                            exact ⟨by first | rfl | (simp [errW_none, errW_some] <;> rfl) | (simp [*, errW_none, errW_some] <;> rfl), by repeat (first | (with_reducible first | exact HB.out | apply below_alloc | apply pw_below_drewN | apply below_drew1 | refine below_set ?_ GE170.out) | exact HB.out)⟩
                          · rw [if_neg c48] at H
                            exact absurd H (by simp)
                        · replace c47 := Bool.eq_false_iff.mpr c47
                          subst c47
                          have H1 : (if a1_0 = a2 then (if a1_1.toList = a3.toList then (if a1_3 ≤ a4 then (if a4 < a1_4 then (if a1_5 ≤ a5 then (if true = true then (if (t191 == (!a1_6)) = true then (if t190 = a1_2 then (some true) else (none)) else (none)) else (none)) else (if true = true then (if t187 = t190 then (if (t188 == t191) = true then (some true) else (none)) else (none)) else (none))) else (if true = true then (if t187 = t190 then (if (t188 == t191) = true then (some true) else (none)) else (none)) else (none))) else (if true = true then (if t187 = t190 then (if (t188 == t191) = true then (some true) else (none)) else (none)) else (none))) else (if true = true then (if t187 = t190 then (if (t188 == t191) = true then (some true) else (none)) else (none)) else (none))) else (if true = true then (if t187 = t190 then (if (t188 == t191) = true then (some true) else (none)) else (none)) else (none))) = some r := by rw [if_neg (show ¬ (false = true) by decide)] at H; exact H
                          clear H
                          have H := H1
                          clear H1
                          by_cases c49 : a1_0 = a2
                          · rw [if_pos c49] at H
                            have c49b0 : (a1_0 == a2) = true := beq_iff_eq.mpr c49
                            have c49b1 : (a1_0 != a2) = false := bne_eq_false_iff_eq.mpr c49
                            clear c49
                            by_cases c50 : a1_1.toList = a3.toList
                            · rw [if_pos c50] at H
                              have c50b0 : (a1_1.toList == a3.toList) = true := beq_iff_eq.mpr c50
                              have c50b1 : (a1_1.toList != a3.toList) = false := bne_eq_false_iff_eq.mpr c50
                              clear c50
                              by_cases c51 : a1_3 ≤ a4
                              · rw [if_pos c51] at H
                                have c51b0 : decide (a1_3 ≤ a4) = true := decide_eq_true c51
                                clear c51
                                by_cases c52 : a4 < a1_4
                                · rw [if_pos c52] at H
                                  have c52b0 : decide (a4 < a1_4) = true := decide_eq_true c52
                                  clear c52
                                  by_cases c53 : a1_5 ≤ a5
                                  · rw [if_pos c53] at H
                                    have c53b0 : decide (a1_5 ≤ a5) = true := decide_eq_true c53
                                    clear c53
                                    replace H : (if (t191 == (!a1_6)) = true then (if t190 = a1_2 then (some true) else (none)) else (none)) = some r := by first | (rw [if_pos rfl] at H; exact H) | (rw [if_pos trivial] at H; exact H)
                                    by_cases c54 : (t191 == (!a1_6)) = true
                                    · rw [if_pos c54] at H
                                      have c54b0 : (t191 == (!a1_6)) = true := c54
                                      (try (have c54b1 : decide (t191 = (!a1_6)) = true := by simpa using c54))
                                      (try (have c54b2 : (t191 == (!a1_6)) = true := by simpa using c54))
                                      clear c54
                                      by_cases c55 : t190 = a1_2
                                      · rw [if_pos c55] at H
                                        have c55b0 : (t190 == a1_2) = true := beq_iff_eq.mpr c55
                                        have c55b1 : (t190 != a1_2) = false := bne_eq_false_iff_eq.mpr c55
                                        clear c55
                                        obtain rfl := Option.some.inj H
                                        have hcz56_0 : wc.cell? ⟨gb170, 0, none⟩ = some (.int .i64 a1_0) := (blk_cell BK170.out 0).trans rfl
                                        have hcz56_1 : wc.cell? ⟨gb170, 1, none⟩ = some (.string a1_1) := (blk_cell BK170.out 1).trans rfl
                                        have hcz56_2 : wc.cell? ⟨gb170, 2, none⟩ = some (.int .i64 a1_2) := (blk_cell BK170.out 2).trans rfl
                                        have hcz56_3 : wc.cell? ⟨gb170, 3, none⟩ = some (.int .i64 a1_3) := (blk_cell BK170.out 3).trans rfl
                                        have hcz56_4 : wc.cell? ⟨gb170, 4, none⟩ = some (.int .i64 a1_4) := (blk_cell BK170.out 4).trans rfl
                                        have hcz56_5 : wc.cell? ⟨gb170, 5, none⟩ = some (.int .i64 a1_5) := (blk_cell BK170.out 5).trans rfl
                                        have hcz56_6 : wc.cell? ⟨gb170, 6, none⟩ = some (.bool a1_6) := (blk_cell BK170.out 6).trans rfl
                                        have hfz56_0 := blk_frozen BK170.out 0
                                        have hfz56_1 := blk_frozen BK170.out 1
                                        have hfz56_2 := blk_frozen BK170.out 2
                                        have hfz56_3 := blk_frozen BK170.out 3
                                        have hfz56_4 := blk_frozen BK170.out 4
                                        have hfz56_5 := blk_frozen BK170.out 5
                                        have hfz56_6 := blk_frozen BK170.out 6
                                        go_wp2
                                        go_ret
                                        exact ⟨by first | rfl | (simp [errW_none, errW_some] <;> rfl) | (simp [*, errW_none, errW_some] <;> rfl), by repeat (first | (with_reducible first | exact HB.out | apply below_alloc | apply pw_below_drewN | apply below_drew1 | refine below_set ?_ GE170.out) | exact HB.out)⟩
                                      · rw [if_neg c55] at H
                                        exact absurd H (by simp)
                                    · rw [if_neg c54] at H
                                      exact absurd H (by simp)
                                  · rw [if_neg c53] at H
                                    have c53b0 : decide (a1_5 ≤ a5) = false := decide_eq_false c53
                                    clear c53
                                    replace H : (if t187 = t190 then (if (t188 == t191) = true then (some true) else (none)) else (none)) = some r := by first | (rw [if_pos rfl] at H; exact H) | (rw [if_pos trivial] at H; exact H)
                                    by_cases c57 : t187 = t190
                                    · rw [if_pos c57] at H
                                      have c57b0 : (t187 == t190) = true := beq_iff_eq.mpr c57
                                      have c57b1 : (t187 != t190) = false := bne_eq_false_iff_eq.mpr c57
                                      clear c57
                                      by_cases c58 : (t188 == t191) = true
                                      · rw [if_pos c58] at H
                                        have c58b0 : (t188 == t191) = true := c58
                                        (try (have c58b1 : decide (t188 = t191) = true := by simpa using c58))
                                        (try (have c58b2 : (t188 == t191) = true := by simpa using c58))
                                        clear c58
                                        obtain rfl := Option.some.inj H
                                        have hcz59_0 : wc.cell? ⟨gb170, 0, none⟩ = some (.int .i64 a1_0) := (blk_cell BK170.out 0).trans rfl
                                        have hcz59_1 : wc.cell? ⟨gb170, 1, none⟩ = some (.string a1_1) := (blk_cell BK170.out 1).trans rfl
                                        have hcz59_2 : wc.cell? ⟨gb170, 2, none⟩ = some (.int .i64 a1_2) := (blk_cell BK170.out 2).trans rfl
                                        have hcz59_3 : wc.cell? ⟨gb170, 3, none⟩ = some (.int .i64 a1_3) := (blk_cell BK170.out 3).trans rfl
                                        have hcz59_4 : wc.cell? ⟨gb170, 4, none⟩ = some (.int .i64 a1_4) := (blk_cell BK170.out 4).trans rfl
                                        have hcz59_5 : wc.cell? ⟨gb170, 5, none⟩ = some (.int .i64 a1_5) := (blk_cell BK170.out 5).trans rfl
                                        have hcz59_6 : wc.cell? ⟨gb170, 6, none⟩ = some (.bool a1_6) := (blk_cell BK170.out 6).trans rfl
                                        have hfz59_0 := blk_frozen BK170.out 0
                                        have hfz59_1 := blk_frozen BK170.out 1
                                        have hfz59_2 := blk_frozen BK170.out 2
                                        have hfz59_3 := blk_frozen BK170.out 3
                                        have hfz59_4 := blk_frozen BK170.out 4
                                        have hfz59_5 := blk_frozen BK170.out 5
                                        have hfz59_6 := blk_frozen BK170.out 6
                                        go_wp2
                                        go_ret
                                        exact ⟨by first | rfl | (simp [errW_none, errW_some] <;> rfl) | (simp [*, errW_none, errW_some] <;> rfl), by repeat (first | (with_reducible first | exact HB.out | apply below_alloc | apply pw_below_drewN | apply below_drew1 | refine below_set ?_ GE170.out) | exact HB.out)⟩
                                      · rw [if_neg c58] at H
                                        exact absurd H (by simp)
                                    · rw [if_neg c57] at H
                                      exact absurd H (by simp)
                                · rw [if_neg c52] at H
                                  have c52b0 : decide (a4 < a1_4) = false := decide_eq_false c52
                                  clear c52
                                  replace H : (if t187 = t190 then (if (t188 == t191) = true then (some true) else (none)) else (none)) = some r := by first | (rw [if_pos rfl] at H; exact H) | (rw [if_pos trivial] at H; exact H)
                                  by_cases c60 : t187 = t190
                                  · rw [if_pos c60] at H
                                    have c60b0 : (t187 == t190) = true := beq_iff_eq.mpr c60
                                    have c60b1 : (t187 != t190) = false := bne_eq_false_iff_eq.mpr c60
                                    clear c60
                                    by_cases c61 : (t188 == t191) = true
                                    · rw [if_pos c61] at H
                                      have c61b0 : (t188 == t191) = true := c61
                                      (try (have c61b1 : decide (t188 = t191) = true := by simpa using c61))
                                      (try (have c61b2 : (t188 == t191) = true := by simpa using c61))
                                      clear c61
                                      obtain rfl := Option.some.inj H
                                      have hcz62_0 : wc.cell? ⟨gb170, 0, none⟩ = some (.int .i64 a1_0) := (blk_cell BK170.out 0).trans rfl
                                      have hcz62_1 : wc.cell? ⟨gb170, 1, none⟩ = some (.string a1_1) := (blk_cell BK170.out 1).trans rfl
                                      have hcz62_2 : wc.cell? ⟨gb170, 2, none⟩ = some (.int .i64 a1_2) := (blk_cell BK170.out 2).trans rfl
                                      have hcz62_3 : wc.cell? ⟨gb170, 3, none⟩ = some (.int .i64 a1_3) := (blk_cell BK170.out 3).trans rfl
                                      have hcz62_4 : wc.cell? ⟨gb170, 4, none⟩ = some (.int .i64 a1_4) := (blk_cell BK170.out 4).trans rfl
                                      have hcz62_5 : wc.cell? ⟨gb170, 5, none⟩ = some (.int .i64 a1_5) := (blk_cell BK170.out 5).trans rfl
                                      have hcz62_6 : wc.cell? ⟨gb170, 6, none⟩ = some (.bool a1_6) := (blk_cell BK170.out 6).trans rfl
                                      have hfz62_0 := blk_frozen BK170.out 0
                                      have hfz62_1 := blk_frozen BK170.out 1
                                      have hfz62_2 := blk_frozen BK170.out 2
                                      have hfz62_3 := blk_frozen BK170.out 3
                                      have hfz62_4 := blk_frozen BK170.out 4
                                      have hfz62_5 := blk_frozen BK170.out 5
                                      have hfz62_6 := blk_frozen BK170.out 6
                                      go_wp2
                                      go_ret
                                      exact ⟨by first | rfl | (simp [errW_none, errW_some] <;> rfl) | (simp [*, errW_none, errW_some] <;> rfl), by repeat (first | (with_reducible first | exact HB.out | apply below_alloc | apply pw_below_drewN | apply below_drew1 | refine below_set ?_ GE170.out) | exact HB.out)⟩
                                    · rw [if_neg c61] at H
                                      exact absurd H (by simp)
                                  · rw [if_neg c60] at H
                                    exact absurd H (by simp)
                              · rw [if_neg c51] at H
                                have c51b0 : decide (a1_3 ≤ a4) = false := decide_eq_false c51
                                clear c51
                                replace H : (if t187 = t190 then (if (t188 == t191) = true then (some true) else (none)) else (none)) = some r := by first | (rw [if_pos rfl] at H; exact H) | (rw [if_pos trivial] at H; exact H)
                                by_cases c63 : t187 = t190
                                · rw [if_pos c63] at H
                                  have c63b0 : (t187 == t190) = true := beq_iff_eq.mpr c63
                                  have c63b1 : (t187 != t190) = false := bne_eq_false_iff_eq.mpr c63
                                  clear c63
                                  by_cases c64 : (t188 == t191) = true
                                  · rw [if_pos c64] at H
                                    have c64b0 : (t188 == t191) = true := c64
                                    (try (have c64b1 : decide (t188 = t191) = true := by simpa using c64))
                                    (try (have c64b2 : (t188 == t191) = true := by simpa using c64))
                                    clear c64
                                    obtain rfl := Option.some.inj H
                                    have hcz65_0 : wc.cell? ⟨gb170, 0, none⟩ = some (.int .i64 a1_0) := (blk_cell BK170.out 0).trans rfl
                                    have hcz65_1 : wc.cell? ⟨gb170, 1, none⟩ = some (.string a1_1) := (blk_cell BK170.out 1).trans rfl
                                    have hcz65_2 : wc.cell? ⟨gb170, 2, none⟩ = some (.int .i64 a1_2) := (blk_cell BK170.out 2).trans rfl
                                    have hcz65_3 : wc.cell? ⟨gb170, 3, none⟩ = some (.int .i64 a1_3) := (blk_cell BK170.out 3).trans rfl
                                    have hcz65_4 : wc.cell? ⟨gb170, 4, none⟩ = some (.int .i64 a1_4) := (blk_cell BK170.out 4).trans rfl
                                    have hcz65_5 : wc.cell? ⟨gb170, 5, none⟩ = some (.int .i64 a1_5) := (blk_cell BK170.out 5).trans rfl
                                    have hcz65_6 : wc.cell? ⟨gb170, 6, none⟩ = some (.bool a1_6) := (blk_cell BK170.out 6).trans rfl
                                    have hfz65_0 := blk_frozen BK170.out 0
                                    have hfz65_1 := blk_frozen BK170.out 1
                                    have hfz65_2 := blk_frozen BK170.out 2
                                    have hfz65_3 := blk_frozen BK170.out 3
                                    have hfz65_4 := blk_frozen BK170.out 4
                                    have hfz65_5 := blk_frozen BK170.out 5
                                    have hfz65_6 := blk_frozen BK170.out 6
                                    go_wp2
                                    go_ret
                                    exact ⟨by first | rfl | (simp [errW_none, errW_some] <;> rfl) | (simp [*, errW_none, errW_some] <;> rfl), by repeat (first | (with_reducible first | exact HB.out | apply below_alloc | apply pw_below_drewN | apply below_drew1 | refine below_set ?_ GE170.out) | exact HB.out)⟩
                                  · rw [if_neg c64] at H
                                    exact absurd H (by simp)
                                · rw [if_neg c63] at H
                                  exact absurd H (by simp)
                            · rw [if_neg c50] at H
                              have c50b0 : (a1_1.toList == a3.toList) = false := beq_eq_false_iff_ne.mpr c50
                              have c50b1 : (a1_1.toList != a3.toList) = true := bne_iff_ne.mpr c50
                              replace H : (if t187 = t190 then (if (t188 == t191) = true then (some true) else (none)) else (none)) = some r := by first | (rw [if_pos rfl] at H; exact H) | (rw [if_pos trivial] at H; exact H)
                              by_cases c66 : t187 = t190
                              · rw [if_pos c66] at H
                                have c66b0 : (t187 == t190) = true := beq_iff_eq.mpr c66
                                have c66b1 : (t187 != t190) = false := bne_eq_false_iff_eq.mpr c66
                                clear c66
                                by_cases c67 : (t188 == t191) = true
                                · rw [if_pos c67] at H
                                  have c67b0 : (t188 == t191) = true := c67
                                  (try (have c67b1 : decide (t188 = t191) = true := by simpa using c67))
                                  (try (have c67b2 : (t188 == t191) = true := by simpa using c67))
                                  clear c67
                                  obtain rfl := Option.some.inj H
                                  have hcz68_0 : wc.cell? ⟨gb170, 0, none⟩ = some (.int .i64 a1_0) := (blk_cell BK170.out 0).trans rfl
                                  have hcz68_1 : wc.cell? ⟨gb170, 1, none⟩ = some (.string a1_1) := (blk_cell BK170.out 1).trans rfl
                                  have hcz68_2 : wc.cell? ⟨gb170, 2, none⟩ = some (.int .i64 a1_2) := (blk_cell BK170.out 2).trans rfl
                                  have hcz68_3 : wc.cell? ⟨gb170, 3, none⟩ = some (.int .i64 a1_3) := (blk_cell BK170.out 3).trans rfl
                                  have hcz68_4 : wc.cell? ⟨gb170, 4, none⟩ = some (.int .i64 a1_4) := (blk_cell BK170.out 4).trans rfl
                                  have hcz68_5 : wc.cell? ⟨gb170, 5, none⟩ = some (.int .i64 a1_5) := (blk_cell BK170.out 5).trans rfl
                                  have hcz68_6 : wc.cell? ⟨gb170, 6, none⟩ = some (.bool a1_6) := (blk_cell BK170.out 6).trans rfl
                                  have hfz68_0 := blk_frozen BK170.out 0
                                  have hfz68_1 := blk_frozen BK170.out 1
                                  have hfz68_2 := blk_frozen BK170.out 2
                                  have hfz68_3 := blk_frozen BK170.out 3
                                  have hfz68_4 := blk_frozen BK170.out 4
                                  have hfz68_5 := blk_frozen BK170.out 5
                                  have hfz68_6 := blk_frozen BK170.out 6
                                  go_wp2
                                  go_ret
                                  exact ⟨by first | rfl | (simp [errW_none, errW_some] <;> rfl) | (simp [*, errW_none, errW_some] <;> rfl), by repeat (first | (with_reducible first | exact HB.out | apply below_alloc | apply pw_below_drewN | apply below_drew1 | refine below_set ?_ GE170.out) | exact HB.out)⟩
                                · rw [if_neg c67] at H
                                  exact absurd H (by simp)
                              · rw [if_neg c66] at H
                                exact absurd H (by simp)
                          · rw [if_neg c49] at H
                            have c49b0 : (a1_0 == a2) = false := beq_eq_false_iff_ne.mpr c49
                            have c49b1 : (a1_0 != a2) = true := bne_iff_ne.mpr c49
                            replace H : (if t187 = t190 then (if (t188 == t191) = true then (some true) else (none)) else (none)) = some r := by first | (rw [if_pos rfl] at H; exact H) | (rw [if_pos trivial] at H; exact H)
                            by_cases c69 : t187 = t190
                            · rw [if_pos c69] at H
                              have c69b0 : (t187 == t190) = true := beq_iff_eq.mpr c69
                              have c69b1 : (t187 != t190) = false := bne_eq_false_iff_eq.mpr c69
                              clear c69
                              by_cases c70 : (t188 == t191) = true
                              · rw [if_pos c70] at H
                                have c70b0 : (t188 == t191) = true := c70
                                (try (have c70b1 : decide (t188 = t191) = true := by simpa using c70))
                                (try (have c70b2 : (t188 == t191) = true := by simpa using c70))
                                clear c70
                                obtain rfl := Option.some.inj H
                                have hcz71_0 : wc.cell? ⟨gb170, 0, none⟩ = some (.int .i64 a1_0) := (blk_cell BK170.out 0).trans rfl
                                have hcz71_1 : wc.cell? ⟨gb170, 1, none⟩ = some (.string a1_1) := (blk_cell BK170.out 1).trans rfl
                                have hcz71_2 : wc.cell? ⟨gb170, 2, none⟩ = some (.int .i64 a1_2) := (blk_cell BK170.out 2).trans rfl
                                have hcz71_3 : wc.cell? ⟨gb170, 3, none⟩ = some (.int .i64 a1_3) := (blk_cell BK170.out 3).trans rfl
                                have hcz71_4 : wc.cell? ⟨gb170, 4, none⟩ = some (.int .i64 a1_4) := (blk_cell BK170.out 4).trans rfl
                                have hcz71_5 : wc.cell? ⟨gb170, 5, none⟩ = some (.int .i64 a1_5) := (blk_cell BK170.out 5).trans rfl
                                have hcz71_6 : wc.cell? ⟨gb170, 6, none⟩ = some (.bool a1_6) := (blk_cell BK170.out 6).trans rfl
                                have hfz71_0 := blk_frozen BK170.out 0
                                have hfz71_1 := blk_frozen BK170.out 1
                                have hfz71_2 := blk_frozen BK170.out 2
                                have hfz71_3 := blk_frozen BK170.out 3
                                have hfz71_4 := blk_frozen BK170.out 4
                                have hfz71_5 := blk_frozen BK170.out 5
                                have hfz71_6 := blk_frozen BK170.out 6
                                go_wp2
                                go_ret
                                exact ⟨by first | rfl | (simp [errW_none, errW_some] <;> rfl) | (simp [*, errW_none, errW_some] <;> rfl), by repeat (first | (with_reducible first | exact HB.out | apply below_alloc | apply pw_below_drewN | apply below_drew1 | refine below_set ?_ GE170.out) | exact HB.out)⟩
                              · rw [if_neg c70] at H
                                exact absurd H (by simp)
                            · rw [if_neg c69] at H
                              exact absurd H (by simp)
      · rw [if_neg c10] at H
        exact absurd H (by simp)
    · rw [if_neg c9] at H
      exact absurd H (by simp)
  · replace c8 := Bool.eq_false_iff.mpr c8
    subst c8
    have H1 : (none) = some r := by rw [if_neg (show ¬ (false = true) by decide)] at H; exact H
    clear H
    have H := H1
    clear H1
    exact absurd H (by simp)

end Go.Proofs.YthcjocojngochaaGreatDoor.X
