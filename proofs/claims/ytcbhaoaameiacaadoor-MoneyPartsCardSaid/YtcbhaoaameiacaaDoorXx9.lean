-- Written by a program of mine (wip/tools/xprint.py) over the kit's print.py: printed functions and hand-proved ones side by side.
import Derived.Test.YtcbhaoaameiacaaDoorXx0
import Derived.Test.YtcbhaoaameiacaaDoorXx7
import Derived.Test.YtcbhaoaameiacaaDoorXx8
namespace Go.Proofs.YtcbhaoaameiacaaDoor.X
open Go.RowKit Go.Proofs.YtcbhaoaameiacaaDoorW.PrintWords Go.Proofs.YtcbhaoaameiacaaDoorW.PrintLast Go.Proofs.YtcbhaoaameiacaaDoorW.PrintMore
attribute [local go_sem] max2_int min2_int max_two min_two max_three min_three max_four min_four   -- for this text's walks alone
set_option linter.unusedVariables false
set_option linter.unusedSimpArgs false

open List renaming setIfInBounds_toArray → sT, set_cons_zero → sZ, set_cons_succ → sS
/-! ### cohousinglaw02_MoneyParts: function 6 -/
mutual
def cohousinglaw02_MoneyParts.j0 : Nat → Int → List Int → Bool → List Int → Int → Int → Bool → Option (Bool)
 | 0, _, _, _, _, _, _, _ => none
 | k + 1, x0, x1, x5, x6, x7, x8, x28 => if x28 = true then (if x5 = true then (if x7 = 1 then (if (x6.length : Int) = 0 then (some true) else (none)) else (none)) else (none)) else (if x7 = 0 then (cohousinglaw02_MoneyParts.j1 k x0 x1 x5 x6 x8 ((x6.length : Int) != (x1.length : Int))) else (cohousinglaw02_MoneyParts.j1 k x0 x1 x5 x6 x8 true))
def cohousinglaw02_MoneyParts.j1 : Nat → Int → List Int → Bool → List Int → Int → Bool → Option (Bool)
 | 0, _, _, _, _, _, _ => none
 | k + 1, x0, x1, x5, x6, x8, x47 => if x47 = true then (none) else (cohousinglaw02_MoneyParts.l0 k x0 x1 x5 x6 x8 0 0)
def cohousinglaw02_MoneyParts.l0 : Nat → Int → List Int → Bool → List Int → Int → Int → Int → Option (Bool)
 | 0, _, _, _, _, _, _, _ => none
 | k + 1, x0, x1, x5, x6, x8, x9, x10 => if x10 < (x6.length : Int) then (if 0 ≤ x10 then ((cohousingref02_Amount.f (rd x6 x10)).bind fun t169 => (if t169 = true then (if x0 ≥ 0 then (if (rd x6 x10) < 0 then (cohousinglaw02_MoneyParts.j3 k x0 x1 x5 x6 x8 x9 x10 true) else (if x0 ≤ 0 then (if (rd x6 x10) > 0 then (cohousinglaw02_MoneyParts.j3 k x0 x1 x5 x6 x8 x9 x10 true) else (if x10 < (x1.length : Int) then (if (rd x1 x10) = 0 then (cohousinglaw02_MoneyParts.j3 k x0 x1 x5 x6 x8 x9 x10 ((rd x6 x10) != 0)) else (cohousinglaw02_MoneyParts.j3 k x0 x1 x5 x6 x8 x9 x10 false)) else (none))) else (if x10 < (x1.length : Int) then (if (rd x1 x10) = 0 then (cohousinglaw02_MoneyParts.j3 k x0 x1 x5 x6 x8 x9 x10 ((rd x6 x10) != 0)) else (cohousinglaw02_MoneyParts.j3 k x0 x1 x5 x6 x8 x9 x10 false)) else (none)))) else (if x0 ≤ 0 then (if (rd x6 x10) > 0 then (cohousinglaw02_MoneyParts.j3 k x0 x1 x5 x6 x8 x9 x10 true) else (if x10 < (x1.length : Int) then (if (rd x1 x10) = 0 then (cohousinglaw02_MoneyParts.j3 k x0 x1 x5 x6 x8 x9 x10 ((rd x6 x10) != 0)) else (cohousinglaw02_MoneyParts.j3 k x0 x1 x5 x6 x8 x9 x10 false)) else (none))) else (if x10 < (x1.length : Int) then (if (rd x1 x10) = 0 then (cohousinglaw02_MoneyParts.j3 k x0 x1 x5 x6 x8 x9 x10 ((rd x6 x10) != 0)) else (cohousinglaw02_MoneyParts.j3 k x0 x1 x5 x6 x8 x9 x10 false)) else (none)))) else (cohousinglaw02_MoneyParts.j3 k x0 x1 x5 x6 x8 x9 x10 true))) else (none)) else (if x5 = true then (if x9 = x0 then (some true) else (none)) else (none))
def cohousinglaw02_MoneyParts.j3 : Nat → Int → List Int → Bool → List Int → Int → Int → Int → Bool → Option (Bool)
 | 0, _, _, _, _, _, _, _, _ => none
 | k + 1, x0, x1, x5, x6, x8, x9, x10, x95 => if x95 = true then (none) else (if 0 ≤ x10 then (if x10 < (x6.length : Int) then (if x10 < (x1.length : Int) then (if (wrap64 ((wrap64 ((rd x6 x10) * x8)) - (wrap64 (x0 * (rd x1 x10))))) ≥ x8 then (cohousinglaw02_MoneyParts.j4 k x0 x1 x5 x6 x8 x9 x10 true) else (cohousinglaw02_MoneyParts.j4 k x0 x1 x5 x6 x8 x9 x10 (decide ((wrap64 (-(wrap64 ((wrap64 ((rd x6 x10) * x8)) - (wrap64 (x0 * (rd x1 x10))))))) ≥ x8)))) else (none)) else (none)) else (none))
def cohousinglaw02_MoneyParts.j4 : Nat → Int → List Int → Bool → List Int → Int → Int → Int → Bool → Option (Bool)
 | 0, _, _, _, _, _, _, _, _ => none
 | k + 1, x0, x1, x5, x6, x8, x9, x10, x117 => if x117 = true then (none) else (cohousinglaw02_MoneyParts.l1 k x0 x1 x5 x6 x8 x9 x10 0)
def cohousinglaw02_MoneyParts.l1 : Nat → Int → List Int → Bool → List Int → Int → Int → Int → Int → Option (Bool)
 | 0, _, _, _, _, _, _, _, _ => none
 | k + 1, x0, x1, x5, x6, x8, x9, x10, x12 => if x12 < x10 then (if 0 ≤ x10 then (if x10 < (x1.length : Int) then (if 0 ≤ x12 then (if x12 < (x1.length : Int) then (if (rd x1 x10) > (rd x1 x12) then (if x10 < (x6.length : Int) then ((cohousinglaw02_size.f (rd x6 x10)).bind fun t187 => (if x12 < (x6.length : Int) then ((cohousinglaw02_size.f (rd x6 x12)).bind fun t189 => (if t187 < t189 then (none) else (if (rd x1 x12) > (rd x1 x10) then ((cohousinglaw02_size.f (rd x6 x12)).bind fun t193 => ((cohousinglaw02_size.f (rd x6 x10)).bind fun t195 => (if t193 < t195 then (none) else (cohousinglaw02_MoneyParts.l1 k x0 x1 x5 x6 x8 x9 x10 (wrap64 (x12 + 1)))))) else (cohousinglaw02_MoneyParts.l1 k x0 x1 x5 x6 x8 x9 x10 (wrap64 (x12 + 1)))))) else (none))) else (none)) else (if (rd x1 x12) > (rd x1 x10) then (if x12 < (x6.length : Int) then ((cohousinglaw02_size.f (rd x6 x12)).bind fun t199 => (if x10 < (x6.length : Int) then ((cohousinglaw02_size.f (rd x6 x10)).bind fun t201 => (if t199 < t201 then (none) else (cohousinglaw02_MoneyParts.l1 k x0 x1 x5 x6 x8 x9 x10 (wrap64 (x12 + 1))))) else (none))) else (none)) else (cohousinglaw02_MoneyParts.l1 k x0 x1 x5 x6 x8 x9 x10 (wrap64 (x12 + 1))))) else (none)) else (none)) else (none)) else (none)) else (if 0 ≤ x10 then (if x10 < (x6.length : Int) then (cohousinglaw02_MoneyParts.l0 k x0 x1 x5 x6 x8 (wrap64 (x9 + (rd x6 x10))) (wrap64 (x10 + 1))) else (none)) else (none))
end
def cohousinglaw02_MoneyParts.f (k : Nat) (a0 : Int) (l1 : List Int) : Option (Bool) := (cohousinglaw02_head.f k).bind fun t161 => ((money_Split.f a0 l1).bind fun bt162 => ((cohousingref02_Whole.f k l1).bind fun t166 => ((cohousingref02_Amount.f a0).bind fun t167 => (if t167 = true then (cohousinglaw02_MoneyParts.j0 k a0 l1 t161 bt162.1 bt162.2 t166 (t166 == 0)) else (cohousinglaw02_MoneyParts.j0 k a0 l1 t161 bt162.1 bt162.2 t166 true)))))
theorem cohousinglaw02_MoneyParts.mono_l : ∀ k, (∀ y0 y1 y2 y3 y4 y5 y6, LeO (cohousinglaw02_MoneyParts.j0 k y0 y1 y2 y3 y4 y5 y6) (cohousinglaw02_MoneyParts.j0 (k + 1) y0 y1 y2 y3 y4 y5 y6)) ∧ (∀ y0 y1 y2 y3 y4 y5, LeO (cohousinglaw02_MoneyParts.j1 k y0 y1 y2 y3 y4 y5) (cohousinglaw02_MoneyParts.j1 (k + 1) y0 y1 y2 y3 y4 y5)) ∧ (∀ y0 y1 y2 y3 y4 y5 y6, LeO (cohousinglaw02_MoneyParts.l0 k y0 y1 y2 y3 y4 y5 y6) (cohousinglaw02_MoneyParts.l0 (k + 1) y0 y1 y2 y3 y4 y5 y6)) ∧ (∀ y0 y1 y2 y3 y4 y5 y6 y7, LeO (cohousinglaw02_MoneyParts.j3 k y0 y1 y2 y3 y4 y5 y6 y7) (cohousinglaw02_MoneyParts.j3 (k + 1) y0 y1 y2 y3 y4 y5 y6 y7)) ∧ (∀ y0 y1 y2 y3 y4 y5 y6 y7, LeO (cohousinglaw02_MoneyParts.j4 k y0 y1 y2 y3 y4 y5 y6 y7) (cohousinglaw02_MoneyParts.j4 (k + 1) y0 y1 y2 y3 y4 y5 y6 y7)) ∧ (∀ y0 y1 y2 y3 y4 y5 y6 y7, LeO (cohousinglaw02_MoneyParts.l1 k y0 y1 y2 y3 y4 y5 y6 y7) (cohousinglaw02_MoneyParts.l1 (k + 1) y0 y1 y2 y3 y4 y5 y6 y7))
 | 0 => ⟨fun _ _ _ _ _ _ _ r h => by simp [cohousinglaw02_MoneyParts.j0] at h, fun _ _ _ _ _ _ r h => by simp [cohousinglaw02_MoneyParts.j1] at h, fun _ _ _ _ _ _ _ r h => by simp [cohousinglaw02_MoneyParts.l0] at h, fun _ _ _ _ _ _ _ _ r h => by simp [cohousinglaw02_MoneyParts.j3] at h, fun _ _ _ _ _ _ _ _ r h => by simp [cohousinglaw02_MoneyParts.j4] at h, fun _ _ _ _ _ _ _ _ r h => by simp [cohousinglaw02_MoneyParts.l1] at h⟩
 | k + 1 => by
  obtain ⟨ih0, ih1, ih2, ih3, ih4, ih5⟩ := cohousinglaw02_MoneyParts.mono_l k
  refine ⟨?_, ?_, ?_, ?_, ?_, ?_⟩
  ·intro y0 y1 y2 y3 y4 y5 y6
   unfold cohousinglaw02_MoneyParts.j0
   repeat' first
   | (with_reducible exact ih0 _ _ _ _ _ _ _)
   | (with_reducible exact ih1 _ _ _ _ _ _)
   | (with_reducible exact ih2 _ _ _ _ _ _ _)
   | (with_reducible exact ih3 _ _ _ _ _ _ _ _)
   | (with_reducible exact ih4 _ _ _ _ _ _ _ _)
   | (with_reducible exact ih5 _ _ _ _ _ _ _ _)
   | (with_reducible exact cohousinglaw02_head.mono _)
   | (with_reducible exact cohousingref02_Whole.mono _ _)
   | (with_reducible exact LeO.refl _)
   | (with_reducible exact LeO.none _)
   | (with_reducible refine LeO.ite ?_ ?_)
   | (with_reducible refine LeO.bind ?_ (fun _ => ?_))
   | exact ih0 _ _ _ _ _ _ _
   | exact ih1 _ _ _ _ _ _
   | exact ih2 _ _ _ _ _ _ _
   | exact ih3 _ _ _ _ _ _ _ _
   | exact ih4 _ _ _ _ _ _ _ _
   | exact ih5 _ _ _ _ _ _ _ _
   | exact cohousinglaw02_head.mono _
   | exact cohousingref02_Whole.mono _ _
   | exact LeO.none _
   | refine LeO.ite ?_ ?_
   | refine LeO.bind ?_ (fun _ => ?_)
  ·intro y0 y1 y2 y3 y4 y5
   unfold cohousinglaw02_MoneyParts.j1
   repeat' first
   | (with_reducible exact ih0 _ _ _ _ _ _ _)
   | (with_reducible exact ih1 _ _ _ _ _ _)
   | (with_reducible exact ih2 _ _ _ _ _ _ _)
   | (with_reducible exact ih3 _ _ _ _ _ _ _ _)
   | (with_reducible exact ih4 _ _ _ _ _ _ _ _)
   | (with_reducible exact ih5 _ _ _ _ _ _ _ _)
   | (with_reducible exact cohousinglaw02_head.mono _)
   | (with_reducible exact cohousingref02_Whole.mono _ _)
   | (with_reducible exact LeO.refl _)
   | (with_reducible exact LeO.none _)
   | (with_reducible refine LeO.ite ?_ ?_)
   | (with_reducible refine LeO.bind ?_ (fun _ => ?_))
   | exact ih0 _ _ _ _ _ _ _
   | exact ih1 _ _ _ _ _ _
   | exact ih2 _ _ _ _ _ _ _
   | exact ih3 _ _ _ _ _ _ _ _
   | exact ih4 _ _ _ _ _ _ _ _
   | exact ih5 _ _ _ _ _ _ _ _
   | exact cohousinglaw02_head.mono _
   | exact cohousingref02_Whole.mono _ _
   | exact LeO.none _
   | refine LeO.ite ?_ ?_
   | refine LeO.bind ?_ (fun _ => ?_)
  ·intro y0 y1 y2 y3 y4 y5 y6
   unfold cohousinglaw02_MoneyParts.l0
   repeat' first
   | (with_reducible exact ih0 _ _ _ _ _ _ _)
   | (with_reducible exact ih1 _ _ _ _ _ _)
   | (with_reducible exact ih2 _ _ _ _ _ _ _)
   | (with_reducible exact ih3 _ _ _ _ _ _ _ _)
   | (with_reducible exact ih4 _ _ _ _ _ _ _ _)
   | (with_reducible exact ih5 _ _ _ _ _ _ _ _)
   | (with_reducible exact cohousinglaw02_head.mono _)
   | (with_reducible exact cohousingref02_Whole.mono _ _)
   | (with_reducible exact LeO.refl _)
   | (with_reducible exact LeO.none _)
   | (with_reducible refine LeO.ite ?_ ?_)
   | (with_reducible refine LeO.bind ?_ (fun _ => ?_))
   | exact ih0 _ _ _ _ _ _ _
   | exact ih1 _ _ _ _ _ _
   | exact ih2 _ _ _ _ _ _ _
   | exact ih3 _ _ _ _ _ _ _ _
   | exact ih4 _ _ _ _ _ _ _ _
   | exact ih5 _ _ _ _ _ _ _ _
   | exact cohousinglaw02_head.mono _
   | exact cohousingref02_Whole.mono _ _
   | exact LeO.none _
   | refine LeO.ite ?_ ?_
   | refine LeO.bind ?_ (fun _ => ?_)
  ·intro y0 y1 y2 y3 y4 y5 y6 y7
   unfold cohousinglaw02_MoneyParts.j3
   repeat' first
   | (with_reducible exact ih0 _ _ _ _ _ _ _)
   | (with_reducible exact ih1 _ _ _ _ _ _)
   | (with_reducible exact ih2 _ _ _ _ _ _ _)
   | (with_reducible exact ih3 _ _ _ _ _ _ _ _)
   | (with_reducible exact ih4 _ _ _ _ _ _ _ _)
   | (with_reducible exact ih5 _ _ _ _ _ _ _ _)
   | (with_reducible exact cohousinglaw02_head.mono _)
   | (with_reducible exact cohousingref02_Whole.mono _ _)
   | (with_reducible exact LeO.refl _)
   | (with_reducible exact LeO.none _)
   | (with_reducible refine LeO.ite ?_ ?_)
   | (with_reducible refine LeO.bind ?_ (fun _ => ?_))
   | exact ih0 _ _ _ _ _ _ _
   | exact ih1 _ _ _ _ _ _
   | exact ih2 _ _ _ _ _ _ _
   | exact ih3 _ _ _ _ _ _ _ _
   | exact ih4 _ _ _ _ _ _ _ _
   | exact ih5 _ _ _ _ _ _ _ _
   | exact cohousinglaw02_head.mono _
   | exact cohousingref02_Whole.mono _ _
   | exact LeO.none _
   | refine LeO.ite ?_ ?_
   | refine LeO.bind ?_ (fun _ => ?_)
  ·intro y0 y1 y2 y3 y4 y5 y6 y7
   unfold cohousinglaw02_MoneyParts.j4
   repeat' first
   | (with_reducible exact ih0 _ _ _ _ _ _ _)
   | (with_reducible exact ih1 _ _ _ _ _ _)
   | (with_reducible exact ih2 _ _ _ _ _ _ _)
   | (with_reducible exact ih3 _ _ _ _ _ _ _ _)
   | (with_reducible exact ih4 _ _ _ _ _ _ _ _)
   | (with_reducible exact ih5 _ _ _ _ _ _ _ _)
   | (with_reducible exact cohousinglaw02_head.mono _)
   | (with_reducible exact cohousingref02_Whole.mono _ _)
   | (with_reducible exact LeO.refl _)
   | (with_reducible exact LeO.none _)
   | (with_reducible refine LeO.ite ?_ ?_)
   | (with_reducible refine LeO.bind ?_ (fun _ => ?_))
   | exact ih0 _ _ _ _ _ _ _
   | exact ih1 _ _ _ _ _ _
   | exact ih2 _ _ _ _ _ _ _
   | exact ih3 _ _ _ _ _ _ _ _
   | exact ih4 _ _ _ _ _ _ _ _
   | exact ih5 _ _ _ _ _ _ _ _
   | exact cohousinglaw02_head.mono _
   | exact cohousingref02_Whole.mono _ _
   | exact LeO.none _
   | refine LeO.ite ?_ ?_
   | refine LeO.bind ?_ (fun _ => ?_)
  ·intro y0 y1 y2 y3 y4 y5 y6 y7
   unfold cohousinglaw02_MoneyParts.l1
   repeat' first
   | (with_reducible exact ih0 _ _ _ _ _ _ _)
   | (with_reducible exact ih1 _ _ _ _ _ _)
   | (with_reducible exact ih2 _ _ _ _ _ _ _)
   | (with_reducible exact ih3 _ _ _ _ _ _ _ _)
   | (with_reducible exact ih4 _ _ _ _ _ _ _ _)
   | (with_reducible exact ih5 _ _ _ _ _ _ _ _)
   | (with_reducible exact cohousinglaw02_head.mono _)
   | (with_reducible exact cohousingref02_Whole.mono _ _)
   | (with_reducible exact LeO.refl _)
   | (with_reducible exact LeO.none _)
   | (with_reducible refine LeO.ite ?_ ?_)
   | (with_reducible refine LeO.bind ?_ (fun _ => ?_))
   | exact ih0 _ _ _ _ _ _ _
   | exact ih1 _ _ _ _ _ _
   | exact ih2 _ _ _ _ _ _ _
   | exact ih3 _ _ _ _ _ _ _ _
   | exact ih4 _ _ _ _ _ _ _ _
   | exact ih5 _ _ _ _ _ _ _ _
   | exact cohousinglaw02_head.mono _
   | exact cohousingref02_Whole.mono _ _
   | exact LeO.none _
   | refine LeO.ite ?_ ?_
   | refine LeO.bind ?_ (fun _ => ?_)
theorem cohousinglaw02_MoneyParts.mono : ∀ a0 a1 k, LeO (cohousinglaw02_MoneyParts.f k a0 a1) (cohousinglaw02_MoneyParts.f (k + 1) a0 a1) := by
 intro a0 a1 k
 obtain ⟨ih0, ih1, ih2, ih3, ih4, ih5⟩ := cohousinglaw02_MoneyParts.mono_l k
 unfold cohousinglaw02_MoneyParts.f
 repeat' first
   | (with_reducible exact ih0 _ _ _ _ _ _ _)
   | (with_reducible exact ih1 _ _ _ _ _ _)
   | (with_reducible exact ih2 _ _ _ _ _ _ _)
   | (with_reducible exact ih3 _ _ _ _ _ _ _ _)
   | (with_reducible exact ih4 _ _ _ _ _ _ _ _)
   | (with_reducible exact ih5 _ _ _ _ _ _ _ _)
   | (with_reducible exact cohousinglaw02_head.mono _)
   | (with_reducible exact cohousingref02_Whole.mono _ _)
   | (with_reducible exact LeO.refl _)
   | (with_reducible exact LeO.none _)
   | (with_reducible refine LeO.ite ?_ ?_)
   | (with_reducible refine LeO.bind ?_ (fun _ => ?_))
   | exact ih0 _ _ _ _ _ _ _
   | exact ih1 _ _ _ _ _ _
   | exact ih2 _ _ _ _ _ _ _
   | exact ih3 _ _ _ _ _ _ _ _
   | exact ih4 _ _ _ _ _ _ _ _
   | exact ih5 _ _ _ _ _ _ _ _
   | exact cohousinglaw02_head.mono _
   | exact cohousingref02_Whole.mono _ _
   | exact LeO.none _
   | refine LeO.ite ?_ ?_
   | refine LeO.bind ?_ (fun _ => ?_)
def cohousinglaw02_MoneyParts.T14 : Bool × List (List Nat × List Nat) := (true, [([], []), ([], []), ([0, 1], [0, 1]), ([2], [2]), ([], []), ([3, 4], [3, 4]), ([], []), ([], []), ([], []), ([7, 8], [7, 8]), ([9], [9]), ([6, 10], [6, 10]), ([5, 11], [5, 11]), ([12, 0, 1, 2, 3, 4, 5, 6, 7, 8, 9, 10, 11, 12], [12])])
def cohousinglaw02_MoneyParts.B14 : List Nat := [0, 0, 3, 7, 0, 31, 0, 0, 0, 384, 896, 1984, 4095, 8191]
theorem cohousinglaw02_MoneyParts.tab14 : rtab .any (opsOf Tryd.f6 14) = cohousinglaw02_MoneyParts.T14 := by kernel_rfl
theorem cohousinglaw02_MoneyParts.bits14 : waitsOk cohousinglaw02_MoneyParts.T14.2 cohousinglaw02_MoneyParts.B14 = true := by kernel_rfl
def cohousinglaw02_MoneyParts.T20 : Bool × List (List Nat × List Nat) := (true, [([], []), ([], []), ([0, 1], [0, 1]), ([2], [2]), ([], []), ([], []), ([4, 5], [4, 5]), ([6], [6]), ([3, 7], [3, 7]), ([8], [8]), ([9], [9]), ([9], [9]), ([10, 11, 9], [9, 10, 11]), ([12, 9], [9, 12]), ([13, 9, 9], [9, 13]), ([9], [9]), ([9], [9]), ([15, 16, 9], [9, 15, 16]), ([17, 9], [9, 17]), ([18, 14, 9], [9, 18]), ([14, 19, 9], [9, 14, 19]), ([9, 20], [9, 20]), ([21, 19], [21]), ([22], [22]), ([22], [22]), ([23, 24, 22], [22, 23, 24]), ([25, 22], [22, 25]), ([22], [22]), ([22], [22]), ([27, 28, 22], [22, 27, 28]), ([29, 22], [22, 29]), ([26, 30, 22], [22, 26, 30]), ([31, 22, 22], [22, 31]), ([32], [32]), ([32], [32]), ([33, 34, 32], [32, 33, 34]), ([35, 32], [32, 35]), ([36, 32, 32], [32, 36]), ([32], [32]), ([32], [32]), ([38, 39, 32], [32, 38, 39]), ([40, 32], [32, 40]), ([41, 37, 32], [32, 41]), ([37, 42, 32], [32, 37, 42]), ([32, 43, 22], [22, 32, 43]), ([22, 44], [22, 44])])
def cohousinglaw02_MoneyParts.B20 : List Nat := [0, 0, 3, 7, 0, 0, 48, 112, 255, 511, 1023, 1023, 4095, 8191, 16383, 1023, 1023, 99327, 230399, 524287, 1048575, 2097151, 4194303, 8388607, 8388607, 33554431, 67108863, 8388607, 8388607, 411041791, 947912703, 2147483647, 4294967295, 8589934591, 8589934591, 34359738367, 68719476735, 137438953471, 8589934591, 8589934591, 833223655423, 1932735283199, 4398046511103, 8796093022207, 17592186044415, 35184372088831]
theorem cohousinglaw02_MoneyParts.tab20 : rtab .any (opsOf Tryd.f6 20) = cohousinglaw02_MoneyParts.T20 := by kernel_rfl
theorem cohousinglaw02_MoneyParts.bits20 : waitsOk cohousinglaw02_MoneyParts.T20.2 cohousinglaw02_MoneyParts.B20 = true := by kernel_rfl
set_option maxHeartbeats 8000000 in
set_option maxRecDepth 100000 in
theorem cohousinglaw02_MoneyParts.calls (k : Nat) (a0 : Int) (A1 : Option Addr) (c1 : Nat) (l1 : List Int) (r : Bool) (w : World) (hr1 : Kd.C (Kd.int .i64) w A1 l1.length l1) (hc1 : l1.length ≤ c1) (hG : GL w) (h : cohousinglaw02_MoneyParts.f k a0 l1 = some r) :
  Calls Tryd.prog 6 #[.int .i64 a0, .slice A1 l1.length c1] w fun e w' => e = .returned (.bool r) ∧ Below w.heap.size w w' := by
 have HG := Aside0.mk hG
 clear hG
 have HR1 := Aside0.mk hr1
 have HC1 := Aside0.mk hc1
 clear hr1 hc1
 have HB := Aside0.mk (Below.refl w.heap.size w)
 have H : ((cohousinglaw02_head.f k).bind fun t161 => ((money_Split.f a0 l1).bind fun bt162 => ((cohousingref02_Whole.f k l1).bind fun t166 => ((cohousingref02_Amount.f a0).bind fun t167 => (if t167 = true then (cohousinglaw02_MoneyParts.j0 k a0 l1 t161 bt162.1 bt162.2 t166 (t166 == 0)) else (cohousinglaw02_MoneyParts.j0 k a0 l1 t161 bt162.1 bt162.2 t166 true)))))) = some r := h
 clear h
 replace H := Option.bind_eq_some_iff.mp H
 obtain ⟨t161, A30, H⟩ := H
 replace H : ((money_Split.f a0 l1).bind fun bt162 => ((cohousingref02_Whole.f k l1).bind fun t166 => ((cohousingref02_Amount.f a0).bind fun t167 => (if t167 = true then (cohousinglaw02_MoneyParts.j0 k a0 l1 t161 bt162.1 bt162.2 t166 (t166 == 0)) else (cohousinglaw02_MoneyParts.j0 k a0 l1 t161 bt162.1 bt162.2 t166 true))))) = some r := H
 have A3 := Aside0.mk A30
 clear A30
 replace H := Option.bind_eq_some_iff.mp H
 obtain ⟨⟨t162, t163⟩, A40, H⟩ := H
 replace H : ((cohousingref02_Whole.f k l1).bind fun t166 => ((cohousingref02_Amount.f a0).bind fun t167 => (if t167 = true then (cohousinglaw02_MoneyParts.j0 k a0 l1 t161 t162 t163 t166 (t166 == 0)) else (cohousinglaw02_MoneyParts.j0 k a0 l1 t161 t162 t163 t166 true)))) = some r := H
 have A4 := Aside0.mk A40
 clear A40
 replace H := Option.bind_eq_some_iff.mp H
 obtain ⟨t166, A50, H⟩ := H
 replace H : ((cohousingref02_Amount.f a0).bind fun t167 => (if t167 = true then (cohousinglaw02_MoneyParts.j0 k a0 l1 t161 t162 t163 t166 (t166 == 0)) else (cohousinglaw02_MoneyParts.j0 k a0 l1 t161 t162 t163 t166 true))) = some r := H
 have A5 := Aside0.mk A50
 clear A50
 have HC6 := Aside0.mk H
 clear H
 go_enter Tryd.func6, Tryd.ntmps6
 go_upto_region 4 with (first|((with_reducible refine gate_callee (f := 10) rfl ?_); refine goesL_ (some 13) rfl rfl Tryd.func10 (by kernel_rfl) rfl #[] rfl (by (try simp only [List.map_toArray, List.map_cons, List.map_nil]); first | done | rfl|(simp only [List.length_drop, List.length_take]; rfl)) ?_; (with_reducible refine (cohousinglaw02_head.calls k  t161 _ ?side1 A3.out).mono ?_); (case side1 => exact GL.below HG.out (by repeat (first|(with_reducible first|exact HB.out|apply bA|apply bN|apply b1)|exact HB.out))); rintro e w7 ⟨rfl, hb⟩; refine ⟨_, rfl, ?_⟩; have n0_ := Aside0.mk (bT (by repeat (first|(with_reducible first|exact HB.out|apply bA|apply bN|apply b1)|exact HB.out)) hb); clear HB; have HB := n0_; clear n0_; (try clear hb); (try clear hb2); (try clear hk); (try clear hi))|((with_reducible refine gate_callee (f := 15) rfl ?_); refine goesL_ (some 17) rfl rfl Tryd.func15 (by kernel_rfl) rfl #[.int .i64 a0, .slice A1 l1.length c1] rfl (by (try simp only [List.map_toArray, List.map_cons, List.map_nil]); first | done | rfl|(simp only [List.length_drop, List.length_take]; rfl)) ?_; (with_reducible refine (money_Split.calls a0 _ _ l1 t162 t163 _ ?side1 ?side2 A4.out).mono ?_); (case side1 => repeat (first|exact (Kd.C_below HR1.out HB.out)|(with_reducible refine Kd.C_alloc ?_ _)|(with_reducible refine Kd.C_drewN ?_ _)|(with_reducible refine Kd.C_drew ?_))); (case side2 => exact HC1.out); rintro e w8 ⟨v164, rfl, ho0, hb⟩; refine ⟨_, rfl, ?_⟩; have n0_ := Aside0.mk (Kd.R_lower ho0 (bZ (by repeat (first|(with_reducible first|exact HB.out|apply bA|apply bN|apply b1)|exact HB.out)))); have n1_ := Aside0.mk (bT (by repeat (first|(with_reducible first|exact HB.out|apply bA|apply bN|apply b1)|exact HB.out)) hb); clear HB; have HO165 := n0_; have HB := n1_; clear n0_ n1_; (try clear hb); (try clear hb2); (try clear hk); (try clear hi); (try clear ho0))|((with_reducible refine gate_callee (f := 16) rfl ?_); refine goesL_ (some 21) rfl rfl Tryd.func16 (by kernel_rfl) rfl #[.slice A1 l1.length c1] rfl (by (try simp only [List.map_toArray, List.map_cons, List.map_nil]); first | done | rfl|(simp only [List.length_drop, List.length_take]; rfl)) ?_; (with_reducible refine (cohousingref02_Whole.calls k _ _ l1 t166 _ ?side1 ?side2 A5.out).mono ?_); (case side1 => repeat (first|exact (Kd.C_below HR1.out HB.out)|(with_reducible refine Kd.C_alloc ?_ _)|(with_reducible refine Kd.C_drewN ?_ _)|(with_reducible refine Kd.C_drew ?_))); (case side2 => exact HC1.out); rintro e w' ⟨rfl, ⟨nd, rfl⟩⟩; refine ⟨_, rfl, ?_⟩))
 (try simp only [Act.put, sT, sZ, sS])
 go_cut [28] (fun v28 wc => ∃ (kq : Nat) (x28_5 : Bool), v28 = .bool x28_5 ∧ Aside0 (cohousinglaw02_MoneyParts.j0 kq a0 l1 t161 t162 t163 t166 x28_5 = some r) ∧ Aside0 (kq ≤ k) ∧ Aside0 (Kd.R (Kd.int .i64) 3 wc w.heap.size (fun _ => True) v164 t162) ∧ Aside0 (Below w.heap.size w wc))
 case first =>
  have H := HC6.out
  clear HC6
  replace H := Option.bind_eq_some_iff.mp H
  obtain ⟨t167, A90, H⟩ := H
  replace H : (if t167 = true then (cohousinglaw02_MoneyParts.j0 k a0 l1 t161 t162 t163 t166 (t166 == 0)) else (cohousinglaw02_MoneyParts.j0 k a0 l1 t161 t162 t163 t166 true)) = some r := H
  have A9 := Aside0.mk A90
  clear A90
  by_cases c10 : t167 = true
  ·subst c10
   have H1 : (cohousinglaw02_MoneyParts.j0 k a0 l1 t161 t162 t163 t166 (t166 == 0)) = some r := by rw [if_pos rfl] at H; exact H
   clear H
   have H := H1
   clear H1
   as_aux_lemma =>
    have H' := Aside0.mk H
    clear H
    go_wp2_with (first|((with_reducible refine gate_callee (f := 12) rfl ?_); refine goesL_ (some 23) rfl rfl Tryd.func12 (by kernel_rfl) rfl #[.int .i64 a0] rfl (by (try simp only [List.map_toArray, List.map_cons, List.map_nil]); first | done | rfl|(simp only [List.length_drop, List.length_take]; rfl)) ?_; (with_reducible refine (cohousingref02_Amount.calls a0 true _ A9.out).mono ?_); rintro e w' ⟨rfl, ⟨nd, rfl⟩⟩; refine ⟨_, rfl, ?_⟩))
    go_meet
    case rel => exact ⟨_, ((t166 == 0)), (by first | rfl|(simp; done)|(simp [*]; done)), H', ⟨by first | omega|exact Nat.le_refl _⟩, ⟨by (with_reducible repeat (first|apply Kd.R_alloc|apply Kd.R_drewN|apply Kd.R_drew)); exact HO165.out⟩, ⟨by repeat (first|(with_reducible first|exact HB.out|apply bA|apply bN|apply b1)|exact HB.out)⟩⟩
  ·replace c10 := Bool.eq_false_iff.mpr c10
   subst c10
   have H1 : (cohousinglaw02_MoneyParts.j0 k a0 l1 t161 t162 t163 t166 true) = some r := by rw [if_neg (show ¬ (false = true) by decide)] at H; exact H
   clear H
   have H := H1
   clear H1
   as_aux_lemma =>
    have H' := Aside0.mk H
    clear H
    go_wp2_with (first|((with_reducible refine gate_callee (f := 12) rfl ?_); refine goesL_ (some 23) rfl rfl Tryd.func12 (by kernel_rfl) rfl #[.int .i64 a0] rfl (by (try simp only [List.map_toArray, List.map_cons, List.map_nil]); first | done | rfl|(simp only [List.length_drop, List.length_take]; rfl)) ?_; (with_reducible refine (cohousingref02_Amount.calls a0 false _ A9.out).mono ?_); rintro e w' ⟨rfl, ⟨nd, rfl⟩⟩; refine ⟨_, rfl, ?_⟩))
    go_meet
    case rel => exact ⟨_, (true), (by first | rfl|(simp; done)|(simp [*]; done)), H', ⟨by first | omega|exact Nat.le_refl _⟩, ⟨by (with_reducible repeat (first|apply Kd.R_alloc|apply Kd.R_drewN|apply Kd.R_drew)); exact HO165.out⟩, ⟨by repeat (first|(with_reducible first|exact HB.out|apply bA|apply bN|apply b1)|exact HB.out)⟩⟩
 case rest =>
  clear HC6
  try clear c1
  try clear p2
  try clear c6
  try clear c10
  obtain ⟨kq, x28_5, rfl, HA, HJ5, HO_6, HB⟩ := hcut
  cases kq with
  | zero => exact absurd HA.out (by simp [cohousinglaw02_MoneyParts.j0])
  | succ kj5 =>
   have H := HA.out
   clear HA
   simp only [cohousinglaw02_MoneyParts.j0] at H
   by_cases c11 : x28_5 = true
   ·subst c11
    have H1 : (if t161 = true then (if t163 = 1 then (if (t162.length : Int) = 0 then (some true) else (none)) else (none)) else (none)) = some r := by rw [if_pos rfl] at H; exact H
    clear H
    have H := H1
    clear H1
    by_cases c12 : t161 = true
    ·subst c12
     have H1 : (if t163 = 1 then (if (t162.length : Int) = 0 then (some true) else (none)) else (none)) = some r := by rw [if_pos rfl] at H; exact H
     clear H
     have H := H1
     clear H1
     by_cases c13 : t163 = 1
     ·rw [if_pos c13] at H
      have c13b0 : (t163 == 1) = true := beq_iff_eq.mpr c13
      have c13b1 : (t163 != 1) = false := bne_eq_false_iff_eq.mpr c13
      clear c13
      by_cases c14 : (t162.length : Int) = 0
      ·rw [if_pos c14] at H
       have c14b0 : ((t162.length : Int) == 0) = true := beq_iff_eq.mpr c14
       have c14b1 : ((t162.length : Int) != 0) = false := bne_eq_false_iff_eq.mpr c14
       clear c14
       as_aux_lemma =>
        obtain rfl := Option.some.inj H
        obtain ⟨Ao15, co15, eo15⟩ := Kd.R_slice HO_6.out
        subst eo15
        go_wp2
        go_ret
        exact ⟨by first | rfl|(simp [errW_none, errW_some] <;> rfl)|(simp [*, errW_none, errW_some] <;> rfl), by repeat (first|(with_reducible first|exact HB.out|apply bA|apply bN|apply b1)|exact HB.out)⟩
      ·rw [if_neg c14] at H
       exact absurd H (by simp)
     ·rw [if_neg c13] at H
      exact absurd H (by simp)
    ·replace c12 := Bool.eq_false_iff.mpr c12
     subst c12
     have H1 : (none) = some r := by rw [if_neg (show ¬ (false = true) by decide)] at H; exact H
     clear H
     have H := H1
     clear H1
     exact absurd H (by simp)
   ·replace c11 := Bool.eq_false_iff.mpr c11
    subst c11
    have H1 : (if t163 = 0 then (cohousinglaw02_MoneyParts.j1 kj5 a0 l1 t161 t162 t166 ((t162.length : Int) != (l1.length : Int))) else (cohousinglaw02_MoneyParts.j1 kj5 a0 l1 t161 t162 t166 true)) = some r := by rw [if_neg (show ¬ (false = true) by decide)] at H; exact H
    clear H
    have H := H1
    clear H1
    have HC16 := Aside0.mk H
    clear H
    go_upto_region 6 with (fail)
    go_cut [47] (fun v47 wc => ∃ (kq : Nat) (x47_15 : Bool), v47 = .bool x47_15 ∧ Aside0 (cohousinglaw02_MoneyParts.j1 kq a0 l1 t161 t162 t166 x47_15 = some r) ∧ Aside0 (kq ≤ kj5) ∧ Aside0 (Kd.R (Kd.int .i64) 3 wc w.heap.size (fun _ => True) v164 t162) ∧ Aside0 (Below w.heap.size w wc))
    case first =>
     have H := HC16.out
     clear HC16
     by_cases c17 : t163 = 0
     ·rw [if_pos c17] at H
      have c17b0 : (t163 == 0) = true := beq_iff_eq.mpr c17
      have c17b1 : (t163 != 0) = false := bne_eq_false_iff_eq.mpr c17
      clear c17
      (first | rw [c17b0] | (simp only [i64_w, i32_w]; rw [c17b0]) | skip)
      as_aux_lemma =>
       have H' := Aside0.mk H
       clear H
       obtain ⟨Ao18, co18, eo18⟩ := Kd.R_slice HO_6.out
       subst eo18
       go_wp2
       go_meet
       case rel => exact ⟨_, (((t162.length : Int) != (l1.length : Int))), (by first | rfl|(simp; done)|(simp [*]; done)), H', ⟨by have := HJ5.out; first | omega|exact Nat.le_refl _⟩, ⟨by (with_reducible repeat (first|apply Kd.R_alloc|apply Kd.R_drewN|apply Kd.R_drew)); exact HO_6.out⟩, ⟨by repeat (first|(with_reducible first|exact HB.out|apply bA|apply bN|apply b1)|exact HB.out)⟩⟩
     ·rw [if_neg c17] at H
      have c17b0 : (t163 == 0) = false := beq_eq_false_iff_ne.mpr c17
      have c17b1 : (t163 != 0) = true := bne_iff_ne.mpr c17
      (first | rw [c17b0] | (simp only [i64_w, i32_w]; rw [c17b0]) | skip)
      as_aux_lemma =>
       have H' := Aside0.mk H
       clear H
       go_wp2
       go_meet
       case rel => exact ⟨_, (true), (by first | rfl|(simp; done)|(simp [*]; done)), H', ⟨by have := HJ5.out; first | omega|exact Nat.le_refl _⟩, ⟨by (with_reducible repeat (first|apply Kd.R_alloc|apply Kd.R_drewN|apply Kd.R_drew)); exact HO_6.out⟩, ⟨by repeat (first|(with_reducible first|exact HB.out|apply bA|apply bN|apply b1)|exact HB.out)⟩⟩
    case rest =>
     clear HC16
     try clear c1
     try clear p2
     try clear c6
     try clear c10
     try clear c11
     try clear c12
     try clear c13
     try clear c13b0
     try clear c13b1
     try clear c14
     try clear c14b0
     try clear c14b1
     try clear c15
     try clear c16
     try clear c17
     try clear c17b0
     try clear c17b1
     try clear p2
     obtain ⟨kq, x47_15, rfl, HA, HJ15, HO_6, HB⟩ := hcut
     cases kq with
     | zero => exact absurd HA.out (by simp [cohousinglaw02_MoneyParts.j1])
     | succ kj15 =>
      have H := HA.out
      clear HA
      simp only [cohousinglaw02_MoneyParts.j1] at H
      by_cases c19 : x47_15 = true
      ·subst c19
       have H1 : (none) = some r := by rw [if_pos rfl] at H; exact H
       clear H
       have H := H1
       clear H1
       exact absurd H (by simp)
      ·replace c19 := Bool.eq_false_iff.mpr c19
       subst c19
       have H1 : (cohousinglaw02_MoneyParts.l0 kj15 a0 l1 t161 t162 t166 0 0) = some r := by rw [if_neg (show ¬ (false = true) by decide)] at H; exact H
       clear H
       have H := H1
       clear H1
       have H' := Aside0.mk H
       clear H
       go_wp2
       go_loopg [9, 10] kj15 (fun kq v9 v10 w' => ∃ (x9_3 : Int) (x10_3 : Int), v9 = .int .i64 x9_3 ∧ v10 = .int .i64 x10_3 ∧ Aside0 (cohousinglaw02_MoneyParts.l0 kq a0 l1 t161 t162 t166 x9_3 x10_3 = some r) ∧ Aside0 (kq ≤ kj15) ∧ Aside0 (Kd.R (Kd.int .i64) 3 w' w.heap.size (fun _ => True) v164 t162) ∧ Aside0 (Below w.heap.size w w'))
       case atStart => exact ⟨(0), (0), (by first | rfl|(simp; done)|(simp [*]; done)), (by first | rfl|(simp; done)|(simp [*]; done)), H', ⟨Nat.le_refl _⟩, ⟨by (with_reducible repeat (first|apply Kd.R_alloc|apply Kd.R_drewN|apply Kd.R_drew)); exact HO_6.out⟩, ⟨by repeat (first|(with_reducible first|exact HB.out|apply bA|apply bN|apply b1)|exact HB.out)⟩⟩
       case round =>
        clear H'
        try clear c1
        try clear p2
        try clear c6
        try clear c10
        try clear c11
        try clear c12
        try clear c13
        try clear c13b0
        try clear c13b1
        try clear c14
        try clear c14b0
        try clear c14b1
        try clear c15
        try clear c16
        try clear c17
        try clear c17b0
        try clear c17b1
        try clear c19
        try clear p2
        obtain ⟨x9_3, x10_3, rfl, rfl, HA, HK3, HO_6, HB⟩ := hrel
        cases gk with
        | zero => exact absurd HA.out (by simp [cohousinglaw02_MoneyParts.l0])
        | succ k3 =>
         have H := HA.out
         clear HA
         simp only [cohousinglaw02_MoneyParts.l0] at H
         by_cases c20 : x10_3 < (t162.length : Int)
         ·rw [if_pos c20] at H
          have c20b0 : decide (x10_3 < (t162.length : Int)) = true := dT c20
          clear c20
          have HC21 := Aside0.mk H
          clear H
          obtain ⟨Ao22, co22, eo22⟩ := Kd.R_slice HO_6.out
          subst eo22
          go_upto_region 12 with (fail)
          go_cut [95] (fun v95 wc => ∃ (kq : Nat) (x95_20 : Bool), v95 = .bool x95_20 ∧ Aside0 (cohousinglaw02_MoneyParts.j3 kq a0 l1 t161 t162 t166 x9_3 x10_3 x95_20 = some r) ∧ Aside0 (kq ≤ k3) ∧ Aside0 (Kd.R (Kd.int .i64) 3 wc w.heap.size (fun _ => True) (.slice Ao22 t162.length co22) t162) ∧ Aside0 (Below w.heap.size w wc))
          case first =>
           have H := HC21.out
           clear HC21
           by_cases c23 : 0 ≤ x10_3
           ·rw [if_pos c23] at H
            have c23b0 : decide (0 ≤ x10_3) = true := dT c23
            clear c23
            (first | rw [c23b0] | (simp only [i64_w, i32_w]; rw [c23b0]) | skip)
            replace H := Option.bind_eq_some_iff.mp H
            obtain ⟨t169, A240, H⟩ := H
            replace H : (if t169 = true then (if a0 ≥ 0 then (if (rd t162 x10_3) < 0 then (cohousinglaw02_MoneyParts.j3 k3 a0 l1 t161 t162 t166 x9_3 x10_3 true) else (if a0 ≤ 0 then (if (rd t162 x10_3) > 0 then (cohousinglaw02_MoneyParts.j3 k3 a0 l1 t161 t162 t166 x9_3 x10_3 true) else (if x10_3 < (l1.length : Int) then (if (rd l1 x10_3) = 0 then (cohousinglaw02_MoneyParts.j3 k3 a0 l1 t161 t162 t166 x9_3 x10_3 ((rd t162 x10_3) != 0)) else (cohousinglaw02_MoneyParts.j3 k3 a0 l1 t161 t162 t166 x9_3 x10_3 false)) else (none))) else (if x10_3 < (l1.length : Int) then (if (rd l1 x10_3) = 0 then (cohousinglaw02_MoneyParts.j3 k3 a0 l1 t161 t162 t166 x9_3 x10_3 ((rd t162 x10_3) != 0)) else (cohousinglaw02_MoneyParts.j3 k3 a0 l1 t161 t162 t166 x9_3 x10_3 false)) else (none)))) else (if a0 ≤ 0 then (if (rd t162 x10_3) > 0 then (cohousinglaw02_MoneyParts.j3 k3 a0 l1 t161 t162 t166 x9_3 x10_3 true) else (if x10_3 < (l1.length : Int) then (if (rd l1 x10_3) = 0 then (cohousinglaw02_MoneyParts.j3 k3 a0 l1 t161 t162 t166 x9_3 x10_3 ((rd t162 x10_3) != 0)) else (cohousinglaw02_MoneyParts.j3 k3 a0 l1 t161 t162 t166 x9_3 x10_3 false)) else (none))) else (if x10_3 < (l1.length : Int) then (if (rd l1 x10_3) = 0 then (cohousinglaw02_MoneyParts.j3 k3 a0 l1 t161 t162 t166 x9_3 x10_3 ((rd t162 x10_3) != 0)) else (cohousinglaw02_MoneyParts.j3 k3 a0 l1 t161 t162 t166 x9_3 x10_3 false)) else (none)))) else (cohousinglaw02_MoneyParts.j3 k3 a0 l1 t161 t162 t166 x9_3 x10_3 true)) = some r := H
            have A24 := Aside0.mk A240
            clear A240
            by_cases c25 : t169 = true
            ·subst c25
             have H1 : (if a0 ≥ 0 then (if (rd t162 x10_3) < 0 then (cohousinglaw02_MoneyParts.j3 k3 a0 l1 t161 t162 t166 x9_3 x10_3 true) else (if a0 ≤ 0 then (if (rd t162 x10_3) > 0 then (cohousinglaw02_MoneyParts.j3 k3 a0 l1 t161 t162 t166 x9_3 x10_3 true) else (if x10_3 < (l1.length : Int) then (if (rd l1 x10_3) = 0 then (cohousinglaw02_MoneyParts.j3 k3 a0 l1 t161 t162 t166 x9_3 x10_3 ((rd t162 x10_3) != 0)) else (cohousinglaw02_MoneyParts.j3 k3 a0 l1 t161 t162 t166 x9_3 x10_3 false)) else (none))) else (if x10_3 < (l1.length : Int) then (if (rd l1 x10_3) = 0 then (cohousinglaw02_MoneyParts.j3 k3 a0 l1 t161 t162 t166 x9_3 x10_3 ((rd t162 x10_3) != 0)) else (cohousinglaw02_MoneyParts.j3 k3 a0 l1 t161 t162 t166 x9_3 x10_3 false)) else (none)))) else (if a0 ≤ 0 then (if (rd t162 x10_3) > 0 then (cohousinglaw02_MoneyParts.j3 k3 a0 l1 t161 t162 t166 x9_3 x10_3 true) else (if x10_3 < (l1.length : Int) then (if (rd l1 x10_3) = 0 then (cohousinglaw02_MoneyParts.j3 k3 a0 l1 t161 t162 t166 x9_3 x10_3 ((rd t162 x10_3) != 0)) else (cohousinglaw02_MoneyParts.j3 k3 a0 l1 t161 t162 t166 x9_3 x10_3 false)) else (none))) else (if x10_3 < (l1.length : Int) then (if (rd l1 x10_3) = 0 then (cohousinglaw02_MoneyParts.j3 k3 a0 l1 t161 t162 t166 x9_3 x10_3 ((rd t162 x10_3) != 0)) else (cohousinglaw02_MoneyParts.j3 k3 a0 l1 t161 t162 t166 x9_3 x10_3 false)) else (none)))) = some r := by rw [if_pos rfl] at H; exact H
             clear H
             have H := H1
             clear H1
             by_cases c26 : a0 ≥ 0
             ·rw [if_pos c26] at H
              have c26b0 : decide (0 ≤ a0) = true := dT c26
              clear c26
              by_cases c27 : (rd t162 x10_3) < 0
              ·rw [if_pos c27] at H
               have c27b0 : decide ((rd t162 x10_3) < 0) = true := dT c27
               clear c27
               as_aux_lemma =>
                have H' := Aside0.mk H
                clear H
                have p168 : 0 ≤ (x10_3 : Int) := oT (by first|(with_reducible assumption) | assumption)
                have q168 : x10_3 < (t162.length : Int) := oT (by first|(with_reducible assumption) | assumption)
                obtain ⟨ad168, e168, hx168_0⟩ := Kd.at_int (Kd.R_reads' HO_6.out).2.2 x10_3 p168 q168
                cases e168
                replace p168 := eq_true p168
                replace q168 := eq_true q168
                go_wp2_with (first|((with_reducible refine gate_callee (f := 12) rfl ?_); refine goesL_ (some 58) rfl rfl Tryd.func12 (by kernel_rfl) rfl #[.int .i64 (rd t162 x10_3)] rfl (by (try simp only [List.map_toArray, List.map_cons, List.map_nil]); first | done | rfl|(simp only [List.length_drop, List.length_take]; rfl)) ?_; (with_reducible refine (cohousingref02_Amount.calls (rd t162 x10_3) true _ A24.out).mono ?_); rintro e w' ⟨rfl, ⟨nd, rfl⟩⟩; refine ⟨_, rfl, ?_⟩; have p170 : 0 ≤ (x10_3 : Int) := oT (by first|(with_reducible assumption) | assumption); have q170 : x10_3 < (t162.length : Int) := oT (by first|(with_reducible assumption) | assumption); obtain ⟨ad170, e170, hx170_0⟩ := Kd.at_int (Kd.R_reads' HO_6.out).2.2 x10_3 p170 q170; obtain rfl : ad168 = ad170 := (by injection e170); replace p170 := eq_true p170; replace q170 := eq_true q170))
                go_meet
                case rel => exact ⟨_, (true), (by first | rfl|(simp; done)|(simp [*]; done)), H', ⟨by have := HJ5.out; have := HJ15.out; have := HK3.out; first | omega|exact Nat.le_refl _⟩, ⟨by (with_reducible repeat (first|apply Kd.R_alloc|apply Kd.R_drewN|apply Kd.R_drew)); exact HO_6.out⟩, ⟨by repeat (first|(with_reducible first|exact HB.out|apply bA|apply bN|apply b1)|exact HB.out)⟩⟩
              ·rw [if_neg c27] at H
               have c27b0 : decide ((rd t162 x10_3) < 0) = false := dF c27
               clear c27
               by_cases c28 : a0 ≤ 0
               ·rw [if_pos c28] at H
                have c28b0 : decide (a0 ≤ 0) = true := dT c28
                clear c28
                by_cases c29 : (rd t162 x10_3) > 0
                ·rw [if_pos c29] at H
                 have c29b0 : decide (0 < (rd t162 x10_3)) = true := dT c29
                 clear c29
                 as_aux_lemma =>
                  have H' := Aside0.mk H
                  clear H
                  have p168 : 0 ≤ (x10_3 : Int) := oT (by first|(with_reducible assumption) | assumption)
                  have q168 : x10_3 < (t162.length : Int) := oT (by first|(with_reducible assumption) | assumption)
                  obtain ⟨ad168, e168, hx168_0⟩ := Kd.at_int (Kd.R_reads' HO_6.out).2.2 x10_3 p168 q168
                  cases e168
                  replace p168 := eq_true p168
                  replace q168 := eq_true q168
                  go_wp2_with (first|((with_reducible refine gate_callee (f := 12) rfl ?_); refine goesL_ (some 58) rfl rfl Tryd.func12 (by kernel_rfl) rfl #[.int .i64 (rd t162 x10_3)] rfl (by (try simp only [List.map_toArray, List.map_cons, List.map_nil]); first | done | rfl|(simp only [List.length_drop, List.length_take]; rfl)) ?_; (with_reducible refine (cohousingref02_Amount.calls (rd t162 x10_3) true _ A24.out).mono ?_); rintro e w' ⟨rfl, ⟨nd, rfl⟩⟩; refine ⟨_, rfl, ?_⟩; have p170 : 0 ≤ (x10_3 : Int) := oT (by first|(with_reducible assumption) | assumption); have q170 : x10_3 < (t162.length : Int) := oT (by first|(with_reducible assumption) | assumption); obtain ⟨ad170, e170, hx170_0⟩ := Kd.at_int (Kd.R_reads' HO_6.out).2.2 x10_3 p170 q170; obtain rfl : ad168 = ad170 := (by injection e170); replace p170 := eq_true p170; replace q170 := eq_true q170; have p171 : 0 ≤ (x10_3 : Int) := oT (by first|(with_reducible assumption) | assumption); have q171 : x10_3 < (t162.length : Int) := oT (by first|(with_reducible assumption) | assumption); obtain ⟨ad171, e171, hx171_0⟩ := Kd.at_int (Kd.R_reads' HO_6.out).2.2 x10_3 p171 q171; obtain rfl : ad168 = ad171 := (by injection e171); replace p171 := eq_true p171; replace q171 := eq_true q171))
                  go_meet
                  case rel => exact ⟨_, (true), (by first | rfl|(simp; done)|(simp [*]; done)), H', ⟨by have := HJ5.out; have := HJ15.out; have := HK3.out; first | omega|exact Nat.le_refl _⟩, ⟨by (with_reducible repeat (first|apply Kd.R_alloc|apply Kd.R_drewN|apply Kd.R_drew)); exact HO_6.out⟩, ⟨by repeat (first|(with_reducible first|exact HB.out|apply bA|apply bN|apply b1)|exact HB.out)⟩⟩
                ·rw [if_neg c29] at H
                 have c29b0 : decide (0 < (rd t162 x10_3)) = false := dF c29
                 clear c29
                 by_cases c30 : x10_3 < (l1.length : Int)
                 ·rw [if_pos c30] at H
                  have c30b0 : decide (x10_3 < (l1.length : Int)) = true := dT c30
                  clear c30
                  by_cases c31 : (rd l1 x10_3) = 0
                  ·rw [if_pos c31] at H
                   have c31b0 : ((rd l1 x10_3) == 0) = true := beq_iff_eq.mpr c31
                   have c31b1 : ((rd l1 x10_3) != 0) = false := bne_eq_false_iff_eq.mpr c31
                   clear c31
                   as_aux_lemma =>
                    have H' := Aside0.mk H
                    clear H
                    have p168 : 0 ≤ (x10_3 : Int) := oT (by first|(with_reducible assumption) | assumption)
                    have q168 : x10_3 < (t162.length : Int) := oT (by first|(with_reducible assumption) | assumption)
                    obtain ⟨ad168, e168, hx168_0⟩ := Kd.at_int (Kd.R_reads' HO_6.out).2.2 x10_3 p168 q168
                    cases e168
                    replace p168 := eq_true p168
                    replace q168 := eq_true q168
                    go_wp2_with (first|((with_reducible refine gate_callee (f := 12) rfl ?_); refine goesL_ (some 58) rfl rfl Tryd.func12 (by kernel_rfl) rfl #[.int .i64 (rd t162 x10_3)] rfl (by (try simp only [List.map_toArray, List.map_cons, List.map_nil]); first | done | rfl|(simp only [List.length_drop, List.length_take]; rfl)) ?_; (with_reducible refine (cohousingref02_Amount.calls (rd t162 x10_3) true _ A24.out).mono ?_); rintro e w' ⟨rfl, ⟨nd, rfl⟩⟩; refine ⟨_, rfl, ?_⟩; have p170 : 0 ≤ (x10_3 : Int) := oT (by first|(with_reducible assumption) | assumption); have q170 : x10_3 < (t162.length : Int) := oT (by first|(with_reducible assumption) | assumption); obtain ⟨ad170, e170, hx170_0⟩ := Kd.at_int (Kd.R_reads' HO_6.out).2.2 x10_3 p170 q170; obtain rfl : ad168 = ad170 := (by injection e170); replace p170 := eq_true p170; replace q170 := eq_true q170; have p171 : 0 ≤ (x10_3 : Int) := oT (by first|(with_reducible assumption) | assumption); have q171 : x10_3 < (t162.length : Int) := oT (by first|(with_reducible assumption) | assumption); obtain ⟨ad171, e171, hx171_0⟩ := Kd.at_int (Kd.R_reads' HO_6.out).2.2 x10_3 p171 q171; obtain rfl : ad168 = ad171 := (by injection e171); replace p171 := eq_true p171; replace q171 := eq_true q171; have p172 : 0 ≤ (x10_3 : Int) := oT (by first|(with_reducible assumption) | assumption); have q172 : x10_3 < (l1.length : Int) := oT (by first|(with_reducible assumption) | assumption); obtain ⟨ad172, e172, hx172_0⟩ := Kd.at_int HR1.out x10_3 p172 q172; cases e172; replace hx172_0 := (HB.out.cell (World.block_lt_of_cell? w _ hx172_0)).trans hx172_0; replace p172 := eq_true p172; replace q172 := eq_true q172; have p173 : 0 ≤ (x10_3 : Int) := oT (by first|(with_reducible assumption) | assumption); have q173 : x10_3 < (t162.length : Int) := oT (by first|(with_reducible assumption) | assumption); obtain ⟨ad173, e173, hx173_0⟩ := Kd.at_int (Kd.R_reads' HO_6.out).2.2 x10_3 p173 q173; obtain rfl : ad168 = ad173 := (by injection e173); replace p173 := eq_true p173; replace q173 := eq_true q173))
                    go_meet
                    case rel => exact ⟨_, (((rd t162 x10_3) != 0)), (by first | rfl|(simp; done)|(simp [*]; done)), H', ⟨by have := HJ5.out; have := HJ15.out; have := HK3.out; first | omega|exact Nat.le_refl _⟩, ⟨by (with_reducible repeat (first|apply Kd.R_alloc|apply Kd.R_drewN|apply Kd.R_drew)); exact HO_6.out⟩, ⟨by repeat (first|(with_reducible first|exact HB.out|apply bA|apply bN|apply b1)|exact HB.out)⟩⟩
                  ·rw [if_neg c31] at H
                   have c31b0 : ((rd l1 x10_3) == 0) = false := beq_eq_false_iff_ne.mpr c31
                   have c31b1 : ((rd l1 x10_3) != 0) = true := bne_iff_ne.mpr c31
                   as_aux_lemma =>
                    have H' := Aside0.mk H
                    clear H
                    have p168 : 0 ≤ (x10_3 : Int) := oT (by first|(with_reducible assumption) | assumption)
                    have q168 : x10_3 < (t162.length : Int) := oT (by first|(with_reducible assumption) | assumption)
                    obtain ⟨ad168, e168, hx168_0⟩ := Kd.at_int (Kd.R_reads' HO_6.out).2.2 x10_3 p168 q168
                    cases e168
                    replace p168 := eq_true p168
                    replace q168 := eq_true q168
                    go_wp2_with (first|((with_reducible refine gate_callee (f := 12) rfl ?_); refine goesL_ (some 58) rfl rfl Tryd.func12 (by kernel_rfl) rfl #[.int .i64 (rd t162 x10_3)] rfl (by (try simp only [List.map_toArray, List.map_cons, List.map_nil]); first | done | rfl|(simp only [List.length_drop, List.length_take]; rfl)) ?_; (with_reducible refine (cohousingref02_Amount.calls (rd t162 x10_3) true _ A24.out).mono ?_); rintro e w' ⟨rfl, ⟨nd, rfl⟩⟩; refine ⟨_, rfl, ?_⟩; have p170 : 0 ≤ (x10_3 : Int) := oT (by first|(with_reducible assumption) | assumption); have q170 : x10_3 < (t162.length : Int) := oT (by first|(with_reducible assumption) | assumption); obtain ⟨ad170, e170, hx170_0⟩ := Kd.at_int (Kd.R_reads' HO_6.out).2.2 x10_3 p170 q170; obtain rfl : ad168 = ad170 := (by injection e170); replace p170 := eq_true p170; replace q170 := eq_true q170; have p171 : 0 ≤ (x10_3 : Int) := oT (by first|(with_reducible assumption) | assumption); have q171 : x10_3 < (t162.length : Int) := oT (by first|(with_reducible assumption) | assumption); obtain ⟨ad171, e171, hx171_0⟩ := Kd.at_int (Kd.R_reads' HO_6.out).2.2 x10_3 p171 q171; obtain rfl : ad168 = ad171 := (by injection e171); replace p171 := eq_true p171; replace q171 := eq_true q171; have p172 : 0 ≤ (x10_3 : Int) := oT (by first|(with_reducible assumption) | assumption); have q172 : x10_3 < (l1.length : Int) := oT (by first|(with_reducible assumption) | assumption); obtain ⟨ad172, e172, hx172_0⟩ := Kd.at_int HR1.out x10_3 p172 q172; cases e172; replace hx172_0 := (HB.out.cell (World.block_lt_of_cell? w _ hx172_0)).trans hx172_0; replace p172 := eq_true p172; replace q172 := eq_true q172))
                    go_meet
                    case rel => exact ⟨_, (false), (by first | rfl|(simp; done)|(simp [*]; done)), H', ⟨by have := HJ5.out; have := HJ15.out; have := HK3.out; first | omega|exact Nat.le_refl _⟩, ⟨by (with_reducible repeat (first|apply Kd.R_alloc|apply Kd.R_drewN|apply Kd.R_drew)); exact HO_6.out⟩, ⟨by repeat (first|(with_reducible first|exact HB.out|apply bA|apply bN|apply b1)|exact HB.out)⟩⟩
                 ·rw [if_neg c30] at H
                  exact absurd H (by simp)
               ·rw [if_neg c28] at H
                have c28b0 : decide (a0 ≤ 0) = false := dF c28
                clear c28
                by_cases c32 : x10_3 < (l1.length : Int)
                ·rw [if_pos c32] at H
                 have c32b0 : decide (x10_3 < (l1.length : Int)) = true := dT c32
                 clear c32
                 by_cases c33 : (rd l1 x10_3) = 0
                 ·rw [if_pos c33] at H
                  have c33b0 : ((rd l1 x10_3) == 0) = true := beq_iff_eq.mpr c33
                  have c33b1 : ((rd l1 x10_3) != 0) = false := bne_eq_false_iff_eq.mpr c33
                  clear c33
                  as_aux_lemma =>
                   have H' := Aside0.mk H
                   clear H
                   have p168 : 0 ≤ (x10_3 : Int) := oT (by first|(with_reducible assumption) | assumption)
                   have q168 : x10_3 < (t162.length : Int) := oT (by first|(with_reducible assumption) | assumption)
                   obtain ⟨ad168, e168, hx168_0⟩ := Kd.at_int (Kd.R_reads' HO_6.out).2.2 x10_3 p168 q168
                   cases e168
                   replace p168 := eq_true p168
                   replace q168 := eq_true q168
                   go_wp2_with (first|((with_reducible refine gate_callee (f := 12) rfl ?_); refine goesL_ (some 58) rfl rfl Tryd.func12 (by kernel_rfl) rfl #[.int .i64 (rd t162 x10_3)] rfl (by (try simp only [List.map_toArray, List.map_cons, List.map_nil]); first | done | rfl|(simp only [List.length_drop, List.length_take]; rfl)) ?_; (with_reducible refine (cohousingref02_Amount.calls (rd t162 x10_3) true _ A24.out).mono ?_); rintro e w' ⟨rfl, ⟨nd, rfl⟩⟩; refine ⟨_, rfl, ?_⟩; have p170 : 0 ≤ (x10_3 : Int) := oT (by first|(with_reducible assumption) | assumption); have q170 : x10_3 < (t162.length : Int) := oT (by first|(with_reducible assumption) | assumption); obtain ⟨ad170, e170, hx170_0⟩ := Kd.at_int (Kd.R_reads' HO_6.out).2.2 x10_3 p170 q170; obtain rfl : ad168 = ad170 := (by injection e170); replace p170 := eq_true p170; replace q170 := eq_true q170; have p174 : 0 ≤ (x10_3 : Int) := oT (by first|(with_reducible assumption) | assumption); have q174 : x10_3 < (l1.length : Int) := oT (by first|(with_reducible assumption) | assumption); obtain ⟨ad174, e174, hx174_0⟩ := Kd.at_int HR1.out x10_3 p174 q174; cases e174; replace hx174_0 := (HB.out.cell (World.block_lt_of_cell? w _ hx174_0)).trans hx174_0; replace p174 := eq_true p174; replace q174 := eq_true q174; have p175 : 0 ≤ (x10_3 : Int) := oT (by first|(with_reducible assumption) | assumption); have q175 : x10_3 < (t162.length : Int) := oT (by first|(with_reducible assumption) | assumption); obtain ⟨ad175, e175, hx175_0⟩ := Kd.at_int (Kd.R_reads' HO_6.out).2.2 x10_3 p175 q175; obtain rfl : ad168 = ad175 := (by injection e175); replace p175 := eq_true p175; replace q175 := eq_true q175))
                   go_meet
                   case rel => exact ⟨_, (((rd t162 x10_3) != 0)), (by first | rfl|(simp; done)|(simp [*]; done)), H', ⟨by have := HJ5.out; have := HJ15.out; have := HK3.out; first | omega|exact Nat.le_refl _⟩, ⟨by (with_reducible repeat (first|apply Kd.R_alloc|apply Kd.R_drewN|apply Kd.R_drew)); exact HO_6.out⟩, ⟨by repeat (first|(with_reducible first|exact HB.out|apply bA|apply bN|apply b1)|exact HB.out)⟩⟩
                 ·rw [if_neg c33] at H
                  have c33b0 : ((rd l1 x10_3) == 0) = false := beq_eq_false_iff_ne.mpr c33
                  have c33b1 : ((rd l1 x10_3) != 0) = true := bne_iff_ne.mpr c33
                  as_aux_lemma =>
                   have H' := Aside0.mk H
                   clear H
                   have p168 : 0 ≤ (x10_3 : Int) := oT (by first|(with_reducible assumption) | assumption)
                   have q168 : x10_3 < (t162.length : Int) := oT (by first|(with_reducible assumption) | assumption)
                   obtain ⟨ad168, e168, hx168_0⟩ := Kd.at_int (Kd.R_reads' HO_6.out).2.2 x10_3 p168 q168
                   cases e168
                   replace p168 := eq_true p168
                   replace q168 := eq_true q168
                   go_wp2_with (first|((with_reducible refine gate_callee (f := 12) rfl ?_); refine goesL_ (some 58) rfl rfl Tryd.func12 (by kernel_rfl) rfl #[.int .i64 (rd t162 x10_3)] rfl (by (try simp only [List.map_toArray, List.map_cons, List.map_nil]); first | done | rfl|(simp only [List.length_drop, List.length_take]; rfl)) ?_; (with_reducible refine (cohousingref02_Amount.calls (rd t162 x10_3) true _ A24.out).mono ?_); rintro e w' ⟨rfl, ⟨nd, rfl⟩⟩; refine ⟨_, rfl, ?_⟩; have p170 : 0 ≤ (x10_3 : Int) := oT (by first|(with_reducible assumption) | assumption); have q170 : x10_3 < (t162.length : Int) := oT (by first|(with_reducible assumption) | assumption); obtain ⟨ad170, e170, hx170_0⟩ := Kd.at_int (Kd.R_reads' HO_6.out).2.2 x10_3 p170 q170; obtain rfl : ad168 = ad170 := (by injection e170); replace p170 := eq_true p170; replace q170 := eq_true q170; have p174 : 0 ≤ (x10_3 : Int) := oT (by first|(with_reducible assumption) | assumption); have q174 : x10_3 < (l1.length : Int) := oT (by first|(with_reducible assumption) | assumption); obtain ⟨ad174, e174, hx174_0⟩ := Kd.at_int HR1.out x10_3 p174 q174; cases e174; replace hx174_0 := (HB.out.cell (World.block_lt_of_cell? w _ hx174_0)).trans hx174_0; replace p174 := eq_true p174; replace q174 := eq_true q174))
                   go_meet
                   case rel => exact ⟨_, (false), (by first | rfl|(simp; done)|(simp [*]; done)), H', ⟨by have := HJ5.out; have := HJ15.out; have := HK3.out; first | omega|exact Nat.le_refl _⟩, ⟨by (with_reducible repeat (first|apply Kd.R_alloc|apply Kd.R_drewN|apply Kd.R_drew)); exact HO_6.out⟩, ⟨by repeat (first|(with_reducible first|exact HB.out|apply bA|apply bN|apply b1)|exact HB.out)⟩⟩
                ·rw [if_neg c32] at H
                 exact absurd H (by simp)
             ·rw [if_neg c26] at H
              have c26b0 : decide (0 ≤ a0) = false := dF c26
              clear c26
              by_cases c34 : a0 ≤ 0
              ·rw [if_pos c34] at H
               have c34b0 : decide (a0 ≤ 0) = true := dT c34
               clear c34
               by_cases c35 : (rd t162 x10_3) > 0
               ·rw [if_pos c35] at H
                have c35b0 : decide (0 < (rd t162 x10_3)) = true := dT c35
                clear c35
                as_aux_lemma =>
                 have H' := Aside0.mk H
                 clear H
                 have p168 : 0 ≤ (x10_3 : Int) := oT (by first|(with_reducible assumption) | assumption)
                 have q168 : x10_3 < (t162.length : Int) := oT (by first|(with_reducible assumption) | assumption)
                 obtain ⟨ad168, e168, hx168_0⟩ := Kd.at_int (Kd.R_reads' HO_6.out).2.2 x10_3 p168 q168
                 cases e168
                 replace p168 := eq_true p168
                 replace q168 := eq_true q168
                 go_wp2_with (first|((with_reducible refine gate_callee (f := 12) rfl ?_); refine goesL_ (some 58) rfl rfl Tryd.func12 (by kernel_rfl) rfl #[.int .i64 (rd t162 x10_3)] rfl (by (try simp only [List.map_toArray, List.map_cons, List.map_nil]); first | done | rfl|(simp only [List.length_drop, List.length_take]; rfl)) ?_; (with_reducible refine (cohousingref02_Amount.calls (rd t162 x10_3) true _ A24.out).mono ?_); rintro e w' ⟨rfl, ⟨nd, rfl⟩⟩; refine ⟨_, rfl, ?_⟩; have p176 : 0 ≤ (x10_3 : Int) := oT (by first|(with_reducible assumption) | assumption); have q176 : x10_3 < (t162.length : Int) := oT (by first|(with_reducible assumption) | assumption); obtain ⟨ad176, e176, hx176_0⟩ := Kd.at_int (Kd.R_reads' HO_6.out).2.2 x10_3 p176 q176; obtain rfl : ad168 = ad176 := (by injection e176); replace p176 := eq_true p176; replace q176 := eq_true q176))
                 go_meet
                 case rel => exact ⟨_, (true), (by first | rfl|(simp; done)|(simp [*]; done)), H', ⟨by have := HJ5.out; have := HJ15.out; have := HK3.out; first | omega|exact Nat.le_refl _⟩, ⟨by (with_reducible repeat (first|apply Kd.R_alloc|apply Kd.R_drewN|apply Kd.R_drew)); exact HO_6.out⟩, ⟨by repeat (first|(with_reducible first|exact HB.out|apply bA|apply bN|apply b1)|exact HB.out)⟩⟩
               ·rw [if_neg c35] at H
                have c35b0 : decide (0 < (rd t162 x10_3)) = false := dF c35
                clear c35
                by_cases c36 : x10_3 < (l1.length : Int)
                ·rw [if_pos c36] at H
                 have c36b0 : decide (x10_3 < (l1.length : Int)) = true := dT c36
                 clear c36
                 by_cases c37 : (rd l1 x10_3) = 0
                 ·rw [if_pos c37] at H
                  have c37b0 : ((rd l1 x10_3) == 0) = true := beq_iff_eq.mpr c37
                  have c37b1 : ((rd l1 x10_3) != 0) = false := bne_eq_false_iff_eq.mpr c37
                  clear c37
                  as_aux_lemma =>
                   have H' := Aside0.mk H
                   clear H
                   have p168 : 0 ≤ (x10_3 : Int) := oT (by first|(with_reducible assumption) | assumption)
                   have q168 : x10_3 < (t162.length : Int) := oT (by first|(with_reducible assumption) | assumption)
                   obtain ⟨ad168, e168, hx168_0⟩ := Kd.at_int (Kd.R_reads' HO_6.out).2.2 x10_3 p168 q168
                   cases e168
                   replace p168 := eq_true p168
                   replace q168 := eq_true q168
                   go_wp2_with (first|((with_reducible refine gate_callee (f := 12) rfl ?_); refine goesL_ (some 58) rfl rfl Tryd.func12 (by kernel_rfl) rfl #[.int .i64 (rd t162 x10_3)] rfl (by (try simp only [List.map_toArray, List.map_cons, List.map_nil]); first | done | rfl|(simp only [List.length_drop, List.length_take]; rfl)) ?_; (with_reducible refine (cohousingref02_Amount.calls (rd t162 x10_3) true _ A24.out).mono ?_); rintro e w' ⟨rfl, ⟨nd, rfl⟩⟩; refine ⟨_, rfl, ?_⟩; have p176 : 0 ≤ (x10_3 : Int) := oT (by first|(with_reducible assumption) | assumption); have q176 : x10_3 < (t162.length : Int) := oT (by first|(with_reducible assumption) | assumption); obtain ⟨ad176, e176, hx176_0⟩ := Kd.at_int (Kd.R_reads' HO_6.out).2.2 x10_3 p176 q176; obtain rfl : ad168 = ad176 := (by injection e176); replace p176 := eq_true p176; replace q176 := eq_true q176; have p177 : 0 ≤ (x10_3 : Int) := oT (by first|(with_reducible assumption) | assumption); have q177 : x10_3 < (l1.length : Int) := oT (by first|(with_reducible assumption) | assumption); obtain ⟨ad177, e177, hx177_0⟩ := Kd.at_int HR1.out x10_3 p177 q177; cases e177; replace hx177_0 := (HB.out.cell (World.block_lt_of_cell? w _ hx177_0)).trans hx177_0; replace p177 := eq_true p177; replace q177 := eq_true q177; have p178 : 0 ≤ (x10_3 : Int) := oT (by first|(with_reducible assumption) | assumption); have q178 : x10_3 < (t162.length : Int) := oT (by first|(with_reducible assumption) | assumption); obtain ⟨ad178, e178, hx178_0⟩ := Kd.at_int (Kd.R_reads' HO_6.out).2.2 x10_3 p178 q178; obtain rfl : ad168 = ad178 := (by injection e178); replace p178 := eq_true p178; replace q178 := eq_true q178))
                   go_meet
                   case rel => exact ⟨_, (((rd t162 x10_3) != 0)), (by first | rfl|(simp; done)|(simp [*]; done)), H', ⟨by have := HJ5.out; have := HJ15.out; have := HK3.out; first | omega|exact Nat.le_refl _⟩, ⟨by (with_reducible repeat (first|apply Kd.R_alloc|apply Kd.R_drewN|apply Kd.R_drew)); exact HO_6.out⟩, ⟨by repeat (first|(with_reducible first|exact HB.out|apply bA|apply bN|apply b1)|exact HB.out)⟩⟩
                 ·rw [if_neg c37] at H
                  have c37b0 : ((rd l1 x10_3) == 0) = false := beq_eq_false_iff_ne.mpr c37
                  have c37b1 : ((rd l1 x10_3) != 0) = true := bne_iff_ne.mpr c37
                  as_aux_lemma =>
                   have H' := Aside0.mk H
                   clear H
                   have p168 : 0 ≤ (x10_3 : Int) := oT (by first|(with_reducible assumption) | assumption)
                   have q168 : x10_3 < (t162.length : Int) := oT (by first|(with_reducible assumption) | assumption)
                   obtain ⟨ad168, e168, hx168_0⟩ := Kd.at_int (Kd.R_reads' HO_6.out).2.2 x10_3 p168 q168
                   cases e168
                   replace p168 := eq_true p168
                   replace q168 := eq_true q168
                   go_wp2_with (first|((with_reducible refine gate_callee (f := 12) rfl ?_); refine goesL_ (some 58) rfl rfl Tryd.func12 (by kernel_rfl) rfl #[.int .i64 (rd t162 x10_3)] rfl (by (try simp only [List.map_toArray, List.map_cons, List.map_nil]); first | done | rfl|(simp only [List.length_drop, List.length_take]; rfl)) ?_; (with_reducible refine (cohousingref02_Amount.calls (rd t162 x10_3) true _ A24.out).mono ?_); rintro e w' ⟨rfl, ⟨nd, rfl⟩⟩; refine ⟨_, rfl, ?_⟩; have p176 : 0 ≤ (x10_3 : Int) := oT (by first|(with_reducible assumption) | assumption); have q176 : x10_3 < (t162.length : Int) := oT (by first|(with_reducible assumption) | assumption); obtain ⟨ad176, e176, hx176_0⟩ := Kd.at_int (Kd.R_reads' HO_6.out).2.2 x10_3 p176 q176; obtain rfl : ad168 = ad176 := (by injection e176); replace p176 := eq_true p176; replace q176 := eq_true q176; have p177 : 0 ≤ (x10_3 : Int) := oT (by first|(with_reducible assumption) | assumption); have q177 : x10_3 < (l1.length : Int) := oT (by first|(with_reducible assumption) | assumption); obtain ⟨ad177, e177, hx177_0⟩ := Kd.at_int HR1.out x10_3 p177 q177; cases e177; replace hx177_0 := (HB.out.cell (World.block_lt_of_cell? w _ hx177_0)).trans hx177_0; replace p177 := eq_true p177; replace q177 := eq_true q177))
                   go_meet
                   case rel => exact ⟨_, (false), (by first | rfl|(simp; done)|(simp [*]; done)), H', ⟨by have := HJ5.out; have := HJ15.out; have := HK3.out; first | omega|exact Nat.le_refl _⟩, ⟨by (with_reducible repeat (first|apply Kd.R_alloc|apply Kd.R_drewN|apply Kd.R_drew)); exact HO_6.out⟩, ⟨by repeat (first|(with_reducible first|exact HB.out|apply bA|apply bN|apply b1)|exact HB.out)⟩⟩
                ·rw [if_neg c36] at H
                 exact absurd H (by simp)
              ·rw [if_neg c34] at H
               have c34b0 : decide (a0 ≤ 0) = false := dF c34
               clear c34
               by_cases c38 : x10_3 < (l1.length : Int)
               ·rw [if_pos c38] at H
                have c38b0 : decide (x10_3 < (l1.length : Int)) = true := dT c38
                clear c38
                by_cases c39 : (rd l1 x10_3) = 0
                ·rw [if_pos c39] at H
                 have c39b0 : ((rd l1 x10_3) == 0) = true := beq_iff_eq.mpr c39
                 have c39b1 : ((rd l1 x10_3) != 0) = false := bne_eq_false_iff_eq.mpr c39
                 clear c39
                 as_aux_lemma =>
                  have H' := Aside0.mk H
                  clear H
                  have p168 : 0 ≤ (x10_3 : Int) := oT (by first|(with_reducible assumption) | assumption)
                  have q168 : x10_3 < (t162.length : Int) := oT (by first|(with_reducible assumption) | assumption)
                  obtain ⟨ad168, e168, hx168_0⟩ := Kd.at_int (Kd.R_reads' HO_6.out).2.2 x10_3 p168 q168
                  cases e168
                  replace p168 := eq_true p168
                  replace q168 := eq_true q168
                  go_wp2_with (first|((with_reducible refine gate_callee (f := 12) rfl ?_); refine goesL_ (some 58) rfl rfl Tryd.func12 (by kernel_rfl) rfl #[.int .i64 (rd t162 x10_3)] rfl (by (try simp only [List.map_toArray, List.map_cons, List.map_nil]); first | done | rfl|(simp only [List.length_drop, List.length_take]; rfl)) ?_; (with_reducible refine (cohousingref02_Amount.calls (rd t162 x10_3) true _ A24.out).mono ?_); rintro e w' ⟨rfl, ⟨nd, rfl⟩⟩; refine ⟨_, rfl, ?_⟩; have p179 : 0 ≤ (x10_3 : Int) := oT (by first|(with_reducible assumption) | assumption); have q179 : x10_3 < (l1.length : Int) := oT (by first|(with_reducible assumption) | assumption); obtain ⟨ad179, e179, hx179_0⟩ := Kd.at_int HR1.out x10_3 p179 q179; cases e179; replace hx179_0 := (HB.out.cell (World.block_lt_of_cell? w _ hx179_0)).trans hx179_0; replace p179 := eq_true p179; replace q179 := eq_true q179; have p180 : 0 ≤ (x10_3 : Int) := oT (by first|(with_reducible assumption) | assumption); have q180 : x10_3 < (t162.length : Int) := oT (by first|(with_reducible assumption) | assumption); obtain ⟨ad180, e180, hx180_0⟩ := Kd.at_int (Kd.R_reads' HO_6.out).2.2 x10_3 p180 q180; obtain rfl : ad168 = ad180 := (by injection e180); replace p180 := eq_true p180; replace q180 := eq_true q180))
                  go_meet
                  case rel => exact ⟨_, (((rd t162 x10_3) != 0)), (by first | rfl|(simp; done)|(simp [*]; done)), H', ⟨by have := HJ5.out; have := HJ15.out; have := HK3.out; first | omega|exact Nat.le_refl _⟩, ⟨by (with_reducible repeat (first|apply Kd.R_alloc|apply Kd.R_drewN|apply Kd.R_drew)); exact HO_6.out⟩, ⟨by repeat (first|(with_reducible first|exact HB.out|apply bA|apply bN|apply b1)|exact HB.out)⟩⟩
                ·rw [if_neg c39] at H
                 have c39b0 : ((rd l1 x10_3) == 0) = false := beq_eq_false_iff_ne.mpr c39
                 have c39b1 : ((rd l1 x10_3) != 0) = true := bne_iff_ne.mpr c39
                 as_aux_lemma =>
                  have H' := Aside0.mk H
                  clear H
                  have p168 : 0 ≤ (x10_3 : Int) := oT (by first|(with_reducible assumption) | assumption)
                  have q168 : x10_3 < (t162.length : Int) := oT (by first|(with_reducible assumption) | assumption)
                  obtain ⟨ad168, e168, hx168_0⟩ := Kd.at_int (Kd.R_reads' HO_6.out).2.2 x10_3 p168 q168
                  cases e168
                  replace p168 := eq_true p168
                  replace q168 := eq_true q168
                  go_wp2_with (first|((with_reducible refine gate_callee (f := 12) rfl ?_); refine goesL_ (some 58) rfl rfl Tryd.func12 (by kernel_rfl) rfl #[.int .i64 (rd t162 x10_3)] rfl (by (try simp only [List.map_toArray, List.map_cons, List.map_nil]); first | done | rfl|(simp only [List.length_drop, List.length_take]; rfl)) ?_; (with_reducible refine (cohousingref02_Amount.calls (rd t162 x10_3) true _ A24.out).mono ?_); rintro e w' ⟨rfl, ⟨nd, rfl⟩⟩; refine ⟨_, rfl, ?_⟩; have p179 : 0 ≤ (x10_3 : Int) := oT (by first|(with_reducible assumption) | assumption); have q179 : x10_3 < (l1.length : Int) := oT (by first|(with_reducible assumption) | assumption); obtain ⟨ad179, e179, hx179_0⟩ := Kd.at_int HR1.out x10_3 p179 q179; cases e179; replace hx179_0 := (HB.out.cell (World.block_lt_of_cell? w _ hx179_0)).trans hx179_0; replace p179 := eq_true p179; replace q179 := eq_true q179))
                  go_meet
                  case rel => exact ⟨_, (false), (by first | rfl|(simp; done)|(simp [*]; done)), H', ⟨by have := HJ5.out; have := HJ15.out; have := HK3.out; first | omega|exact Nat.le_refl _⟩, ⟨by (with_reducible repeat (first|apply Kd.R_alloc|apply Kd.R_drewN|apply Kd.R_drew)); exact HO_6.out⟩, ⟨by repeat (first|(with_reducible first|exact HB.out|apply bA|apply bN|apply b1)|exact HB.out)⟩⟩
               ·rw [if_neg c38] at H
                exact absurd H (by simp)
            ·replace c25 := Bool.eq_false_iff.mpr c25
             subst c25
             have H1 : (cohousinglaw02_MoneyParts.j3 k3 a0 l1 t161 t162 t166 x9_3 x10_3 true) = some r := by rw [if_neg (show ¬ (false = true) by decide)] at H; exact H
             clear H
             have H := H1
             clear H1
             as_aux_lemma =>
              have H' := Aside0.mk H
              clear H
              have p168 : 0 ≤ (x10_3 : Int) := oT (by first|(with_reducible assumption) | assumption)
              have q168 : x10_3 < (t162.length : Int) := oT (by first|(with_reducible assumption) | assumption)
              obtain ⟨ad168, e168, hx168_0⟩ := Kd.at_int (Kd.R_reads' HO_6.out).2.2 x10_3 p168 q168
              cases e168
              replace p168 := eq_true p168
              replace q168 := eq_true q168
              go_wp2_with (first|((with_reducible refine gate_callee (f := 12) rfl ?_); refine goesL_ (some 58) rfl rfl Tryd.func12 (by kernel_rfl) rfl #[.int .i64 (rd t162 x10_3)] rfl (by (try simp only [List.map_toArray, List.map_cons, List.map_nil]); first | done | rfl|(simp only [List.length_drop, List.length_take]; rfl)) ?_; (with_reducible refine (cohousingref02_Amount.calls (rd t162 x10_3) false _ A24.out).mono ?_); rintro e w' ⟨rfl, ⟨nd, rfl⟩⟩; refine ⟨_, rfl, ?_⟩))
              go_meet
              case rel => exact ⟨_, (true), (by first | rfl|(simp; done)|(simp [*]; done)), H', ⟨by have := HJ5.out; have := HJ15.out; have := HK3.out; first | omega|exact Nat.le_refl _⟩, ⟨by (with_reducible repeat (first|apply Kd.R_alloc|apply Kd.R_drewN|apply Kd.R_drew)); exact HO_6.out⟩, ⟨by repeat (first|(with_reducible first|exact HB.out|apply bA|apply bN|apply b1)|exact HB.out)⟩⟩
           ·rw [if_neg c23] at H
            exact absurd H (by simp)
          case rest =>
           clear HC21
           try clear c1
           try clear p1
           try clear q1
           try clear hx1
           try clear c2
           try clear p2
           try clear c3
           try clear c6
           try clear c10
           try clear c11
           try clear c12
           try clear c13
           try clear c13b0
           try clear c13b1
           try clear c14
           try clear c14b0
           try clear c14b1
           try clear c15
           try clear c16
           try clear p16
           try clear q16
           try clear hx16
           try clear c17
           try clear c17b0
           try clear c17b1
           try clear p17
           try clear q17
           try clear hx17
           try clear p18
           try clear q18
           try clear hx18
           try clear c19
           try clear c20
           try clear c20b0
           try clear c23
           try clear c23b0
           try clear c25
           try clear c26
           try clear c26b0
           try clear c27
           try clear c27b0
           try clear c28
           try clear c28b0
           try clear c29
           try clear c29b0
           try clear c30
           try clear c30b0
           try clear c31
           try clear c31b0
           try clear c31b1
           try clear c32
           try clear c32b0
           try clear c33
           try clear c33b0
           try clear c33b1
           try clear c34
           try clear c34b0
           try clear c35
           try clear c35b0
           try clear c36
           try clear c36b0
           try clear c37
           try clear c37b0
           try clear c37b1
           try clear c38
           try clear c38b0
           try clear c39
           try clear c39b0
           try clear c39b1
           try clear hx168_0
           try clear hx170_0
           try clear hx171_0
           try clear hx172_0
           try clear hx173_0
           try clear hx174_0
           try clear hx175_0
           try clear hx176_0
           try clear hx177_0
           try clear hx178_0
           try clear hx179_0
           try clear hx180_0
           try clear p168
           try clear p170
           try clear p171
           try clear p172
           try clear p173
           try clear p174
           try clear p175
           try clear p176
           try clear p177
           try clear p178
           try clear p179
           try clear p180
           try clear p2
           try clear q168
           try clear q170
           try clear q171
           try clear q172
           try clear q173
           try clear q174
           try clear q175
           try clear q176
           try clear q177
           try clear q178
           try clear q179
           try clear q180
           obtain ⟨kq, x95_20, rfl, HA, HJ20, HO_6, HB⟩ := hcut
           cases kq with
           | zero => exact absurd HA.out (by simp [cohousinglaw02_MoneyParts.j3])
           | succ kj20 =>
            have H := HA.out
            clear HA
            simp only [cohousinglaw02_MoneyParts.j3] at H
            by_cases c40 : x95_20 = true
            ·subst c40
             have H1 : (none) = some r := by rw [if_pos rfl] at H; exact H
             clear H
             have H := H1
             clear H1
             exact absurd H (by simp)
            ·replace c40 := Bool.eq_false_iff.mpr c40
             subst c40
             have H1 : (if 0 ≤ x10_3 then (if x10_3 < (t162.length : Int) then (if x10_3 < (l1.length : Int) then (if (wrap64 ((wrap64 ((rd t162 x10_3) * t166)) - (wrap64 (a0 * (rd l1 x10_3))))) ≥ t166 then (cohousinglaw02_MoneyParts.j4 kj20 a0 l1 t161 t162 t166 x9_3 x10_3 true) else (cohousinglaw02_MoneyParts.j4 kj20 a0 l1 t161 t162 t166 x9_3 x10_3 (decide ((wrap64 (-(wrap64 ((wrap64 ((rd t162 x10_3) * t166)) - (wrap64 (a0 * (rd l1 x10_3))))))) ≥ t166)))) else (none)) else (none)) else (none)) = some r := by rw [if_neg (show ¬ (false = true) by decide)] at H; exact H
             clear H
             have H := H1
             clear H1
             by_cases c41 : 0 ≤ x10_3
             ·rw [if_pos c41] at H
              have c41b0 : decide (0 ≤ x10_3) = true := dT c41
              clear c41
              by_cases c42 : x10_3 < (t162.length : Int)
              ·rw [if_pos c42] at H
               have c42b0 : decide (x10_3 < (t162.length : Int)) = true := dT c42
               clear c42
               by_cases c43 : x10_3 < (l1.length : Int)
               ·rw [if_pos c43] at H
                have c43b0 : decide (x10_3 < (l1.length : Int)) = true := dT c43
                clear c43
                have HC44 := Aside0.mk H
                clear H
                try go_wp2
                have n0_ := Aside0.mk (Kd.R_drew HO_6.out)
                have n1_ := Aside0.mk (b1 HB.out)
                clear HO_6
                clear HB
                have HO_6 := n0_
                have HB := n1_
                clear n0_ n1_
                have p181 : 0 ≤ (x10_3 : Int) := oT (by first|(with_reducible assumption) | assumption)
                have q181 : x10_3 < (t162.length : Int) := oT (by first|(with_reducible assumption) | assumption)
                obtain ⟨ad181, e181, hx181_0⟩ := Kd.at_int (Kd.R_reads' HO_6.out).2.2 x10_3 p181 q181
                cases e181
                replace p181 := eq_true p181
                replace q181 := eq_true q181
                have p182 : 0 ≤ (x10_3 : Int) := oT (by first|(with_reducible assumption) | assumption)
                have q182 : x10_3 < (l1.length : Int) := oT (by first|(with_reducible assumption) | assumption)
                obtain ⟨ad182, e182, hx182_0⟩ := Kd.at_int HR1.out x10_3 p182 q182
                have hw182_0 := hx182_0
                cases e182
                replace hx182_0 := (HB.out.cell (World.block_lt_of_cell? w _ hx182_0)).trans hx182_0
                replace p182 := eq_true p182
                replace q182 := eq_true q182
                refine start_ (n := 14) (S := fun w' => w'.cell? (ad181.add (x10_3).toNat) = some (.int .i64 (rd t162 x10_3)) ∧ w'.cell? (ad182.add (x10_3).toNat) = some (.int .i64 (rd l1 x10_3))) (ds := []) #[false, false, false, false, false, false, false, false, false, false, false, false, false, false] (by kernel_rfl) rfl rfl ⟨hx181_0, ((HB.out.cell (World.block_lt_of_cell? w _ hw182_0)).trans hw182_0)⟩ (fun hHeld => ?_); refine with_tabW cohousinglaw02_MoneyParts.tab14 cohousinglaw02_MoneyParts.bits14 (fun HT_ HW_ => ?_)
                generalize wc.drew = w45 at HO_6 HB hx181_0 hx182_0 hHeld ⊢
                refine pure_ (i := 0) (N := some 96) (v := ?_) (a' := ?_) #[true, false, false, false, false, false, false, false, false, false, false, false, false, false] rfl rfl (any_of HT_.out (by kernel_rfl)) (fun _ _ _ h => h) (Or.inl ⟨by rfl, ?_⟩) ?_ ?_
                rotate_left
                ·intro w'
                 go_simp
                 with_reducible rfl
                rotate_left
                ·simp only [Act.put, sT, sZ, sS, i64_w, i32_w]
                 rfl
                refine pure_ (i := 1) (N := some 97) (v := ?_) (a' := ?_) #[true, true, false, false, false, false, false, false, false, false, false, false, false, false] rfl rfl (any_of HT_.out (by kernel_rfl)) (fun _ _ _ h => h) (Or.inl ⟨by rfl, ?_⟩) ?_ ?_
                rotate_left
                ·intro w'
                 go_simp
                 with_reducible rfl
                rotate_left
                ·simp only [Act.put, sT, sZ, sS, i64_w, i32_w]
                 rfl
                refine pure_ (i := 2) (N := some 98) (v := ?_) (a' := ?_) #[true, true, true, false, false, false, false, false, false, false, false, false, false, false] rfl rfl (any_of HT_.out (by kernel_rfl)) (fun _ _ _ h => h) (Or.inl ⟨by rfl, ?_⟩) ?_ ?_
                rotate_left
                ·intro w'
                 go_simp
                 with_reducible rfl
                rotate_left
                ·simp only [Act.put, sT, sZ, sS, i64_w, i32_w]
                 rfl
                refine pure_ (i := 4) (N := some 100) (v := ?_) (a' := ?_) #[true, true, true, false, true, false, false, false, false, false, false, false, false, false] rfl rfl (any_of HT_.out (by kernel_rfl)) (fun _ _ _ h => h) (Or.inl ⟨by rfl, ?_⟩) ?_ ?_
                rotate_left
                ·intro w'
                 go_simp
                 with_reducible rfl
                rotate_left
                ·simp only [Act.put, sT, sZ, sS, i64_w, i32_w]
                 rfl
                refine pure_ (i := 6) (N := some 102) (v := ?_) (a' := ?_) #[true, true, true, false, true, false, true, false, false, false, false, false, false, false] rfl rfl (any_of HT_.out (by kernel_rfl)) (fun _ _ _ h => h) (Or.inl ⟨by rfl, ?_⟩) ?_ ?_
                rotate_left
                ·intro w'
                 go_simp
                 with_reducible rfl
                rotate_left
                ·simp only [Act.put, sT, sZ, sS, i64_w, i32_w]
                 rfl
                refine pure_ (i := 7) (N := some 103) (v := ?_) (a' := ?_) #[true, true, true, false, true, false, true, true, false, false, false, false, false, false] rfl rfl (any_of HT_.out (by kernel_rfl)) (fun _ _ _ h => h) (Or.inl ⟨by rfl, ?_⟩) ?_ ?_
                rotate_left
                ·intro w'
                 go_simp
                 with_reducible rfl
                rotate_left
                ·simp only [Act.put, sT, sZ, sS, i64_w, i32_w]
                 rfl
                refine pure_ (i := 8) (N := some 104) (v := ?_) (a' := ?_) #[true, true, true, false, true, false, true, true, true, false, false, false, false, false] rfl rfl (any_of HT_.out (by kernel_rfl)) (fun _ _ _ h => h) (Or.inl ⟨by rfl, ?_⟩) ?_ ?_
                rotate_left
                ·intro w'
                 go_simp
                 with_reducible rfl
                rotate_left
                ·simp only [Act.put, sT, sZ, sS, i64_w, i32_w]
                 rfl
                refine pure_ (i := 9) (N := some 105) (v := ?_) (a' := ?_) #[true, true, true, false, true, false, true, true, true, true, false, false, false, false] rfl rfl (any_of HT_.out (by kernel_rfl)) (fun _ _ _ h => h) (Or.inl ⟨by rfl, ?_⟩) ?_ ?_
                rotate_left
                ·intro w'
                 go_simp
                 with_reducible rfl
                rotate_left
                ·simp only [Act.put, sT, sZ, sS, i64_w, i32_w]
                 rfl
                refine take_ (i := 3) (N := some 99) (v := ?_) (a' := ?_) #[true, true, true, true, true, false, true, true, true, true, false, false, false, false] rfl rfl (take_ofW HT_.out HW_.out (by kernel_rfl)) (fun _ _ _ h => h) (Or.inl ⟨by rfl, ?_⟩) hHeld ?_ ?_
                rotate_left
                ·rintro w' ⟨s0, s1⟩
                 go_simp
                 with_reducible rfl
                rotate_left
                ·simp only [Act.put, sT, sZ, sS, i64_w, i32_w]
                 rfl
                refine pure_ (i := 5) (N := some 101) (v := ?_) (a' := ?_) #[true, true, true, true, true, true, true, true, true, true, false, false, false, false] rfl rfl (any_of HT_.out (by kernel_rfl)) (fun _ _ _ h => h) (Or.inl ⟨by rfl, ?_⟩) ?_ ?_
                rotate_left
                ·intro w'
                 go_simp
                 with_reducible rfl
                rotate_left
                ·simp only [Act.put, sT, sZ, sS, i64_w, i32_w]
                 rfl
                refine take_ (i := 10) (N := some 106) (v := ?_) (a' := ?_) #[true, true, true, true, true, true, true, true, true, true, true, false, false, false] rfl rfl (take_ofW HT_.out HW_.out (by kernel_rfl)) (fun _ _ _ h => h) (Or.inl ⟨by rfl, ?_⟩) hHeld ?_ ?_
                rotate_left
                ·rintro w' ⟨s0, s1⟩
                 go_simp
                 with_reducible rfl
                rotate_left
                ·simp only [Act.put, sT, sZ, sS, i64_w, i32_w]
                 rfl
                refine pure_ (i := 11) (N := some 107) (v := ?_) (a' := ?_) #[true, true, true, true, true, true, true, true, true, true, true, true, false, false] rfl rfl (any_of HT_.out (by kernel_rfl)) (fun _ _ _ h => h) (Or.inl ⟨by rfl, ?_⟩) ?_ ?_
                rotate_left
                ·intro w'
                 go_simp
                 with_reducible rfl
                rotate_left
                ·simp only [Act.put, sT, sZ, sS, i64_w, i32_w]
                 rfl
                refine pure_ (i := 12) (N := some 108) (v := ?_) (a' := ?_) #[true, true, true, true, true, true, true, true, true, true, true, true, true, false] rfl rfl (any_of HT_.out (by kernel_rfl)) (fun _ _ _ h => h) (Or.inl ⟨by rfl, ?_⟩) ?_ ?_
                rotate_left
                ·intro w'
                 go_simp
                 with_reducible rfl
                rotate_left
                ·simp only [Act.put, sT, sZ, sS, i64_w, i32_w]
                 rfl
                refine pure_ (i := 13) (N := some 11) (v := ?_) (a' := ?_) #[true, true, true, true, true, true, true, true, true, true, true, true, true, true] rfl rfl (any_of HT_.out (by kernel_rfl)) (fun _ _ _ h => h) (Or.inl ⟨by rfl, ?_⟩) ?_ ?_
                rotate_left
                ·intro w'
                 go_simp
                 with_reducible rfl
                rotate_left
                ·simp only [Act.put, sT, sZ, sS, i64_w, i32_w]
                 rfl
                refine done_ (done_of HT_.out (by kernel_rfl)) ?_
                go_upto_region 15 with (fail)
                go_cut [117] (fun v117 wc => ∃ (kq : Nat) (x117_43 : Bool), v117 = .bool x117_43 ∧ Aside0 (cohousinglaw02_MoneyParts.j4 kq a0 l1 t161 t162 t166 x9_3 x10_3 x117_43 = some r) ∧ Aside0 (kq ≤ kj20) ∧ Aside0 (Kd.R (Kd.int .i64) 3 wc w.heap.size (fun _ => True) (.slice (some ad181) t162.length co22) t162) ∧ Aside0 (Below w.heap.size w wc))
                case first =>
                 have H := HC44.out
                 clear HC44
                 by_cases c46 : (wrap64 ((wrap64 ((rd t162 x10_3) * t166)) - (wrap64 (a0 * (rd l1 x10_3))))) ≥ t166
                 ·rw [if_pos c46] at H
                  have c46b0 : decide (t166 ≤ (wrap64 ((wrap64 ((rd t162 x10_3) * t166)) - (wrap64 (a0 * (rd l1 x10_3)))))) = true := dT c46
                  clear c46
                  (first | rw [c46b0] | (simp only [i64_w, i32_w]; rw [c46b0]) | skip)
                  as_aux_lemma =>
                   have H' := Aside0.mk H
                   clear H
                   go_wp2
                   go_meet
                   case rel => exact ⟨_, (true), (by first | rfl|(simp; done)|(simp [*]; done)), H', ⟨by have := HJ5.out; have := HJ15.out; have := HK3.out; have := HJ20.out; first | omega|exact Nat.le_refl _⟩, ⟨by (with_reducible repeat (first|apply Kd.R_alloc|apply Kd.R_drewN|apply Kd.R_drew)); exact HO_6.out⟩, ⟨by repeat (first|(with_reducible first|exact HB.out|apply bA|apply bN|apply b1)|exact HB.out)⟩⟩
                 ·rw [if_neg c46] at H
                  have c46b0 : decide (t166 ≤ (wrap64 ((wrap64 ((rd t162 x10_3) * t166)) - (wrap64 (a0 * (rd l1 x10_3)))))) = false := dF c46
                  clear c46
                  (first | rw [c46b0] | (simp only [i64_w, i32_w]; rw [c46b0]) | skip)
                  as_aux_lemma =>
                   have H' := Aside0.mk H
                   clear H
                   go_wp2
                   go_meet
                   case rel => exact ⟨_, (decide ((wrap64 (-(wrap64 ((wrap64 ((rd t162 x10_3) * t166)) - (wrap64 (a0 * (rd l1 x10_3))))))) ≥ t166)), (by first | rfl|(simp; done)|(simp [*]; done)), H', ⟨by have := HJ5.out; have := HJ15.out; have := HK3.out; have := HJ20.out; first | omega|exact Nat.le_refl _⟩, ⟨by (with_reducible repeat (first|apply Kd.R_alloc|apply Kd.R_drewN|apply Kd.R_drew)); exact HO_6.out⟩, ⟨by repeat (first|(with_reducible first|exact HB.out|apply bA|apply bN|apply b1)|exact HB.out)⟩⟩
                case rest =>
                 clear HC44
                 try clear c1
                 try clear p1
                 try clear q1
                 try clear hx1
                 try clear c2
                 try clear p2
                 try clear c3
                 try clear c4
                 try clear c6
                 try clear p6
                 try clear c10
                 try clear c11
                 try clear c12
                 try clear c13
                 try clear c13b0
                 try clear c13b1
                 try clear c14
                 try clear c14b0
                 try clear c14b1
                 try clear c15
                 try clear c16
                 try clear p16
                 try clear q16
                 try clear hx16
                 try clear c17
                 try clear c17b0
                 try clear c17b1
                 try clear p17
                 try clear q17
                 try clear hx17
                 try clear p18
                 try clear q18
                 try clear hx18
                 try clear c19
                 try clear c20
                 try clear c20b0
                 try clear c23
                 try clear c23b0
                 try clear c25
                 try clear c26
                 try clear c26b0
                 try clear c27
                 try clear c27b0
                 try clear c28
                 try clear c28b0
                 try clear c29
                 try clear c29b0
                 try clear c30
                 try clear c30b0
                 try clear c31
                 try clear c31b0
                 try clear c31b1
                 try clear c32
                 try clear c32b0
                 try clear c33
                 try clear c33b0
                 try clear c33b1
                 try clear c34
                 try clear c34b0
                 try clear c35
                 try clear c35b0
                 try clear c36
                 try clear c36b0
                 try clear c37
                 try clear c37b0
                 try clear c37b1
                 try clear c38
                 try clear c38b0
                 try clear c39
                 try clear c39b0
                 try clear c39b1
                 try clear c40
                 try clear c41
                 try clear c41b0
                 try clear c42
                 try clear c42b0
                 try clear c43
                 try clear c43b0
                 try clear c46
                 try clear c46b0
                 try clear hx168_0
                 try clear hx170_0
                 try clear hx171_0
                 try clear hx172_0
                 try clear hx173_0
                 try clear hx174_0
                 try clear hx175_0
                 try clear hx176_0
                 try clear hx177_0
                 try clear hx178_0
                 try clear hx179_0
                 try clear hx180_0
                 try clear hx181_0
                 try clear hx182_0
                 try clear p1
                 try clear p16
                 try clear p168
                 try clear p17
                 try clear p170
                 try clear p171
                 try clear p172
                 try clear p173
                 try clear p174
                 try clear p175
                 try clear p176
                 try clear p177
                 try clear p178
                 try clear p179
                 try clear p18
                 try clear p180
                 try clear p181
                 try clear p182
                 try clear p2
                 try clear q1
                 try clear q16
                 try clear q168
                 try clear q17
                 try clear q170
                 try clear q171
                 try clear q172
                 try clear q173
                 try clear q174
                 try clear q175
                 try clear q176
                 try clear q177
                 try clear q178
                 try clear q179
                 try clear q18
                 try clear q180
                 try clear q181
                 try clear q182
                 obtain ⟨kq, x117_43, rfl, HA, HJ43, HO_6, HB⟩ := hcut
                 cases kq with
                 | zero => exact absurd HA.out (by simp [cohousinglaw02_MoneyParts.j4])
                 | succ kj43 =>
                  have H := HA.out
                  clear HA
                  simp only [cohousinglaw02_MoneyParts.j4] at H
                  by_cases c47 : x117_43 = true
                  ·subst c47
                   have H1 : (none) = some r := by rw [if_pos rfl] at H; exact H
                   clear H
                   have H := H1
                   clear H1
                   exact absurd H (by simp)
                  ·replace c47 := Bool.eq_false_iff.mpr c47
                   subst c47
                   have H1 : (cohousinglaw02_MoneyParts.l1 kj43 a0 l1 t161 t162 t166 x9_3 x10_3 0) = some r := by rw [if_neg (show ¬ (false = true) by decide)] at H; exact H
                   clear H
                   have H := H1
                   clear H1
                   have H' := Aside0.mk H
                   clear H
                   go_wp2
                   go_loopg [12] kj43 (fun kq v12 w' => ∃ (x12_6 : Int), v12 = .int .i64 x12_6 ∧ Aside0 (cohousinglaw02_MoneyParts.l1 kq a0 l1 t161 t162 t166 x9_3 x10_3 x12_6 = some r) ∧ Aside0 (kq ≤ kj43) ∧ Aside0 (Kd.R (Kd.int .i64) 3 w' w.heap.size (fun _ => True) (.slice (some ad181) t162.length co22) t162) ∧ Aside0 (Below w.heap.size w w'))
                   case atStart => exact ⟨(0), (by first | rfl|(simp; done)|(simp [*]; done)), H', ⟨Nat.le_refl _⟩, ⟨by (with_reducible repeat (first|apply Kd.R_alloc|apply Kd.R_drewN|apply Kd.R_drew)); exact HO_6.out⟩, ⟨by repeat (first|(with_reducible first|exact HB.out|apply bA|apply bN|apply b1)|exact HB.out)⟩⟩
                   case round =>
                    clear H'
                    try clear c1
                    try clear p1
                    try clear q1
                    try clear hx1
                    try clear c2
                    try clear p2
                    try clear c3
                    try clear c4
                    try clear c6
                    try clear p6
                    try clear c10
                    try clear c11
                    try clear c12
                    try clear c13
                    try clear c13b0
                    try clear c13b1
                    try clear c14
                    try clear c14b0
                    try clear c14b1
                    try clear c15
                    try clear c16
                    try clear p16
                    try clear q16
                    try clear hx16
                    try clear c17
                    try clear c17b0
                    try clear c17b1
                    try clear p17
                    try clear q17
                    try clear hx17
                    try clear p18
                    try clear q18
                    try clear hx18
                    try clear c19
                    try clear c20
                    try clear c20b0
                    try clear c23
                    try clear c23b0
                    try clear c25
                    try clear c26
                    try clear c26b0
                    try clear c27
                    try clear c27b0
                    try clear c28
                    try clear c28b0
                    try clear c29
                    try clear c29b0
                    try clear c30
                    try clear c30b0
                    try clear c31
                    try clear c31b0
                    try clear c31b1
                    try clear c32
                    try clear c32b0
                    try clear c33
                    try clear c33b0
                    try clear c33b1
                    try clear c34
                    try clear c34b0
                    try clear c35
                    try clear c35b0
                    try clear c36
                    try clear c36b0
                    try clear c37
                    try clear c37b0
                    try clear c37b1
                    try clear c38
                    try clear c38b0
                    try clear c39
                    try clear c39b0
                    try clear c39b1
                    try clear c40
                    try clear c41
                    try clear c41b0
                    try clear c42
                    try clear c42b0
                    try clear c43
                    try clear c43b0
                    try clear c46
                    try clear c46b0
                    try clear c47
                    try clear hx168_0
                    try clear hx170_0
                    try clear hx171_0
                    try clear hx172_0
                    try clear hx173_0
                    try clear hx174_0
                    try clear hx175_0
                    try clear hx176_0
                    try clear hx177_0
                    try clear hx178_0
                    try clear hx179_0
                    try clear hx180_0
                    try clear hx181_0
                    try clear hx182_0
                    try clear p1
                    try clear p16
                    try clear p168
                    try clear p17
                    try clear p170
                    try clear p171
                    try clear p172
                    try clear p173
                    try clear p174
                    try clear p175
                    try clear p176
                    try clear p177
                    try clear p178
                    try clear p179
                    try clear p18
                    try clear p180
                    try clear p181
                    try clear p182
                    try clear p2
                    try clear p6
                    try clear q1
                    try clear q16
                    try clear q168
                    try clear q17
                    try clear q170
                    try clear q171
                    try clear q172
                    try clear q173
                    try clear q174
                    try clear q175
                    try clear q176
                    try clear q177
                    try clear q178
                    try clear q179
                    try clear q18
                    try clear q180
                    try clear q181
                    try clear q182
                    obtain ⟨x12_6, rfl, HA, HK6, HO_6, HB⟩ := hrel
                    cases gk with
                    | zero => exact absurd HA.out (by simp [cohousinglaw02_MoneyParts.l1])
                    | succ k6 =>
                     have H := HA.out
                     clear HA
                     simp only [cohousinglaw02_MoneyParts.l1] at H
                     by_cases c48 : x12_6 < x10_3
                     ·rw [if_pos c48] at H
                      have c48b0 : decide (x12_6 < x10_3) = true := dT c48
                      clear c48
                      by_cases c49 : 0 ≤ x10_3
                      ·rw [if_pos c49] at H
                       have c49b0 : decide (0 ≤ x10_3) = true := dT c49
                       clear c49
                       by_cases c50 : x10_3 < (l1.length : Int)
                       ·rw [if_pos c50] at H
                        have c50b0 : decide (x10_3 < (l1.length : Int)) = true := dT c50
                        clear c50
                        by_cases c51 : 0 ≤ x12_6
                        ·rw [if_pos c51] at H
                         have c51b0 : decide (0 ≤ x12_6) = true := dT c51
                         clear c51
                         by_cases c52 : x12_6 < (l1.length : Int)
                         ·rw [if_pos c52] at H
                          have c52b0 : decide (x12_6 < (l1.length : Int)) = true := dT c52
                          clear c52
                          by_cases c53 : (rd l1 x10_3) > (rd l1 x12_6)
                          ·rw [if_pos c53] at H
                           have c53b0 : decide ((rd l1 x12_6) < (rd l1 x10_3)) = true := dT c53
                           clear c53
                           by_cases c54 : x10_3 < (t162.length : Int)
                           ·rw [if_pos c54] at H
                            have c54b0 : decide (x10_3 < (t162.length : Int)) = true := dT c54
                            clear c54
                            replace H := Option.bind_eq_some_iff.mp H
                            obtain ⟨t187, A550, H⟩ := H
                            replace H : (if x12_6 < (t162.length : Int) then ((cohousinglaw02_size.f (rd t162 x12_6)).bind fun t189 => (if t187 < t189 then (none) else (if (rd l1 x12_6) > (rd l1 x10_3) then ((cohousinglaw02_size.f (rd t162 x12_6)).bind fun t193 => ((cohousinglaw02_size.f (rd t162 x10_3)).bind fun t195 => (if t193 < t195 then (none) else (cohousinglaw02_MoneyParts.l1 k6 a0 l1 t161 t162 t166 x9_3 x10_3 (wrap64 (x12_6 + 1)))))) else (cohousinglaw02_MoneyParts.l1 k6 a0 l1 t161 t162 t166 x9_3 x10_3 (wrap64 (x12_6 + 1)))))) else (none)) = some r := H
                            have A55 := Aside0.mk A550
                            clear A550
                            by_cases c56 : x12_6 < (t162.length : Int)
                            ·rw [if_pos c56] at H
                             have c56b0 : decide (x12_6 < (t162.length : Int)) = true := dT c56
                             clear c56
                             replace H := Option.bind_eq_some_iff.mp H
                             obtain ⟨t189, A570, H⟩ := H
                             replace H : (if t187 < t189 then (none) else (if (rd l1 x12_6) > (rd l1 x10_3) then ((cohousinglaw02_size.f (rd t162 x12_6)).bind fun t193 => ((cohousinglaw02_size.f (rd t162 x10_3)).bind fun t195 => (if t193 < t195 then (none) else (cohousinglaw02_MoneyParts.l1 k6 a0 l1 t161 t162 t166 x9_3 x10_3 (wrap64 (x12_6 + 1)))))) else (cohousinglaw02_MoneyParts.l1 k6 a0 l1 t161 t162 t166 x9_3 x10_3 (wrap64 (x12_6 + 1))))) = some r := H
                             have A57 := Aside0.mk A570
                             clear A570
                             by_cases c58 : t187 < t189
                             ·rw [if_pos c58] at H
                              have c58b0 : decide (t187 < t189) = true := dT c58
                              clear c58
                              exact absurd H (by simp)
                             ·rw [if_neg c58] at H
                              have c58b0 : decide (t187 < t189) = false := dF c58
                              clear c58
                              by_cases c59 : (rd l1 x12_6) > (rd l1 x10_3)
                              ·rw [if_pos c59] at H
                               have c59b0 : decide ((rd l1 x10_3) < (rd l1 x12_6)) = true := dT c59
                               clear c59
                               replace H := Option.bind_eq_some_iff.mp H
                               obtain ⟨t193, A600, H⟩ := H
                               replace H : ((cohousinglaw02_size.f (rd t162 x10_3)).bind fun t195 => (if t193 < t195 then (none) else (cohousinglaw02_MoneyParts.l1 k6 a0 l1 t161 t162 t166 x9_3 x10_3 (wrap64 (x12_6 + 1))))) = some r := H
                               have A60 := Aside0.mk A600
                               clear A600
                               replace H := Option.bind_eq_some_iff.mp H
                               obtain ⟨t195, A610, H⟩ := H
                               replace H : (if t193 < t195 then (none) else (cohousinglaw02_MoneyParts.l1 k6 a0 l1 t161 t162 t166 x9_3 x10_3 (wrap64 (x12_6 + 1)))) = some r := H
                               have A61 := Aside0.mk A610
                               clear A610
                               by_cases c62 : t193 < t195
                               ·rw [if_pos c62] at H
                                exact absurd H (by simp)
                               ·rw [if_neg c62] at H
                                have c62b0 : decide (t193 < t195) = false := dF c62
                                clear c62
                                as_aux_lemma =>
                                 have H' := Aside0.mk H
                                 clear H
                                 try go_wp2
                                 have n0_ := Aside0.mk (Kd.R_drew HO_6.out)
                                 have n1_ := Aside0.mk (b1 HB.out)
                                 clear HO_6
                                 clear HB
                                 have HO_6 := n0_
                                 have HB := n1_
                                 clear n0_ n1_
                                 have p184 : 0 ≤ (x10_3 : Int) := oT (by first|(with_reducible assumption) | assumption)
                                 have q184 : x10_3 < (l1.length : Int) := oT (by first|(with_reducible assumption) | assumption)
                                 obtain ⟨ad184, e184, hx184_0⟩ := Kd.at_int HR1.out x10_3 p184 q184
                                 have hw184_0 := hx184_0
                                 obtain rfl : ad182 = ad184 := (by injection e184)
                                 replace hx184_0 := (HB.out.cell (World.block_lt_of_cell? w _ hx184_0)).trans hx184_0
                                 replace p184 := eq_true p184
                                 replace q184 := eq_true q184
                                 have p185 : 0 ≤ (x12_6 : Int) := oT (by first|(with_reducible assumption) | assumption)
                                 have q185 : x12_6 < (l1.length : Int) := oT (by first|(with_reducible assumption) | assumption)
                                 obtain ⟨ad185, e185, hx185_0⟩ := Kd.at_int HR1.out x12_6 p185 q185
                                 have hw185_0 := hx185_0
                                 obtain rfl : ad182 = ad185 := (by injection e185)
                                 replace hx185_0 := (HB.out.cell (World.block_lt_of_cell? w _ hx185_0)).trans hx185_0
                                 replace p185 := eq_true p185
                                 replace q185 := eq_true q185
                                 have p186 : 0 ≤ (x10_3 : Int) := oT (by first|(with_reducible assumption) | assumption)
                                 have q186 : x10_3 < (t162.length : Int) := oT (by first|(with_reducible assumption) | assumption)
                                 obtain ⟨ad186, e186, hx186_0⟩ := Kd.at_int (Kd.R_reads' HO_6.out).2.2 x10_3 p186 q186
                                 obtain rfl : ad181 = ad186 := (by injection e186)
                                 replace p186 := eq_true p186
                                 replace q186 := eq_true q186
                                 have p188 : 0 ≤ (x12_6 : Int) := oT (by first|(with_reducible assumption) | assumption)
                                 have q188 : x12_6 < (t162.length : Int) := oT (by first|(with_reducible assumption) | assumption)
                                 obtain ⟨ad188, e188, hx188_0⟩ := Kd.at_int (Kd.R_reads' HO_6.out).2.2 x12_6 p188 q188
                                 obtain rfl : ad181 = ad188 := (by injection e188)
                                 replace p188 := eq_true p188
                                 replace q188 := eq_true q188
                                 have p190 : 0 ≤ (x12_6 : Int) := oT (by first|(with_reducible assumption) | assumption)
                                 have q190 : x12_6 < (l1.length : Int) := oT (by first|(with_reducible assumption) | assumption)
                                 obtain ⟨ad190, e190, hx190_0⟩ := Kd.at_int HR1.out x12_6 p190 q190
                                 have hw190_0 := hx190_0
                                 obtain rfl : ad182 = ad190 := (by injection e190)
                                 replace hx190_0 := (HB.out.cell (World.block_lt_of_cell? w _ hx190_0)).trans hx190_0
                                 replace p190 := eq_true p190
                                 replace q190 := eq_true q190
                                 have p191 : 0 ≤ (x10_3 : Int) := oT (by first|(with_reducible assumption) | assumption)
                                 have q191 : x10_3 < (l1.length : Int) := oT (by first|(with_reducible assumption) | assumption)
                                 obtain ⟨ad191, e191, hx191_0⟩ := Kd.at_int HR1.out x10_3 p191 q191
                                 have hw191_0 := hx191_0
                                 obtain rfl : ad182 = ad191 := (by injection e191)
                                 replace hx191_0 := (HB.out.cell (World.block_lt_of_cell? w _ hx191_0)).trans hx191_0
                                 replace p191 := eq_true p191
                                 replace q191 := eq_true q191
                                 have p192 : 0 ≤ (x12_6 : Int) := oT (by first|(with_reducible assumption) | assumption)
                                 have q192 : x12_6 < (t162.length : Int) := oT (by first|(with_reducible assumption) | assumption)
                                 obtain ⟨ad192, e192, hx192_0⟩ := Kd.at_int (Kd.R_reads' HO_6.out).2.2 x12_6 p192 q192
                                 obtain rfl : ad181 = ad192 := (by injection e192)
                                 replace p192 := eq_true p192
                                 replace q192 := eq_true q192
                                 have p194 : 0 ≤ (x10_3 : Int) := oT (by first|(with_reducible assumption) | assumption)
                                 have q194 : x10_3 < (t162.length : Int) := oT (by first|(with_reducible assumption) | assumption)
                                 obtain ⟨ad194, e194, hx194_0⟩ := Kd.at_int (Kd.R_reads' HO_6.out).2.2 x10_3 p194 q194
                                 obtain rfl : ad181 = ad194 := (by injection e194)
                                 replace p194 := eq_true p194
                                 replace q194 := eq_true q194
                                 refine start_ (n := 46) (S := fun w' => w'.cell? (ad182.add (x10_3).toNat) = some (.int .i64 (rd l1 x10_3)) ∧ w'.cell? (ad182.add (x12_6).toNat) = some (.int .i64 (rd l1 x12_6)) ∧ w'.cell? (ad181.add (x10_3).toNat) = some (.int .i64 (rd t162 x10_3)) ∧ w'.cell? (ad181.add (x12_6).toNat) = some (.int .i64 (rd t162 x12_6)) ∧ w'.cell? (ad182.add (x12_6).toNat) = some (.int .i64 (rd l1 x12_6)) ∧ w'.cell? (ad182.add (x10_3).toNat) = some (.int .i64 (rd l1 x10_3)) ∧ w'.cell? (ad181.add (x12_6).toNat) = some (.int .i64 (rd t162 x12_6)) ∧ w'.cell? (ad181.add (x10_3).toNat) = some (.int .i64 (rd t162 x10_3))) (ds := []) #[false, false, false, false, false, false, false, false, false, false, false, false, false, false, false, false, false, false, false, false, false, false, false, false, false, false, false, false, false, false, false, false, false, false, false, false, false, false, false, false, false, false, false, false, false, false] (by kernel_rfl) rfl rfl ⟨((HB.out.cell (World.block_lt_of_cell? w _ hw184_0)).trans hw184_0), ((HB.out.cell (World.block_lt_of_cell? w _ hw185_0)).trans hw185_0), hx186_0, hx188_0, ((HB.out.cell (World.block_lt_of_cell? w _ hw190_0)).trans hw190_0), ((HB.out.cell (World.block_lt_of_cell? w _ hw191_0)).trans hw191_0), hx192_0, hx194_0⟩ (fun hHeld => ?_); refine with_tabW cohousinglaw02_MoneyParts.tab20 cohousinglaw02_MoneyParts.bits20 (fun HT_ HW_ => ?_)
                                 generalize wr.drew = w63 at HO_6 HB hx184_0 hx185_0 hx186_0 hx188_0 hx190_0 hx191_0 hx192_0 hx194_0 hHeld ⊢
                                 refine pure_ (i := 0) (N := some 123) (v := ?_) (a' := ?_) #[true, false, false, false, false, false, false, false, false, false, false, false, false, false, false, false, false, false, false, false, false, false, false, false, false, false, false, false, false, false, false, false, false, false, false, false, false, false, false, false, false, false, false, false, false, false] rfl rfl (any_of HT_.out (by kernel_rfl)) (fun _ _ _ h => h) (Or.inl ⟨by rfl, ?_⟩) ?_ ?_
                                 rotate_left
                                 ·intro w'
                                  go_simp
                                  with_reducible rfl
                                 rotate_left
                                 ·simp only [Act.put, sT, sZ, sS, i64_w, i32_w]
                                  rfl
                                 refine pure_ (i := 1) (N := some 124) (v := ?_) (a' := ?_) #[true, true, false, false, false, false, false, false, false, false, false, false, false, false, false, false, false, false, false, false, false, false, false, false, false, false, false, false, false, false, false, false, false, false, false, false, false, false, false, false, false, false, false, false, false, false] rfl rfl (any_of HT_.out (by kernel_rfl)) (fun _ _ _ h => h) (Or.inl ⟨by rfl, ?_⟩) ?_ ?_
                                 rotate_left
                                 ·intro w'
                                  go_simp
                                  with_reducible rfl
                                 rotate_left
                                 ·simp only [Act.put, sT, sZ, sS, i64_w, i32_w]
                                  rfl
                                 refine pure_ (i := 2) (N := some 125) (v := ?_) (a' := ?_) #[true, true, true, false, false, false, false, false, false, false, false, false, false, false, false, false, false, false, false, false, false, false, false, false, false, false, false, false, false, false, false, false, false, false, false, false, false, false, false, false, false, false, false, false, false, false] rfl rfl (any_of HT_.out (by kernel_rfl)) (fun _ _ _ h => h) (Or.inl ⟨by rfl, ?_⟩) ?_ ?_
                                 rotate_left
                                 ·intro w'
                                  go_simp
                                  with_reducible rfl
                                 rotate_left
                                 ·simp only [Act.put, sT, sZ, sS, i64_w, i32_w]
                                  rfl
                                 refine pure_ (i := 4) (N := some 127) (v := ?_) (a' := ?_) #[true, true, true, false, true, false, false, false, false, false, false, false, false, false, false, false, false, false, false, false, false, false, false, false, false, false, false, false, false, false, false, false, false, false, false, false, false, false, false, false, false, false, false, false, false, false] rfl rfl (any_of HT_.out (by kernel_rfl)) (fun _ _ _ h => h) (Or.inl ⟨by rfl, ?_⟩) ?_ ?_
                                 rotate_left
                                 ·intro w'
                                  go_simp
                                  with_reducible rfl
                                 rotate_left
                                 ·simp only [Act.put, sT, sZ, sS, i64_w, i32_w]
                                  rfl
                                 refine pure_ (i := 5) (N := some 128) (v := ?_) (a' := ?_) #[true, true, true, false, true, true, false, false, false, false, false, false, false, false, false, false, false, false, false, false, false, false, false, false, false, false, false, false, false, false, false, false, false, false, false, false, false, false, false, false, false, false, false, false, false, false] rfl rfl (any_of HT_.out (by kernel_rfl)) (fun _ _ _ h => h) (Or.inl ⟨by rfl, ?_⟩) ?_ ?_
                                 rotate_left
                                 ·intro w'
                                  go_simp
                                  with_reducible rfl
                                 rotate_left
                                 ·simp only [Act.put, sT, sZ, sS, i64_w, i32_w]
                                  rfl
                                 refine pure_ (i := 6) (N := some 129) (v := ?_) (a' := ?_) #[true, true, true, false, true, true, true, false, false, false, false, false, false, false, false, false, false, false, false, false, false, false, false, false, false, false, false, false, false, false, false, false, false, false, false, false, false, false, false, false, false, false, false, false, false, false] rfl rfl (any_of HT_.out (by kernel_rfl)) (fun _ _ _ h => h) (Or.inl ⟨by rfl, ?_⟩) ?_ ?_
                                 rotate_left
                                 ·intro w'
                                  go_simp
                                  with_reducible rfl
                                 rotate_left
                                 ·simp only [Act.put, sT, sZ, sS, i64_w, i32_w]
                                  rfl
                                 refine take_ (i := 3) (N := some 126) (v := ?_) (a' := ?_) #[true, true, true, true, true, true, true, false, false, false, false, false, false, false, false, false, false, false, false, false, false, false, false, false, false, false, false, false, false, false, false, false, false, false, false, false, false, false, false, false, false, false, false, false, false, false] rfl rfl (take_ofW HT_.out HW_.out (by kernel_rfl)) (fun _ _ _ h => h) (Or.inl ⟨by rfl, ?_⟩) hHeld ?_ ?_
                                 rotate_left
                                 ·rintro w' ⟨s0, s1, s2, s3, s4, s5, s6, s7⟩
                                  go_simp
                                  with_reducible rfl
                                 rotate_left
                                 ·simp only [Act.put, sT, sZ, sS, i64_w, i32_w]
                                  rfl
                                 refine take_ (i := 7) (N := some 130) (v := ?_) (a' := ?_) #[true, true, true, true, true, true, true, true, false, false, false, false, false, false, false, false, false, false, false, false, false, false, false, false, false, false, false, false, false, false, false, false, false, false, false, false, false, false, false, false, false, false, false, false, false, false] rfl rfl (take_ofW HT_.out HW_.out (by kernel_rfl)) (fun _ _ _ h => h) (Or.inl ⟨by rfl, ?_⟩) hHeld ?_ ?_
                                 rotate_left
                                 ·rintro w' ⟨s0, s1, s2, s3, s4, s5, s6, s7⟩
                                  go_simp
                                  with_reducible rfl
                                 rotate_left
                                 ·simp only [Act.put, sT, sZ, sS, i64_w, i32_w]
                                  rfl
                                 refine pure_ (i := 8) (N := some 131) (v := ?_) (a' := ?_) #[true, true, true, true, true, true, true, true, true, false, false, false, false, false, false, false, false, false, false, false, false, false, false, false, false, false, false, false, false, false, false, false, false, false, false, false, false, false, false, false, false, false, false, false, false, false] rfl rfl (any_of HT_.out (by kernel_rfl)) (fun _ _ _ h => h) (Or.inl ⟨by rfl, ?_⟩) ?_ ?_
                                 rotate_left
                                 ·intro w'
                                  go_simp
                                  with_reducible rfl
                                 rotate_left
                                 ·simp only [Act.put, sT, sZ, sS, i64_w, i32_w]
                                  rfl
                                 refine pure_ (i := 9) (N := some 132) (v := ?_) (a' := ?_) #[true, true, true, true, true, true, true, true, true, true, false, false, false, false, false, false, false, false, false, false, false, false, false, false, false, false, false, false, false, false, false, false, false, false, false, false, false, false, false, false, false, false, false, false, false, false] rfl rfl (any_of HT_.out (by kernel_rfl)) (fun _ _ _ h => h) (Or.inl ⟨by rfl, ?_⟩) ?_ ?_
                                 rotate_left
                                 ·intro w'
                                  go_simp
                                  with_reducible rfl
                                 rotate_left
                                 ·simp only [Act.put, sT, sZ, sS, i64_w, i32_w]
                                  rfl
                                 refine pure_ (i := 10) (N := some 133) (v := ?_) (a' := ?_) #[true, true, true, true, true, true, true, true, true, true, true, false, false, false, false, false, false, false, false, false, false, false, false, false, false, false, false, false, false, false, false, false, false, false, false, false, false, false, false, false, false, false, false, false, false, false] rfl rfl (any_of HT_.out (by kernel_rfl)) (fun _ _ _ h => h) (Or.inl ⟨by rfl, ?_⟩) ?_ ?_
                                 rotate_left
                                 ·intro w'
                                  go_simp
                                  with_reducible rfl
                                 rotate_left
                                 ·simp only [Act.put, sT, sZ, sS, i64_w, i32_w]
                                  rfl
                                 refine pure_ (i := 11) (N := some 134) (v := ?_) (a' := ?_) #[true, true, true, true, true, true, true, true, true, true, true, true, false, false, false, false, false, false, false, false, false, false, false, false, false, false, false, false, false, false, false, false, false, false, false, false, false, false, false, false, false, false, false, false, false, false] rfl rfl (any_of HT_.out (by kernel_rfl)) (fun _ _ _ h => h) (Or.inl ⟨by rfl, ?_⟩) ?_ ?_
                                 rotate_left
                                 ·intro w'
                                  go_simp
                                  with_reducible rfl
                                 rotate_left
                                 ·simp only [Act.put, sT, sZ, sS, i64_w, i32_w]
                                  rfl
                                 refine pure_ (i := 12) (N := some 135) (v := ?_) (a' := ?_) #[true, true, true, true, true, true, true, true, true, true, true, true, true, false, false, false, false, false, false, false, false, false, false, false, false, false, false, false, false, false, false, false, false, false, false, false, false, false, false, false, false, false, false, false, false, false] rfl rfl (any_of HT_.out (by kernel_rfl)) (fun _ _ _ h => h) (Or.inl ⟨by rfl, ?_⟩) ?_ ?_
                                 rotate_left
                                 ·intro w'
                                  go_simp
                                  with_reducible rfl
                                 rotate_left
                                 ·simp only [Act.put, sT, sZ, sS, i64_w, i32_w]
                                  rfl
                                 refine pure_ (i := 15) (N := some 138) (v := ?_) (a' := ?_) #[true, true, true, true, true, true, true, true, true, true, true, true, true, false, false, true, false, false, false, false, false, false, false, false, false, false, false, false, false, false, false, false, false, false, false, false, false, false, false, false, false, false, false, false, false, false] rfl rfl (any_of HT_.out (by kernel_rfl)) (fun _ _ _ h => h) (Or.inl ⟨by rfl, ?_⟩) ?_ ?_
                                 rotate_left
                                 ·intro w'
                                  go_simp
                                  with_reducible rfl
                                 rotate_left
                                 ·simp only [Act.put, sT, sZ, sS, i64_w, i32_w]
                                  rfl
                                 refine pure_ (i := 16) (N := some 139) (v := ?_) (a' := ?_) #[true, true, true, true, true, true, true, true, true, true, true, true, true, false, false, true, true, false, false, false, false, false, false, false, false, false, false, false, false, false, false, false, false, false, false, false, false, false, false, false, false, false, false, false, false, false] rfl rfl (any_of HT_.out (by kernel_rfl)) (fun _ _ _ h => h) (Or.inl ⟨by rfl, ?_⟩) ?_ ?_
                                 rotate_left
                                 ·intro w'
                                  go_simp
                                  with_reducible rfl
                                 rotate_left
                                 ·simp only [Act.put, sT, sZ, sS, i64_w, i32_w]
                                  rfl
                                 refine pure_ (i := 17) (N := some 140) (v := ?_) (a' := ?_) #[true, true, true, true, true, true, true, true, true, true, true, true, true, false, false, true, true, true, false, false, false, false, false, false, false, false, false, false, false, false, false, false, false, false, false, false, false, false, false, false, false, false, false, false, false, false] rfl rfl (any_of HT_.out (by kernel_rfl)) (fun _ _ _ h => h) (Or.inl ⟨by rfl, ?_⟩) ?_ ?_
                                 rotate_left
                                 ·intro w'
                                  go_simp
                                  with_reducible rfl
                                 rotate_left
                                 ·simp only [Act.put, sT, sZ, sS, i64_w, i32_w]
                                  rfl
                                 refine take_ (i := 13) (N := some 136) (v := ?_) (a' := ?_) #[true, true, true, true, true, true, true, true, true, true, true, true, true, true, false, true, true, true, false, false, false, false, false, false, false, false, false, false, false, false, false, false, false, false, false, false, false, false, false, false, false, false, false, false, false, false] rfl rfl (take_ofW HT_.out HW_.out (by kernel_rfl)) (fun _ _ _ h => h) (Or.inl ⟨by rfl, ?_⟩) hHeld ?_ ?_
                                 rotate_left
                                 ·rintro w' ⟨s0, s1, s2, s3, s4, s5, s6, s7⟩
                                  go_simp
                                  with_reducible rfl
                                 rotate_left
                                 ·simp only [Act.put, sT, sZ, sS, i64_w, i32_w]
                                  rfl
                                 refine take_ (i := 18) (N := some 141) (v := ?_) (a' := ?_) #[true, true, true, true, true, true, true, true, true, true, true, true, true, true, false, true, true, true, true, false, false, false, false, false, false, false, false, false, false, false, false, false, false, false, false, false, false, false, false, false, false, false, false, false, false, false] rfl rfl (take_ofW HT_.out HW_.out (by kernel_rfl)) (fun _ _ _ h => h) (Or.inl ⟨by rfl, ?_⟩) hHeld ?_ ?_
                                 rotate_left
                                 ·rintro w' ⟨s0, s1, s2, s3, s4, s5, s6, s7⟩
                                  go_simp
                                  with_reducible rfl
                                 rotate_left
                                 ·simp only [Act.put, sT, sZ, sS, i64_w, i32_w]
                                  rfl
                                 refine one_ (i := 14) (N := some 137) #[true, true, true, true, true, true, true, true, true, true, true, true, true, true, true, true, true, true, true, false, false, false, false, false, false, false, false, false, false, false, false, false, false, false, false, false, false, false, false, false, false, false, false, false, false, false] rfl rfl (one_of HT_.out (by kernel_rfl)) (by decide) (fun K hK => ?_)
                                 refine goes_ Tryd.func17 (by kernel_rfl) rfl #[.int .i64 (rd t162 x10_3)] (by rfl) rfl rfl (by (try simp only [List.map_toArray, List.map_cons, List.map_nil]); first | done | rfl|(simp only [List.length_drop, List.length_take]; rfl)) ?_
                                 with_reducible refine (cohousinglaw02_size.calls (rd t162 x10_3) t187 _ A55.out).mono ?_
                                 rintro e w64 ⟨rfl, hb⟩
                                 have HS2_ := (hb.cell (World.block_lt_of_cell? _ _ (hHeld.2.2.1))).trans (hHeld.2.2.1)
                                 have HS3_ := (hb.cell (World.block_lt_of_cell? _ _ (hHeld.2.2.2.1))).trans (hHeld.2.2.2.1)
                                 have HS6_ := (hb.cell (World.block_lt_of_cell? _ _ (hHeld.2.2.2.2.2.2.1))).trans (hHeld.2.2.2.2.2.2.1)
                                 have HS7_ := (hb.cell (World.block_lt_of_cell? _ _ (hHeld.2.2.2.2.2.2.2))).trans (hHeld.2.2.2.2.2.2.2)
                                 refine ⟨_, rfl, ?_⟩
                                 have n0_ := Aside0.mk (Kd.R_below (by (with_reducible repeat (first|apply Kd.R_alloc|apply Kd.R_drewN|apply Kd.R_drew)); exact HO_6.out) hb)
                                 have n1_ := Aside0.mk (bT (by repeat (first|(with_reducible first|exact HB.out|apply bA|apply bN|apply b1)|exact HB.out)) hb)
                                 clear HO_6
                                 clear HB
                                 have HO_6 := n0_
                                 have HB := n1_
                                 clear n0_ n1_
                                 (try clear hb)
                                 (try clear hb2)
                                 (try clear hk)
                                 (try clear hi)
                                 refine hK.out _ _ ⟨((HB.out.cell (World.block_lt_of_cell? w _ hw184_0)).trans hw184_0), ((HB.out.cell (World.block_lt_of_cell? w _ hw185_0)).trans hw185_0), HS2_, HS3_, ((HB.out.cell (World.block_lt_of_cell? w _ hw190_0)).trans hw190_0), ((HB.out.cell (World.block_lt_of_cell? w _ hw191_0)).trans hw191_0), HS6_, HS7_⟩ (fun hHeld => ?_)
                                 clear hK K
                                 refine norm_ (a' := ?_) ?_ ?_
                                 rotate_left
                                 ·show Act.put _ (some 137) _ = _
                                  simp only [Act.put, sT, sZ, sS, i64_w, i32_w]
                                  rfl
                                 refine one_ (i := 19) (N := some 142) #[true, true, true, true, true, true, true, true, true, true, true, true, true, true, true, true, true, true, true, true, false, false, false, false, false, false, false, false, false, false, false, false, false, false, false, false, false, false, false, false, false, false, false, false, false, false] rfl rfl (one_of HT_.out (by kernel_rfl)) (by decide) (fun K hK => ?_)
                                 refine goes_ Tryd.func17 (by kernel_rfl) rfl #[.int .i64 (rd t162 x12_6)] (by rfl) rfl rfl (by (try simp only [List.map_toArray, List.map_cons, List.map_nil]); first | done | rfl|(simp only [List.length_drop, List.length_take]; rfl)) ?_
                                 with_reducible refine (cohousinglaw02_size.calls (rd t162 x12_6) t189 _ A57.out).mono ?_
                                 rintro e w65 ⟨rfl, hb⟩
                                 have HS2_ := (hb.cell (World.block_lt_of_cell? _ _ (hHeld.2.2.1))).trans (hHeld.2.2.1)
                                 have HS3_ := (hb.cell (World.block_lt_of_cell? _ _ (hHeld.2.2.2.1))).trans (hHeld.2.2.2.1)
                                 have HS6_ := (hb.cell (World.block_lt_of_cell? _ _ (hHeld.2.2.2.2.2.2.1))).trans (hHeld.2.2.2.2.2.2.1)
                                 have HS7_ := (hb.cell (World.block_lt_of_cell? _ _ (hHeld.2.2.2.2.2.2.2))).trans (hHeld.2.2.2.2.2.2.2)
                                 refine ⟨_, rfl, ?_⟩
                                 have n0_ := Aside0.mk (Kd.R_below (by (with_reducible repeat (first|apply Kd.R_alloc|apply Kd.R_drewN|apply Kd.R_drew)); exact HO_6.out) hb)
                                 have n1_ := Aside0.mk (bT (by repeat (first|(with_reducible first|exact HB.out|apply bA|apply bN|apply b1)|exact HB.out)) hb)
                                 clear HO_6
                                 clear HB
                                 have HO_6 := n0_
                                 have HB := n1_
                                 clear n0_ n1_
                                 (try clear hb)
                                 (try clear hb2)
                                 (try clear hk)
                                 (try clear hi)
                                 refine hK.out _ _ ⟨((HB.out.cell (World.block_lt_of_cell? w _ hw184_0)).trans hw184_0), ((HB.out.cell (World.block_lt_of_cell? w _ hw185_0)).trans hw185_0), HS2_, HS3_, ((HB.out.cell (World.block_lt_of_cell? w _ hw190_0)).trans hw190_0), ((HB.out.cell (World.block_lt_of_cell? w _ hw191_0)).trans hw191_0), HS6_, HS7_⟩ (fun hHeld => ?_)
                                 clear hK K
                                 refine norm_ (a' := ?_) ?_ ?_
                                 rotate_left
                                 ·show Act.put _ (some 142) _ = _
                                  simp only [Act.put, sT, sZ, sS, i64_w, i32_w]
                                  rfl
                                 refine pure_ (i := 20) (N := some 143) (v := ?_) (a' := ?_) #[true, true, true, true, true, true, true, true, true, true, true, true, true, true, true, true, true, true, true, true, true, false, false, false, false, false, false, false, false, false, false, false, false, false, false, false, false, false, false, false, false, false, false, false, false, false] rfl rfl (any_of HT_.out (by kernel_rfl)) (fun _ _ _ h => h) (Or.inl ⟨by rfl, ?_⟩) ?_ ?_
                                 rotate_left
                                 ·intro w'
                                  go_simp
                                  with_reducible rfl
                                 rotate_left
                                 ·simp only [Act.put, sT, sZ, sS, i64_w, i32_w]
                                  rfl
                                 refine pure_ (i := 21) (N := some 144) (v := ?_) (a' := ?_) #[true, true, true, true, true, true, true, true, true, true, true, true, true, true, true, true, true, true, true, true, true, true, false, false, false, false, false, false, false, false, false, false, false, false, false, false, false, false, false, false, false, false, false, false, false, false] rfl rfl (any_of HT_.out (by kernel_rfl)) (fun _ _ _ h => h) (Or.inl ⟨by rfl, ?_⟩) ?_ ?_
                                 rotate_left
                                 ·intro w'
                                  go_simp
                                  with_reducible rfl
                                 rotate_left
                                 ·simp only [Act.put, sT, sZ, sS, i64_w, i32_w]
                                  rfl
                                 refine pure_ (i := 22) (N := some 145) (v := ?_) (a' := ?_) #[true, true, true, true, true, true, true, true, true, true, true, true, true, true, true, true, true, true, true, true, true, true, true, false, false, false, false, false, false, false, false, false, false, false, false, false, false, false, false, false, false, false, false, false, false, false] rfl rfl (any_of HT_.out (by kernel_rfl)) (fun _ _ _ h => h) (Or.inl ⟨by rfl, ?_⟩) ?_ ?_
                                 rotate_left
                                 ·intro w'
                                  go_simp
                                  with_reducible rfl
                                 rotate_left
                                 ·simp only [Act.put, sT, sZ, sS, i64_w, i32_w]
                                  rfl
                                 refine pure_ (i := 23) (N := some 146) (v := ?_) (a' := ?_) #[true, true, true, true, true, true, true, true, true, true, true, true, true, true, true, true, true, true, true, true, true, true, true, true, false, false, false, false, false, false, false, false, false, false, false, false, false, false, false, false, false, false, false, false, false, false] rfl rfl (any_of HT_.out (by kernel_rfl)) (fun _ _ _ h => h) (Or.inl ⟨by rfl, ?_⟩) ?_ ?_
                                 rotate_left
                                 ·intro w'
                                  go_simp
                                  with_reducible rfl
                                 rotate_left
                                 ·simp only [Act.put, sT, sZ, sS, i64_w, i32_w]
                                  rfl
                                 refine pure_ (i := 24) (N := some 147) (v := ?_) (a' := ?_) #[true, true, true, true, true, true, true, true, true, true, true, true, true, true, true, true, true, true, true, true, true, true, true, true, true, false, false, false, false, false, false, false, false, false, false, false, false, false, false, false, false, false, false, false, false, false] rfl rfl (any_of HT_.out (by kernel_rfl)) (fun _ _ _ h => h) (Or.inl ⟨by rfl, ?_⟩) ?_ ?_
                                 rotate_left
                                 ·intro w'
                                  go_simp
                                  with_reducible rfl
                                 rotate_left
                                 ·simp only [Act.put, sT, sZ, sS, i64_w, i32_w]
                                  rfl
                                 refine pure_ (i := 25) (N := some 148) (v := ?_) (a' := ?_) #[true, true, true, true, true, true, true, true, true, true, true, true, true, true, true, true, true, true, true, true, true, true, true, true, true, true, false, false, false, false, false, false, false, false, false, false, false, false, false, false, false, false, false, false, false, false] rfl rfl (any_of HT_.out (by kernel_rfl)) (fun _ _ _ h => h) (Or.inl ⟨by rfl, ?_⟩) ?_ ?_
                                 rotate_left
                                 ·intro w'
                                  go_simp
                                  with_reducible rfl
                                 rotate_left
                                 ·simp only [Act.put, sT, sZ, sS, i64_w, i32_w]
                                  rfl
                                 refine pure_ (i := 27) (N := some 150) (v := ?_) (a' := ?_) #[true, true, true, true, true, true, true, true, true, true, true, true, true, true, true, true, true, true, true, true, true, true, true, true, true, true, false, true, false, false, false, false, false, false, false, false, false, false, false, false, false, false, false, false, false, false] rfl rfl (any_of HT_.out (by kernel_rfl)) (fun _ _ _ h => h) (Or.inl ⟨by rfl, ?_⟩) ?_ ?_
                                 rotate_left
                                 ·intro w'
                                  go_simp
                                  with_reducible rfl
                                 rotate_left
                                 ·simp only [Act.put, sT, sZ, sS, i64_w, i32_w]
                                  rfl
                                 refine pure_ (i := 28) (N := some 151) (v := ?_) (a' := ?_) #[true, true, true, true, true, true, true, true, true, true, true, true, true, true, true, true, true, true, true, true, true, true, true, true, true, true, false, true, true, false, false, false, false, false, false, false, false, false, false, false, false, false, false, false, false, false] rfl rfl (any_of HT_.out (by kernel_rfl)) (fun _ _ _ h => h) (Or.inl ⟨by rfl, ?_⟩) ?_ ?_
                                 rotate_left
                                 ·intro w'
                                  go_simp
                                  with_reducible rfl
                                 rotate_left
                                 ·simp only [Act.put, sT, sZ, sS, i64_w, i32_w]
                                  rfl
                                 refine pure_ (i := 29) (N := some 152) (v := ?_) (a' := ?_) #[true, true, true, true, true, true, true, true, true, true, true, true, true, true, true, true, true, true, true, true, true, true, true, true, true, true, false, true, true, true, false, false, false, false, false, false, false, false, false, false, false, false, false, false, false, false] rfl rfl (any_of HT_.out (by kernel_rfl)) (fun _ _ _ h => h) (Or.inl ⟨by rfl, ?_⟩) ?_ ?_
                                 rotate_left
                                 ·intro w'
                                  go_simp
                                  with_reducible rfl
                                 rotate_left
                                 ·simp only [Act.put, sT, sZ, sS, i64_w, i32_w]
                                  rfl
                                 refine take_ (i := 26) (N := some 149) (v := ?_) (a' := ?_) #[true, true, true, true, true, true, true, true, true, true, true, true, true, true, true, true, true, true, true, true, true, true, true, true, true, true, true, true, true, true, false, false, false, false, false, false, false, false, false, false, false, false, false, false, false, false] rfl rfl (take_ofW HT_.out HW_.out (by kernel_rfl)) (fun _ _ _ h => h) (Or.inl ⟨by rfl, ?_⟩) hHeld ?_ ?_
                                 rotate_left
                                 ·rintro w' ⟨s0, s1, s2, s3, s4, s5, s6, s7⟩
                                  go_simp
                                  with_reducible rfl
                                 rotate_left
                                 ·simp only [Act.put, sT, sZ, sS, i64_w, i32_w]
                                  rfl
                                 refine take_ (i := 30) (N := some 153) (v := ?_) (a' := ?_) #[true, true, true, true, true, true, true, true, true, true, true, true, true, true, true, true, true, true, true, true, true, true, true, true, true, true, true, true, true, true, true, false, false, false, false, false, false, false, false, false, false, false, false, false, false, false] rfl rfl (take_ofW HT_.out HW_.out (by kernel_rfl)) (fun _ _ _ h => h) (Or.inl ⟨by rfl, ?_⟩) hHeld ?_ ?_
                                 rotate_left
                                 ·rintro w' ⟨s0, s1, s2, s3, s4, s5, s6, s7⟩
                                  go_simp
                                  with_reducible rfl
                                 rotate_left
                                 ·simp only [Act.put, sT, sZ, sS, i64_w, i32_w]
                                  rfl
                                 refine pure_ (i := 31) (N := some 154) (v := ?_) (a' := ?_) #[true, true, true, true, true, true, true, true, true, true, true, true, true, true, true, true, true, true, true, true, true, true, true, true, true, true, true, true, true, true, true, true, false, false, false, false, false, false, false, false, false, false, false, false, false, false] rfl rfl (any_of HT_.out (by kernel_rfl)) (fun _ _ _ h => h) (Or.inl ⟨by rfl, ?_⟩) ?_ ?_
                                 rotate_left
                                 ·intro w'
                                  go_simp
                                  with_reducible rfl
                                 rotate_left
                                 ·simp only [Act.put, sT, sZ, sS, i64_w, i32_w]
                                  rfl
                                 refine pure_ (i := 32) (N := some 155) (v := ?_) (a' := ?_) #[true, true, true, true, true, true, true, true, true, true, true, true, true, true, true, true, true, true, true, true, true, true, true, true, true, true, true, true, true, true, true, true, true, false, false, false, false, false, false, false, false, false, false, false, false, false] rfl rfl (any_of HT_.out (by kernel_rfl)) (fun _ _ _ h => h) (Or.inl ⟨by rfl, ?_⟩) ?_ ?_
                                 rotate_left
                                 ·intro w'
                                  go_simp
                                  with_reducible rfl
                                 rotate_left
                                 ·simp only [Act.put, sT, sZ, sS, i64_w, i32_w]
                                  rfl
                                 refine pure_ (i := 33) (N := some 156) (v := ?_) (a' := ?_) #[true, true, true, true, true, true, true, true, true, true, true, true, true, true, true, true, true, true, true, true, true, true, true, true, true, true, true, true, true, true, true, true, true, true, false, false, false, false, false, false, false, false, false, false, false, false] rfl rfl (any_of HT_.out (by kernel_rfl)) (fun _ _ _ h => h) (Or.inl ⟨by rfl, ?_⟩) ?_ ?_
                                 rotate_left
                                 ·intro w'
                                  go_simp
                                  with_reducible rfl
                                 rotate_left
                                 ·simp only [Act.put, sT, sZ, sS, i64_w, i32_w]
                                  rfl
                                 refine pure_ (i := 34) (N := some 157) (v := ?_) (a' := ?_) #[true, true, true, true, true, true, true, true, true, true, true, true, true, true, true, true, true, true, true, true, true, true, true, true, true, true, true, true, true, true, true, true, true, true, true, false, false, false, false, false, false, false, false, false, false, false] rfl rfl (any_of HT_.out (by kernel_rfl)) (fun _ _ _ h => h) (Or.inl ⟨by rfl, ?_⟩) ?_ ?_
                                 rotate_left
                                 ·intro w'
                                  go_simp
                                  with_reducible rfl
                                 rotate_left
                                 ·simp only [Act.put, sT, sZ, sS, i64_w, i32_w]
                                  rfl
                                 refine pure_ (i := 35) (N := some 158) (v := ?_) (a' := ?_) #[true, true, true, true, true, true, true, true, true, true, true, true, true, true, true, true, true, true, true, true, true, true, true, true, true, true, true, true, true, true, true, true, true, true, true, true, false, false, false, false, false, false, false, false, false, false] rfl rfl (any_of HT_.out (by kernel_rfl)) (fun _ _ _ h => h) (Or.inl ⟨by rfl, ?_⟩) ?_ ?_
                                 rotate_left
                                 ·intro w'
                                  go_simp
                                  with_reducible rfl
                                 rotate_left
                                 ·simp only [Act.put, sT, sZ, sS, i64_w, i32_w]
                                  rfl
                                 refine pure_ (i := 38) (N := some 161) (v := ?_) (a' := ?_) #[true, true, true, true, true, true, true, true, true, true, true, true, true, true, true, true, true, true, true, true, true, true, true, true, true, true, true, true, true, true, true, true, true, true, true, true, false, false, true, false, false, false, false, false, false, false] rfl rfl (any_of HT_.out (by kernel_rfl)) (fun _ _ _ h => h) (Or.inl ⟨by rfl, ?_⟩) ?_ ?_
                                 rotate_left
                                 ·intro w'
                                  go_simp
                                  with_reducible rfl
                                 rotate_left
                                 ·simp only [Act.put, sT, sZ, sS, i64_w, i32_w]
                                  rfl
                                 refine pure_ (i := 39) (N := some 162) (v := ?_) (a' := ?_) #[true, true, true, true, true, true, true, true, true, true, true, true, true, true, true, true, true, true, true, true, true, true, true, true, true, true, true, true, true, true, true, true, true, true, true, true, false, false, true, true, false, false, false, false, false, false] rfl rfl (any_of HT_.out (by kernel_rfl)) (fun _ _ _ h => h) (Or.inl ⟨by rfl, ?_⟩) ?_ ?_
                                 rotate_left
                                 ·intro w'
                                  go_simp
                                  with_reducible rfl
                                 rotate_left
                                 ·simp only [Act.put, sT, sZ, sS, i64_w, i32_w]
                                  rfl
                                 refine pure_ (i := 40) (N := some 163) (v := ?_) (a' := ?_) #[true, true, true, true, true, true, true, true, true, true, true, true, true, true, true, true, true, true, true, true, true, true, true, true, true, true, true, true, true, true, true, true, true, true, true, true, false, false, true, true, true, false, false, false, false, false] rfl rfl (any_of HT_.out (by kernel_rfl)) (fun _ _ _ h => h) (Or.inl ⟨by rfl, ?_⟩) ?_ ?_
                                 rotate_left
                                 ·intro w'
                                  go_simp
                                  with_reducible rfl
                                 rotate_left
                                 ·simp only [Act.put, sT, sZ, sS, i64_w, i32_w]
                                  rfl
                                 refine take_ (i := 36) (N := some 159) (v := ?_) (a' := ?_) #[true, true, true, true, true, true, true, true, true, true, true, true, true, true, true, true, true, true, true, true, true, true, true, true, true, true, true, true, true, true, true, true, true, true, true, true, true, false, true, true, true, false, false, false, false, false] rfl rfl (take_ofW HT_.out HW_.out (by kernel_rfl)) (fun _ _ _ h => h) (Or.inl ⟨by rfl, ?_⟩) hHeld ?_ ?_
                                 rotate_left
                                 ·rintro w' ⟨s0, s1, s2, s3, s4, s5, s6, s7⟩
                                  go_simp
                                  with_reducible rfl
                                 rotate_left
                                 ·simp only [Act.put, sT, sZ, sS, i64_w, i32_w]
                                  rfl
                                 refine take_ (i := 41) (N := some 164) (v := ?_) (a' := ?_) #[true, true, true, true, true, true, true, true, true, true, true, true, true, true, true, true, true, true, true, true, true, true, true, true, true, true, true, true, true, true, true, true, true, true, true, true, true, false, true, true, true, true, false, false, false, false] rfl rfl (take_ofW HT_.out HW_.out (by kernel_rfl)) (fun _ _ _ h => h) (Or.inl ⟨by rfl, ?_⟩) hHeld ?_ ?_
                                 rotate_left
                                 ·rintro w' ⟨s0, s1, s2, s3, s4, s5, s6, s7⟩
                                  go_simp
                                  with_reducible rfl
                                 rotate_left
                                 ·simp only [Act.put, sT, sZ, sS, i64_w, i32_w]
                                  rfl
                                 refine one_ (i := 37) (N := some 160) #[true, true, true, true, true, true, true, true, true, true, true, true, true, true, true, true, true, true, true, true, true, true, true, true, true, true, true, true, true, true, true, true, true, true, true, true, true, true, true, true, true, true, false, false, false, false] rfl rfl (one_of HT_.out (by kernel_rfl)) (by decide) (fun K hK => ?_)
                                 refine goes_ Tryd.func17 (by kernel_rfl) rfl #[.int .i64 (rd t162 x12_6)] (by rfl) rfl rfl (by (try simp only [List.map_toArray, List.map_cons, List.map_nil]); first | done | rfl|(simp only [List.length_drop, List.length_take]; rfl)) ?_
                                 with_reducible refine (cohousinglaw02_size.calls (rd t162 x12_6) t193 _ A60.out).mono ?_
                                 rintro e w66 ⟨rfl, hb⟩
                                 have HS2_ := (hb.cell (World.block_lt_of_cell? _ _ (hHeld.2.2.1))).trans (hHeld.2.2.1)
                                 have HS3_ := (hb.cell (World.block_lt_of_cell? _ _ (hHeld.2.2.2.1))).trans (hHeld.2.2.2.1)
                                 have HS6_ := (hb.cell (World.block_lt_of_cell? _ _ (hHeld.2.2.2.2.2.2.1))).trans (hHeld.2.2.2.2.2.2.1)
                                 have HS7_ := (hb.cell (World.block_lt_of_cell? _ _ (hHeld.2.2.2.2.2.2.2))).trans (hHeld.2.2.2.2.2.2.2)
                                 refine ⟨_, rfl, ?_⟩
                                 have n0_ := Aside0.mk (Kd.R_below (by (with_reducible repeat (first|apply Kd.R_alloc|apply Kd.R_drewN|apply Kd.R_drew)); exact HO_6.out) hb)
                                 have n1_ := Aside0.mk (bT (by repeat (first|(with_reducible first|exact HB.out|apply bA|apply bN|apply b1)|exact HB.out)) hb)
                                 clear HO_6
                                 clear HB
                                 have HO_6 := n0_
                                 have HB := n1_
                                 clear n0_ n1_
                                 (try clear hb)
                                 (try clear hb2)
                                 (try clear hk)
                                 (try clear hi)
                                 refine hK.out _ _ ⟨((HB.out.cell (World.block_lt_of_cell? w _ hw184_0)).trans hw184_0), ((HB.out.cell (World.block_lt_of_cell? w _ hw185_0)).trans hw185_0), HS2_, HS3_, ((HB.out.cell (World.block_lt_of_cell? w _ hw190_0)).trans hw190_0), ((HB.out.cell (World.block_lt_of_cell? w _ hw191_0)).trans hw191_0), HS6_, HS7_⟩ (fun hHeld => ?_)
                                 clear hK K
                                 refine norm_ (a' := ?_) ?_ ?_
                                 rotate_left
                                 ·show Act.put _ (some 160) _ = _
                                  simp only [Act.put, sT, sZ, sS, i64_w, i32_w]
                                  rfl
                                 refine one_ (i := 42) (N := some 165) #[true, true, true, true, true, true, true, true, true, true, true, true, true, true, true, true, true, true, true, true, true, true, true, true, true, true, true, true, true, true, true, true, true, true, true, true, true, true, true, true, true, true, true, false, false, false] rfl rfl (one_of HT_.out (by kernel_rfl)) (by decide) (fun K hK => ?_)
                                 refine goes_ Tryd.func17 (by kernel_rfl) rfl #[.int .i64 (rd t162 x10_3)] (by rfl) rfl rfl (by (try simp only [List.map_toArray, List.map_cons, List.map_nil]); first | done | rfl|(simp only [List.length_drop, List.length_take]; rfl)) ?_
                                 with_reducible refine (cohousinglaw02_size.calls (rd t162 x10_3) t195 _ A61.out).mono ?_
                                 rintro e w67 ⟨rfl, hb⟩
                                 have HS2_ := (hb.cell (World.block_lt_of_cell? _ _ (hHeld.2.2.1))).trans (hHeld.2.2.1)
                                 have HS3_ := (hb.cell (World.block_lt_of_cell? _ _ (hHeld.2.2.2.1))).trans (hHeld.2.2.2.1)
                                 have HS6_ := (hb.cell (World.block_lt_of_cell? _ _ (hHeld.2.2.2.2.2.2.1))).trans (hHeld.2.2.2.2.2.2.1)
                                 have HS7_ := (hb.cell (World.block_lt_of_cell? _ _ (hHeld.2.2.2.2.2.2.2))).trans (hHeld.2.2.2.2.2.2.2)
                                 refine ⟨_, rfl, ?_⟩
                                 have n0_ := Aside0.mk (Kd.R_below (by (with_reducible repeat (first|apply Kd.R_alloc|apply Kd.R_drewN|apply Kd.R_drew)); exact HO_6.out) hb)
                                 have n1_ := Aside0.mk (bT (by repeat (first|(with_reducible first|exact HB.out|apply bA|apply bN|apply b1)|exact HB.out)) hb)
                                 clear HO_6
                                 clear HB
                                 have HO_6 := n0_
                                 have HB := n1_
                                 clear n0_ n1_
                                 (try clear hb)
                                 (try clear hb2)
                                 (try clear hk)
                                 (try clear hi)
                                 refine hK.out _ _ ⟨((HB.out.cell (World.block_lt_of_cell? w _ hw184_0)).trans hw184_0), ((HB.out.cell (World.block_lt_of_cell? w _ hw185_0)).trans hw185_0), HS2_, HS3_, ((HB.out.cell (World.block_lt_of_cell? w _ hw190_0)).trans hw190_0), ((HB.out.cell (World.block_lt_of_cell? w _ hw191_0)).trans hw191_0), HS6_, HS7_⟩ (fun hHeld => ?_)
                                 clear hK K
                                 refine norm_ (a' := ?_) ?_ ?_
                                 rotate_left
                                 ·show Act.put _ (some 165) _ = _
                                  simp only [Act.put, sT, sZ, sS, i64_w, i32_w]
                                  rfl
                                 refine pure_ (i := 43) (N := some 166) (v := ?_) (a' := ?_) #[true, true, true, true, true, true, true, true, true, true, true, true, true, true, true, true, true, true, true, true, true, true, true, true, true, true, true, true, true, true, true, true, true, true, true, true, true, true, true, true, true, true, true, true, false, false] rfl rfl (any_of HT_.out (by kernel_rfl)) (fun _ _ _ h => h) (Or.inl ⟨by rfl, ?_⟩) ?_ ?_
                                 rotate_left
                                 ·intro w'
                                  go_simp
                                  with_reducible rfl
                                 rotate_left
                                 ·simp only [Act.put, sT, sZ, sS, i64_w, i32_w]
                                  rfl
                                 refine pure_ (i := 44) (N := some 167) (v := ?_) (a' := ?_) #[true, true, true, true, true, true, true, true, true, true, true, true, true, true, true, true, true, true, true, true, true, true, true, true, true, true, true, true, true, true, true, true, true, true, true, true, true, true, true, true, true, true, true, true, true, false] rfl rfl (any_of HT_.out (by kernel_rfl)) (fun _ _ _ h => h) (Or.inl ⟨by rfl, ?_⟩) ?_ ?_
                                 rotate_left
                                 ·intro w'
                                  go_simp
                                  with_reducible rfl
                                 rotate_left
                                 ·simp only [Act.put, sT, sZ, sS, i64_w, i32_w]
                                  rfl
                                 refine pure_ (i := 45) (N := some 168) (v := ?_) (a' := ?_) #[true, true, true, true, true, true, true, true, true, true, true, true, true, true, true, true, true, true, true, true, true, true, true, true, true, true, true, true, true, true, true, true, true, true, true, true, true, true, true, true, true, true, true, true, true, true] rfl rfl (any_of HT_.out (by kernel_rfl)) (fun _ _ _ h => h) (Or.inl ⟨by rfl, ?_⟩) ?_ ?_
                                 rotate_left
                                 ·intro w'
                                  go_simp
                                  with_reducible rfl
                                 rotate_left
                                 ·simp only [Act.put, sT, sZ, sS, i64_w, i32_w]
                                  rfl
                                 refine done_ (done_of HT_.out (by kernel_rfl)) ?_
                                 try go_wp2
                                 go_roundg k6
                                 case measure => have := HJ5.out; have := HJ15.out; have := HK3.out; have := HJ20.out; have := HJ43.out; have := HK6.out; omega
                                 case rel => exact ⟨(wrap64 (x12_6 + 1)), (by first | rfl|(simp; done)|(simp [*]; done)), H', ⟨by have := HJ5.out; have := HJ15.out; have := HK3.out; have := HJ20.out; have := HJ43.out; have := HK6.out; omega⟩, ⟨by (with_reducible repeat (first|apply Kd.R_alloc|apply Kd.R_drewN|apply Kd.R_drew)); exact HO_6.out⟩, ⟨by repeat (first|(with_reducible first|exact HB.out|apply bA|apply bN|apply b1)|exact HB.out)⟩⟩
                              ·rw [if_neg c59] at H
                               have c59b0 : decide ((rd l1 x10_3) < (rd l1 x12_6)) = false := dF c59
                               clear c59
                               as_aux_lemma =>
                                have H' := Aside0.mk H
                                clear H
                                try go_wp2
                                have n0_ := Aside0.mk (Kd.R_drew HO_6.out)
                                have n1_ := Aside0.mk (b1 HB.out)
                                clear HO_6
                                clear HB
                                have HO_6 := n0_
                                have HB := n1_
                                clear n0_ n1_
                                have p184 : 0 ≤ (x10_3 : Int) := oT (by first|(with_reducible assumption) | assumption)
                                have q184 : x10_3 < (l1.length : Int) := oT (by first|(with_reducible assumption) | assumption)
                                obtain ⟨ad184, e184, hx184_0⟩ := Kd.at_int HR1.out x10_3 p184 q184
                                have hw184_0 := hx184_0
                                obtain rfl : ad182 = ad184 := (by injection e184)
                                replace hx184_0 := (HB.out.cell (World.block_lt_of_cell? w _ hx184_0)).trans hx184_0
                                replace p184 := eq_true p184
                                replace q184 := eq_true q184
                                have p185 : 0 ≤ (x12_6 : Int) := oT (by first|(with_reducible assumption) | assumption)
                                have q185 : x12_6 < (l1.length : Int) := oT (by first|(with_reducible assumption) | assumption)
                                obtain ⟨ad185, e185, hx185_0⟩ := Kd.at_int HR1.out x12_6 p185 q185
                                have hw185_0 := hx185_0
                                obtain rfl : ad182 = ad185 := (by injection e185)
                                replace hx185_0 := (HB.out.cell (World.block_lt_of_cell? w _ hx185_0)).trans hx185_0
                                replace p185 := eq_true p185
                                replace q185 := eq_true q185
                                have p186 : 0 ≤ (x10_3 : Int) := oT (by first|(with_reducible assumption) | assumption)
                                have q186 : x10_3 < (t162.length : Int) := oT (by first|(with_reducible assumption) | assumption)
                                obtain ⟨ad186, e186, hx186_0⟩ := Kd.at_int (Kd.R_reads' HO_6.out).2.2 x10_3 p186 q186
                                obtain rfl : ad181 = ad186 := (by injection e186)
                                replace p186 := eq_true p186
                                replace q186 := eq_true q186
                                have p188 : 0 ≤ (x12_6 : Int) := oT (by first|(with_reducible assumption) | assumption)
                                have q188 : x12_6 < (t162.length : Int) := oT (by first|(with_reducible assumption) | assumption)
                                obtain ⟨ad188, e188, hx188_0⟩ := Kd.at_int (Kd.R_reads' HO_6.out).2.2 x12_6 p188 q188
                                obtain rfl : ad181 = ad188 := (by injection e188)
                                replace p188 := eq_true p188
                                replace q188 := eq_true q188
                                have p190 : 0 ≤ (x12_6 : Int) := oT (by first|(with_reducible assumption) | assumption)
                                have q190 : x12_6 < (l1.length : Int) := oT (by first|(with_reducible assumption) | assumption)
                                obtain ⟨ad190, e190, hx190_0⟩ := Kd.at_int HR1.out x12_6 p190 q190
                                have hw190_0 := hx190_0
                                obtain rfl : ad182 = ad190 := (by injection e190)
                                replace hx190_0 := (HB.out.cell (World.block_lt_of_cell? w _ hx190_0)).trans hx190_0
                                replace p190 := eq_true p190
                                replace q190 := eq_true q190
                                have p191 : 0 ≤ (x10_3 : Int) := oT (by first|(with_reducible assumption) | assumption)
                                have q191 : x10_3 < (l1.length : Int) := oT (by first|(with_reducible assumption) | assumption)
                                obtain ⟨ad191, e191, hx191_0⟩ := Kd.at_int HR1.out x10_3 p191 q191
                                have hw191_0 := hx191_0
                                obtain rfl : ad182 = ad191 := (by injection e191)
                                replace hx191_0 := (HB.out.cell (World.block_lt_of_cell? w _ hx191_0)).trans hx191_0
                                replace p191 := eq_true p191
                                replace q191 := eq_true q191
                                refine start_ (n := 46) (S := fun w' => w'.cell? (ad182.add (x10_3).toNat) = some (.int .i64 (rd l1 x10_3)) ∧ w'.cell? (ad182.add (x12_6).toNat) = some (.int .i64 (rd l1 x12_6)) ∧ w'.cell? (ad181.add (x10_3).toNat) = some (.int .i64 (rd t162 x10_3)) ∧ w'.cell? (ad181.add (x12_6).toNat) = some (.int .i64 (rd t162 x12_6)) ∧ w'.cell? (ad182.add (x12_6).toNat) = some (.int .i64 (rd l1 x12_6)) ∧ w'.cell? (ad182.add (x10_3).toNat) = some (.int .i64 (rd l1 x10_3))) (ds := []) #[false, false, false, false, false, false, false, false, false, false, false, false, false, false, false, false, false, false, false, false, false, false, false, false, false, false, false, false, false, false, false, false, false, false, false, false, false, false, false, false, false, false, false, false, false, false] (by kernel_rfl) rfl rfl ⟨((HB.out.cell (World.block_lt_of_cell? w _ hw184_0)).trans hw184_0), ((HB.out.cell (World.block_lt_of_cell? w _ hw185_0)).trans hw185_0), hx186_0, hx188_0, ((HB.out.cell (World.block_lt_of_cell? w _ hw190_0)).trans hw190_0), ((HB.out.cell (World.block_lt_of_cell? w _ hw191_0)).trans hw191_0)⟩ (fun hHeld => ?_); refine with_tabW cohousinglaw02_MoneyParts.tab20 cohousinglaw02_MoneyParts.bits20 (fun HT_ HW_ => ?_)
                                generalize wr.drew = w68 at HO_6 HB hx184_0 hx185_0 hx186_0 hx188_0 hx190_0 hx191_0 hHeld ⊢
                                refine pure_ (i := 0) (N := some 123) (v := ?_) (a' := ?_) #[true, false, false, false, false, false, false, false, false, false, false, false, false, false, false, false, false, false, false, false, false, false, false, false, false, false, false, false, false, false, false, false, false, false, false, false, false, false, false, false, false, false, false, false, false, false] rfl rfl (any_of HT_.out (by kernel_rfl)) (fun _ _ _ h => h) (Or.inl ⟨by rfl, ?_⟩) ?_ ?_
                                rotate_left
                                ·intro w'
                                 go_simp
                                 with_reducible rfl
                                rotate_left
                                ·simp only [Act.put, sT, sZ, sS, i64_w, i32_w]
                                 rfl
                                refine pure_ (i := 1) (N := some 124) (v := ?_) (a' := ?_) #[true, true, false, false, false, false, false, false, false, false, false, false, false, false, false, false, false, false, false, false, false, false, false, false, false, false, false, false, false, false, false, false, false, false, false, false, false, false, false, false, false, false, false, false, false, false] rfl rfl (any_of HT_.out (by kernel_rfl)) (fun _ _ _ h => h) (Or.inl ⟨by rfl, ?_⟩) ?_ ?_
                                rotate_left
                                ·intro w'
                                 go_simp
                                 with_reducible rfl
                                rotate_left
                                ·simp only [Act.put, sT, sZ, sS, i64_w, i32_w]
                                 rfl
                                refine pure_ (i := 2) (N := some 125) (v := ?_) (a' := ?_) #[true, true, true, false, false, false, false, false, false, false, false, false, false, false, false, false, false, false, false, false, false, false, false, false, false, false, false, false, false, false, false, false, false, false, false, false, false, false, false, false, false, false, false, false, false, false] rfl rfl (any_of HT_.out (by kernel_rfl)) (fun _ _ _ h => h) (Or.inl ⟨by rfl, ?_⟩) ?_ ?_
                                rotate_left
                                ·intro w'
                                 go_simp
                                 with_reducible rfl
                                rotate_left
                                ·simp only [Act.put, sT, sZ, sS, i64_w, i32_w]
                                 rfl
                                refine pure_ (i := 4) (N := some 127) (v := ?_) (a' := ?_) #[true, true, true, false, true, false, false, false, false, false, false, false, false, false, false, false, false, false, false, false, false, false, false, false, false, false, false, false, false, false, false, false, false, false, false, false, false, false, false, false, false, false, false, false, false, false] rfl rfl (any_of HT_.out (by kernel_rfl)) (fun _ _ _ h => h) (Or.inl ⟨by rfl, ?_⟩) ?_ ?_
                                rotate_left
                                ·intro w'
                                 go_simp
                                 with_reducible rfl
                                rotate_left
                                ·simp only [Act.put, sT, sZ, sS, i64_w, i32_w]
                                 rfl
                                refine pure_ (i := 5) (N := some 128) (v := ?_) (a' := ?_) #[true, true, true, false, true, true, false, false, false, false, false, false, false, false, false, false, false, false, false, false, false, false, false, false, false, false, false, false, false, false, false, false, false, false, false, false, false, false, false, false, false, false, false, false, false, false] rfl rfl (any_of HT_.out (by kernel_rfl)) (fun _ _ _ h => h) (Or.inl ⟨by rfl, ?_⟩) ?_ ?_
                                rotate_left
                                ·intro w'
                                 go_simp
                                 with_reducible rfl
                                rotate_left
                                ·simp only [Act.put, sT, sZ, sS, i64_w, i32_w]
                                 rfl
                                refine pure_ (i := 6) (N := some 129) (v := ?_) (a' := ?_) #[true, true, true, false, true, true, true, false, false, false, false, false, false, false, false, false, false, false, false, false, false, false, false, false, false, false, false, false, false, false, false, false, false, false, false, false, false, false, false, false, false, false, false, false, false, false] rfl rfl (any_of HT_.out (by kernel_rfl)) (fun _ _ _ h => h) (Or.inl ⟨by rfl, ?_⟩) ?_ ?_
                                rotate_left
                                ·intro w'
                                 go_simp
                                 with_reducible rfl
                                rotate_left
                                ·simp only [Act.put, sT, sZ, sS, i64_w, i32_w]
                                 rfl
                                refine take_ (i := 3) (N := some 126) (v := ?_) (a' := ?_) #[true, true, true, true, true, true, true, false, false, false, false, false, false, false, false, false, false, false, false, false, false, false, false, false, false, false, false, false, false, false, false, false, false, false, false, false, false, false, false, false, false, false, false, false, false, false] rfl rfl (take_ofW HT_.out HW_.out (by kernel_rfl)) (fun _ _ _ h => h) (Or.inl ⟨by rfl, ?_⟩) hHeld ?_ ?_
                                rotate_left
                                ·rintro w' ⟨s0, s1, s2, s3, s4, s5⟩
                                 go_simp
                                 with_reducible rfl
                                rotate_left
                                ·simp only [Act.put, sT, sZ, sS, i64_w, i32_w]
                                 rfl
                                refine take_ (i := 7) (N := some 130) (v := ?_) (a' := ?_) #[true, true, true, true, true, true, true, true, false, false, false, false, false, false, false, false, false, false, false, false, false, false, false, false, false, false, false, false, false, false, false, false, false, false, false, false, false, false, false, false, false, false, false, false, false, false] rfl rfl (take_ofW HT_.out HW_.out (by kernel_rfl)) (fun _ _ _ h => h) (Or.inl ⟨by rfl, ?_⟩) hHeld ?_ ?_
                                rotate_left
                                ·rintro w' ⟨s0, s1, s2, s3, s4, s5⟩
                                 go_simp
                                 with_reducible rfl
                                rotate_left
                                ·simp only [Act.put, sT, sZ, sS, i64_w, i32_w]
                                 rfl
                                refine pure_ (i := 8) (N := some 131) (v := ?_) (a' := ?_) #[true, true, true, true, true, true, true, true, true, false, false, false, false, false, false, false, false, false, false, false, false, false, false, false, false, false, false, false, false, false, false, false, false, false, false, false, false, false, false, false, false, false, false, false, false, false] rfl rfl (any_of HT_.out (by kernel_rfl)) (fun _ _ _ h => h) (Or.inl ⟨by rfl, ?_⟩) ?_ ?_
                                rotate_left
                                ·intro w'
                                 go_simp
                                 with_reducible rfl
                                rotate_left
                                ·simp only [Act.put, sT, sZ, sS, i64_w, i32_w]
                                 rfl
                                refine pure_ (i := 9) (N := some 132) (v := ?_) (a' := ?_) #[true, true, true, true, true, true, true, true, true, true, false, false, false, false, false, false, false, false, false, false, false, false, false, false, false, false, false, false, false, false, false, false, false, false, false, false, false, false, false, false, false, false, false, false, false, false] rfl rfl (any_of HT_.out (by kernel_rfl)) (fun _ _ _ h => h) (Or.inl ⟨by rfl, ?_⟩) ?_ ?_
                                rotate_left
                                ·intro w'
                                 go_simp
                                 with_reducible rfl
                                rotate_left
                                ·simp only [Act.put, sT, sZ, sS, i64_w, i32_w]
                                 rfl
                                refine pure_ (i := 10) (N := some 133) (v := ?_) (a' := ?_) #[true, true, true, true, true, true, true, true, true, true, true, false, false, false, false, false, false, false, false, false, false, false, false, false, false, false, false, false, false, false, false, false, false, false, false, false, false, false, false, false, false, false, false, false, false, false] rfl rfl (any_of HT_.out (by kernel_rfl)) (fun _ _ _ h => h) (Or.inl ⟨by rfl, ?_⟩) ?_ ?_
                                rotate_left
                                ·intro w'
                                 go_simp
                                 with_reducible rfl
                                rotate_left
                                ·simp only [Act.put, sT, sZ, sS, i64_w, i32_w]
                                 rfl
                                refine pure_ (i := 11) (N := some 134) (v := ?_) (a' := ?_) #[true, true, true, true, true, true, true, true, true, true, true, true, false, false, false, false, false, false, false, false, false, false, false, false, false, false, false, false, false, false, false, false, false, false, false, false, false, false, false, false, false, false, false, false, false, false] rfl rfl (any_of HT_.out (by kernel_rfl)) (fun _ _ _ h => h) (Or.inl ⟨by rfl, ?_⟩) ?_ ?_
                                rotate_left
                                ·intro w'
                                 go_simp
                                 with_reducible rfl
                                rotate_left
                                ·simp only [Act.put, sT, sZ, sS, i64_w, i32_w]
                                 rfl
                                refine pure_ (i := 12) (N := some 135) (v := ?_) (a' := ?_) #[true, true, true, true, true, true, true, true, true, true, true, true, true, false, false, false, false, false, false, false, false, false, false, false, false, false, false, false, false, false, false, false, false, false, false, false, false, false, false, false, false, false, false, false, false, false] rfl rfl (any_of HT_.out (by kernel_rfl)) (fun _ _ _ h => h) (Or.inl ⟨by rfl, ?_⟩) ?_ ?_
                                rotate_left
                                ·intro w'
                                 go_simp
                                 with_reducible rfl
                                rotate_left
                                ·simp only [Act.put, sT, sZ, sS, i64_w, i32_w]
                                 rfl
                                refine pure_ (i := 15) (N := some 138) (v := ?_) (a' := ?_) #[true, true, true, true, true, true, true, true, true, true, true, true, true, false, false, true, false, false, false, false, false, false, false, false, false, false, false, false, false, false, false, false, false, false, false, false, false, false, false, false, false, false, false, false, false, false] rfl rfl (any_of HT_.out (by kernel_rfl)) (fun _ _ _ h => h) (Or.inl ⟨by rfl, ?_⟩) ?_ ?_
                                rotate_left
                                ·intro w'
                                 go_simp
                                 with_reducible rfl
                                rotate_left
                                ·simp only [Act.put, sT, sZ, sS, i64_w, i32_w]
                                 rfl
                                refine pure_ (i := 16) (N := some 139) (v := ?_) (a' := ?_) #[true, true, true, true, true, true, true, true, true, true, true, true, true, false, false, true, true, false, false, false, false, false, false, false, false, false, false, false, false, false, false, false, false, false, false, false, false, false, false, false, false, false, false, false, false, false] rfl rfl (any_of HT_.out (by kernel_rfl)) (fun _ _ _ h => h) (Or.inl ⟨by rfl, ?_⟩) ?_ ?_
                                rotate_left
                                ·intro w'
                                 go_simp
                                 with_reducible rfl
                                rotate_left
                                ·simp only [Act.put, sT, sZ, sS, i64_w, i32_w]
                                 rfl
                                refine pure_ (i := 17) (N := some 140) (v := ?_) (a' := ?_) #[true, true, true, true, true, true, true, true, true, true, true, true, true, false, false, true, true, true, false, false, false, false, false, false, false, false, false, false, false, false, false, false, false, false, false, false, false, false, false, false, false, false, false, false, false, false] rfl rfl (any_of HT_.out (by kernel_rfl)) (fun _ _ _ h => h) (Or.inl ⟨by rfl, ?_⟩) ?_ ?_
                                rotate_left
                                ·intro w'
                                 go_simp
                                 with_reducible rfl
                                rotate_left
                                ·simp only [Act.put, sT, sZ, sS, i64_w, i32_w]
                                 rfl
                                refine take_ (i := 13) (N := some 136) (v := ?_) (a' := ?_) #[true, true, true, true, true, true, true, true, true, true, true, true, true, true, false, true, true, true, false, false, false, false, false, false, false, false, false, false, false, false, false, false, false, false, false, false, false, false, false, false, false, false, false, false, false, false] rfl rfl (take_ofW HT_.out HW_.out (by kernel_rfl)) (fun _ _ _ h => h) (Or.inl ⟨by rfl, ?_⟩) hHeld ?_ ?_
                                rotate_left
                                ·rintro w' ⟨s0, s1, s2, s3, s4, s5⟩
                                 go_simp
                                 with_reducible rfl
                                rotate_left
                                ·simp only [Act.put, sT, sZ, sS, i64_w, i32_w]
                                 rfl
                                refine take_ (i := 18) (N := some 141) (v := ?_) (a' := ?_) #[true, true, true, true, true, true, true, true, true, true, true, true, true, true, false, true, true, true, true, false, false, false, false, false, false, false, false, false, false, false, false, false, false, false, false, false, false, false, false, false, false, false, false, false, false, false] rfl rfl (take_ofW HT_.out HW_.out (by kernel_rfl)) (fun _ _ _ h => h) (Or.inl ⟨by rfl, ?_⟩) hHeld ?_ ?_
                                rotate_left
                                ·rintro w' ⟨s0, s1, s2, s3, s4, s5⟩
                                 go_simp
                                 with_reducible rfl
                                rotate_left
                                ·simp only [Act.put, sT, sZ, sS, i64_w, i32_w]
                                 rfl
                                refine one_ (i := 14) (N := some 137) #[true, true, true, true, true, true, true, true, true, true, true, true, true, true, true, true, true, true, true, false, false, false, false, false, false, false, false, false, false, false, false, false, false, false, false, false, false, false, false, false, false, false, false, false, false, false] rfl rfl (one_of HT_.out (by kernel_rfl)) (by decide) (fun K hK => ?_)
                                refine goes_ Tryd.func17 (by kernel_rfl) rfl #[.int .i64 (rd t162 x10_3)] (by rfl) rfl rfl (by (try simp only [List.map_toArray, List.map_cons, List.map_nil]); first | done | rfl|(simp only [List.length_drop, List.length_take]; rfl)) ?_
                                with_reducible refine (cohousinglaw02_size.calls (rd t162 x10_3) t187 _ A55.out).mono ?_
                                rintro e w69 ⟨rfl, hb⟩
                                have HS2_ := (hb.cell (World.block_lt_of_cell? _ _ (hHeld.2.2.1))).trans (hHeld.2.2.1)
                                have HS3_ := (hb.cell (World.block_lt_of_cell? _ _ (hHeld.2.2.2.1))).trans (hHeld.2.2.2.1)
                                refine ⟨_, rfl, ?_⟩
                                have n0_ := Aside0.mk (Kd.R_below (by (with_reducible repeat (first|apply Kd.R_alloc|apply Kd.R_drewN|apply Kd.R_drew)); exact HO_6.out) hb)
                                have n1_ := Aside0.mk (bT (by repeat (first|(with_reducible first|exact HB.out|apply bA|apply bN|apply b1)|exact HB.out)) hb)
                                clear HO_6
                                clear HB
                                have HO_6 := n0_
                                have HB := n1_
                                clear n0_ n1_
                                (try clear hb)
                                (try clear hb2)
                                (try clear hk)
                                (try clear hi)
                                refine hK.out _ _ ⟨((HB.out.cell (World.block_lt_of_cell? w _ hw184_0)).trans hw184_0), ((HB.out.cell (World.block_lt_of_cell? w _ hw185_0)).trans hw185_0), HS2_, HS3_, ((HB.out.cell (World.block_lt_of_cell? w _ hw190_0)).trans hw190_0), ((HB.out.cell (World.block_lt_of_cell? w _ hw191_0)).trans hw191_0)⟩ (fun hHeld => ?_)
                                clear hK K
                                refine norm_ (a' := ?_) ?_ ?_
                                rotate_left
                                ·show Act.put _ (some 137) _ = _
                                 simp only [Act.put, sT, sZ, sS, i64_w, i32_w]
                                 rfl
                                refine one_ (i := 19) (N := some 142) #[true, true, true, true, true, true, true, true, true, true, true, true, true, true, true, true, true, true, true, true, false, false, false, false, false, false, false, false, false, false, false, false, false, false, false, false, false, false, false, false, false, false, false, false, false, false] rfl rfl (one_of HT_.out (by kernel_rfl)) (by decide) (fun K hK => ?_)
                                refine goes_ Tryd.func17 (by kernel_rfl) rfl #[.int .i64 (rd t162 x12_6)] (by rfl) rfl rfl (by (try simp only [List.map_toArray, List.map_cons, List.map_nil]); first | done | rfl|(simp only [List.length_drop, List.length_take]; rfl)) ?_
                                with_reducible refine (cohousinglaw02_size.calls (rd t162 x12_6) t189 _ A57.out).mono ?_
                                rintro e w70 ⟨rfl, hb⟩
                                have HS2_ := (hb.cell (World.block_lt_of_cell? _ _ (hHeld.2.2.1))).trans (hHeld.2.2.1)
                                have HS3_ := (hb.cell (World.block_lt_of_cell? _ _ (hHeld.2.2.2.1))).trans (hHeld.2.2.2.1)
                                refine ⟨_, rfl, ?_⟩
                                have n0_ := Aside0.mk (Kd.R_below (by (with_reducible repeat (first|apply Kd.R_alloc|apply Kd.R_drewN|apply Kd.R_drew)); exact HO_6.out) hb)
                                have n1_ := Aside0.mk (bT (by repeat (first|(with_reducible first|exact HB.out|apply bA|apply bN|apply b1)|exact HB.out)) hb)
                                clear HO_6
                                clear HB
                                have HO_6 := n0_
                                have HB := n1_
                                clear n0_ n1_
                                (try clear hb)
                                (try clear hb2)
                                (try clear hk)
                                (try clear hi)
                                refine hK.out _ _ ⟨((HB.out.cell (World.block_lt_of_cell? w _ hw184_0)).trans hw184_0), ((HB.out.cell (World.block_lt_of_cell? w _ hw185_0)).trans hw185_0), HS2_, HS3_, ((HB.out.cell (World.block_lt_of_cell? w _ hw190_0)).trans hw190_0), ((HB.out.cell (World.block_lt_of_cell? w _ hw191_0)).trans hw191_0)⟩ (fun hHeld => ?_)
                                clear hK K
                                refine norm_ (a' := ?_) ?_ ?_
                                rotate_left
                                ·show Act.put _ (some 142) _ = _
                                 simp only [Act.put, sT, sZ, sS, i64_w, i32_w]
                                 rfl
                                refine pure_ (i := 20) (N := some 143) (v := ?_) (a' := ?_) #[true, true, true, true, true, true, true, true, true, true, true, true, true, true, true, true, true, true, true, true, true, false, false, false, false, false, false, false, false, false, false, false, false, false, false, false, false, false, false, false, false, false, false, false, false, false] rfl rfl (any_of HT_.out (by kernel_rfl)) (fun _ _ _ h => h) (Or.inl ⟨by rfl, ?_⟩) ?_ ?_
                                rotate_left
                                ·intro w'
                                 go_simp
                                 with_reducible rfl
                                rotate_left
                                ·simp only [Act.put, sT, sZ, sS, i64_w, i32_w]
                                 rfl
                                refine pure_ (i := 21) (N := some 144) (v := ?_) (a' := ?_) #[true, true, true, true, true, true, true, true, true, true, true, true, true, true, true, true, true, true, true, true, true, true, false, false, false, false, false, false, false, false, false, false, false, false, false, false, false, false, false, false, false, false, false, false, false, false] rfl rfl (any_of HT_.out (by kernel_rfl)) (fun _ _ _ h => h) (Or.inl ⟨by rfl, ?_⟩) ?_ ?_
                                rotate_left
                                ·intro w'
                                 go_simp
                                 with_reducible rfl
                                rotate_left
                                ·simp only [Act.put, sT, sZ, sS, i64_w, i32_w]
                                 rfl
                                refine pure_ (i := 22) (N := some 145) (v := ?_) (a' := ?_) #[true, true, true, true, true, true, true, true, true, true, true, true, true, true, true, true, true, true, true, true, true, true, true, false, false, false, false, false, false, false, false, false, false, false, false, false, false, false, false, false, false, false, false, false, false, false] rfl rfl (any_of HT_.out (by kernel_rfl)) (fun _ _ _ h => h) (Or.inl ⟨by rfl, ?_⟩) ?_ ?_
                                rotate_left
                                ·intro w'
                                 go_simp
                                 with_reducible rfl
                                rotate_left
                                ·simp only [Act.put, sT, sZ, sS, i64_w, i32_w]
                                 rfl
                                refine pure_ (i := 23) (N := some 146) (v := ?_) (a' := ?_) #[true, true, true, true, true, true, true, true, true, true, true, true, true, true, true, true, true, true, true, true, true, true, true, true, false, false, false, false, false, false, false, false, false, false, false, false, false, false, false, false, false, false, false, false, false, false] rfl rfl (any_of HT_.out (by kernel_rfl)) (fun _ _ _ h => h) (Or.inl ⟨by rfl, ?_⟩) ?_ ?_
                                rotate_left
                                ·intro w'
                                 go_simp
                                 with_reducible rfl
                                rotate_left
                                ·simp only [Act.put, sT, sZ, sS, i64_w, i32_w]
                                 rfl
                                refine pure_ (i := 24) (N := some 147) (v := ?_) (a' := ?_) #[true, true, true, true, true, true, true, true, true, true, true, true, true, true, true, true, true, true, true, true, true, true, true, true, true, false, false, false, false, false, false, false, false, false, false, false, false, false, false, false, false, false, false, false, false, false] rfl rfl (any_of HT_.out (by kernel_rfl)) (fun _ _ _ h => h) (Or.inl ⟨by rfl, ?_⟩) ?_ ?_
                                rotate_left
                                ·intro w'
                                 go_simp
                                 with_reducible rfl
                                rotate_left
                                ·simp only [Act.put, sT, sZ, sS, i64_w, i32_w]
                                 rfl
                                refine pure_ (i := 25) (N := some 148) (v := ?_) (a' := ?_) #[true, true, true, true, true, true, true, true, true, true, true, true, true, true, true, true, true, true, true, true, true, true, true, true, true, true, false, false, false, false, false, false, false, false, false, false, false, false, false, false, false, false, false, false, false, false] rfl rfl (any_of HT_.out (by kernel_rfl)) (fun _ _ _ h => h) (Or.inl ⟨by rfl, ?_⟩) ?_ ?_
                                rotate_left
                                ·intro w'
                                 go_simp
                                 with_reducible rfl
                                rotate_left
                                ·simp only [Act.put, sT, sZ, sS, i64_w, i32_w]
                                 rfl
                                refine pure_ (i := 27) (N := some 150) (v := ?_) (a' := ?_) #[true, true, true, true, true, true, true, true, true, true, true, true, true, true, true, true, true, true, true, true, true, true, true, true, true, true, false, true, false, false, false, false, false, false, false, false, false, false, false, false, false, false, false, false, false, false] rfl rfl (any_of HT_.out (by kernel_rfl)) (fun _ _ _ h => h) (Or.inl ⟨by rfl, ?_⟩) ?_ ?_
                                rotate_left
                                ·intro w'
                                 go_simp
                                 with_reducible rfl
                                rotate_left
                                ·simp only [Act.put, sT, sZ, sS, i64_w, i32_w]
                                 rfl
                                refine pure_ (i := 28) (N := some 151) (v := ?_) (a' := ?_) #[true, true, true, true, true, true, true, true, true, true, true, true, true, true, true, true, true, true, true, true, true, true, true, true, true, true, false, true, true, false, false, false, false, false, false, false, false, false, false, false, false, false, false, false, false, false] rfl rfl (any_of HT_.out (by kernel_rfl)) (fun _ _ _ h => h) (Or.inl ⟨by rfl, ?_⟩) ?_ ?_
                                rotate_left
                                ·intro w'
                                 go_simp
                                 with_reducible rfl
                                rotate_left
                                ·simp only [Act.put, sT, sZ, sS, i64_w, i32_w]
                                 rfl
                                refine pure_ (i := 29) (N := some 152) (v := ?_) (a' := ?_) #[true, true, true, true, true, true, true, true, true, true, true, true, true, true, true, true, true, true, true, true, true, true, true, true, true, true, false, true, true, true, false, false, false, false, false, false, false, false, false, false, false, false, false, false, false, false] rfl rfl (any_of HT_.out (by kernel_rfl)) (fun _ _ _ h => h) (Or.inl ⟨by rfl, ?_⟩) ?_ ?_
                                rotate_left
                                ·intro w'
                                 go_simp
                                 with_reducible rfl
                                rotate_left
                                ·simp only [Act.put, sT, sZ, sS, i64_w, i32_w]
                                 rfl
                                refine take_ (i := 26) (N := some 149) (v := ?_) (a' := ?_) #[true, true, true, true, true, true, true, true, true, true, true, true, true, true, true, true, true, true, true, true, true, true, true, true, true, true, true, true, true, true, false, false, false, false, false, false, false, false, false, false, false, false, false, false, false, false] rfl rfl (take_ofW HT_.out HW_.out (by kernel_rfl)) (fun _ _ _ h => h) (Or.inl ⟨by rfl, ?_⟩) hHeld ?_ ?_
                                rotate_left
                                ·rintro w' ⟨s0, s1, s2, s3, s4, s5⟩
                                 go_simp
                                 with_reducible rfl
                                rotate_left
                                ·simp only [Act.put, sT, sZ, sS, i64_w, i32_w]
                                 rfl
                                refine take_ (i := 30) (N := some 153) (v := ?_) (a' := ?_) #[true, true, true, true, true, true, true, true, true, true, true, true, true, true, true, true, true, true, true, true, true, true, true, true, true, true, true, true, true, true, true, false, false, false, false, false, false, false, false, false, false, false, false, false, false, false] rfl rfl (take_ofW HT_.out HW_.out (by kernel_rfl)) (fun _ _ _ h => h) (Or.inl ⟨by rfl, ?_⟩) hHeld ?_ ?_
                                rotate_left
                                ·rintro w' ⟨s0, s1, s2, s3, s4, s5⟩
                                 go_simp
                                 with_reducible rfl
                                rotate_left
                                ·simp only [Act.put, sT, sZ, sS, i64_w, i32_w]
                                 rfl
                                refine pure_ (i := 31) (N := some 154) (v := ?_) (a' := ?_) #[true, true, true, true, true, true, true, true, true, true, true, true, true, true, true, true, true, true, true, true, true, true, true, true, true, true, true, true, true, true, true, true, false, false, false, false, false, false, false, false, false, false, false, false, false, false] rfl rfl (any_of HT_.out (by kernel_rfl)) (fun _ _ _ h => h) (Or.inl ⟨by rfl, ?_⟩) ?_ ?_
                                rotate_left
                                ·intro w'
                                 go_simp
                                 with_reducible rfl
                                rotate_left
                                ·simp only [Act.put, sT, sZ, sS, i64_w, i32_w]
                                 rfl
                                refine pure_ (i := 32) (N := some 155) (v := ?_) (a' := ?_) #[true, true, true, true, true, true, true, true, true, true, true, true, true, true, true, true, true, true, true, true, true, true, true, true, true, true, true, true, true, true, true, true, true, false, false, false, false, false, false, false, false, false, false, false, false, false] rfl rfl (any_of HT_.out (by kernel_rfl)) (fun _ _ _ h => h) (Or.inl ⟨by rfl, ?_⟩) ?_ ?_
                                rotate_left
                                ·intro w'
                                 go_simp
                                 with_reducible rfl
                                rotate_left
                                ·simp only [Act.put, sT, sZ, sS, i64_w, i32_w]
                                 rfl
                                refine pure_ (i := 33) (N := some 156) (v := undef) (a' := ?_) #[true, true, true, true, true, true, true, true, true, true, true, true, true, true, true, true, true, true, true, true, true, true, true, true, true, true, true, true, true, true, true, true, true, true, false, false, false, false, false, false, false, false, false, false, false, false] rfl rfl (any_of HT_.out (by kernel_rfl)) (fun _ _ _ h => h) (Or.inr ⟨by rfl, rfl⟩) ?_ ?_
                                rotate_left
                                ·simp only [Act.put, sT, sZ, sS, i64_w, i32_w]
                                 rfl
                                refine pure_ (i := 34) (N := some 157) (v := undef) (a' := ?_) #[true, true, true, true, true, true, true, true, true, true, true, true, true, true, true, true, true, true, true, true, true, true, true, true, true, true, true, true, true, true, true, true, true, true, true, false, false, false, false, false, false, false, false, false, false, false] rfl rfl (any_of HT_.out (by kernel_rfl)) (fun _ _ _ h => h) (Or.inr ⟨by rfl, rfl⟩) ?_ ?_
                                rotate_left
                                ·simp only [Act.put, sT, sZ, sS, i64_w, i32_w]
                                 rfl
                                refine pure_ (i := 35) (N := some 158) (v := undef) (a' := ?_) #[true, true, true, true, true, true, true, true, true, true, true, true, true, true, true, true, true, true, true, true, true, true, true, true, true, true, true, true, true, true, true, true, true, true, true, true, false, false, false, false, false, false, false, false, false, false] rfl rfl (any_of HT_.out (by kernel_rfl)) (fun _ _ _ h => h) (Or.inr ⟨by rfl, rfl⟩) ?_ ?_
                                rotate_left
                                ·simp only [Act.put, sT, sZ, sS, i64_w, i32_w]
                                 rfl
                                refine pure_ (i := 36) (N := some 159) (v := undef) (a' := ?_) #[true, true, true, true, true, true, true, true, true, true, true, true, true, true, true, true, true, true, true, true, true, true, true, true, true, true, true, true, true, true, true, true, true, true, true, true, true, false, false, false, false, false, false, false, false, false] rfl rfl (any_of HT_.out (by kernel_rfl)) (fun _ _ _ h => h) (Or.inr ⟨by rfl, rfl⟩) ?_ ?_
                                rotate_left
                                ·simp only [Act.put, sT, sZ, sS, i64_w, i32_w]
                                 rfl
                                refine pure_ (i := 37) (N := some 160) (v := undef) (a' := ?_) #[true, true, true, true, true, true, true, true, true, true, true, true, true, true, true, true, true, true, true, true, true, true, true, true, true, true, true, true, true, true, true, true, true, true, true, true, true, true, false, false, false, false, false, false, false, false] rfl rfl (any_of HT_.out (by kernel_rfl)) (fun _ _ _ h => h) (Or.inr ⟨by rfl, rfl⟩) ?_ ?_
                                rotate_left
                                ·simp only [Act.put, sT, sZ, sS, i64_w, i32_w]
                                 rfl
                                refine pure_ (i := 38) (N := some 161) (v := undef) (a' := ?_) #[true, true, true, true, true, true, true, true, true, true, true, true, true, true, true, true, true, true, true, true, true, true, true, true, true, true, true, true, true, true, true, true, true, true, true, true, true, true, true, false, false, false, false, false, false, false] rfl rfl (any_of HT_.out (by kernel_rfl)) (fun _ _ _ h => h) (Or.inr ⟨by rfl, rfl⟩) ?_ ?_
                                rotate_left
                                ·simp only [Act.put, sT, sZ, sS, i64_w, i32_w]
                                 rfl
                                refine pure_ (i := 39) (N := some 162) (v := undef) (a' := ?_) #[true, true, true, true, true, true, true, true, true, true, true, true, true, true, true, true, true, true, true, true, true, true, true, true, true, true, true, true, true, true, true, true, true, true, true, true, true, true, true, true, false, false, false, false, false, false] rfl rfl (any_of HT_.out (by kernel_rfl)) (fun _ _ _ h => h) (Or.inr ⟨by rfl, rfl⟩) ?_ ?_
                                rotate_left
                                ·simp only [Act.put, sT, sZ, sS, i64_w, i32_w]
                                 rfl
                                refine pure_ (i := 40) (N := some 163) (v := undef) (a' := ?_) #[true, true, true, true, true, true, true, true, true, true, true, true, true, true, true, true, true, true, true, true, true, true, true, true, true, true, true, true, true, true, true, true, true, true, true, true, true, true, true, true, true, false, false, false, false, false] rfl rfl (any_of HT_.out (by kernel_rfl)) (fun _ _ _ h => h) (Or.inr ⟨by rfl, rfl⟩) ?_ ?_
                                rotate_left
                                ·simp only [Act.put, sT, sZ, sS, i64_w, i32_w]
                                 rfl
                                refine pure_ (i := 41) (N := some 164) (v := undef) (a' := ?_) #[true, true, true, true, true, true, true, true, true, true, true, true, true, true, true, true, true, true, true, true, true, true, true, true, true, true, true, true, true, true, true, true, true, true, true, true, true, true, true, true, true, true, false, false, false, false] rfl rfl (any_of HT_.out (by kernel_rfl)) (fun _ _ _ h => h) (Or.inr ⟨by rfl, rfl⟩) ?_ ?_
                                rotate_left
                                ·simp only [Act.put, sT, sZ, sS, i64_w, i32_w]
                                 rfl
                                refine pure_ (i := 42) (N := some 165) (v := undef) (a' := ?_) #[true, true, true, true, true, true, true, true, true, true, true, true, true, true, true, true, true, true, true, true, true, true, true, true, true, true, true, true, true, true, true, true, true, true, true, true, true, true, true, true, true, true, true, false, false, false] rfl rfl (any_of HT_.out (by kernel_rfl)) (fun _ _ _ h => h) (Or.inr ⟨by rfl, rfl⟩) ?_ ?_
                                rotate_left
                                ·simp only [Act.put, sT, sZ, sS, i64_w, i32_w]
                                 rfl
                                refine pure_ (i := 43) (N := some 166) (v := undef) (a' := ?_) #[true, true, true, true, true, true, true, true, true, true, true, true, true, true, true, true, true, true, true, true, true, true, true, true, true, true, true, true, true, true, true, true, true, true, true, true, true, true, true, true, true, true, true, true, false, false] rfl rfl (any_of HT_.out (by kernel_rfl)) (fun _ _ _ h => h) (Or.inr ⟨by rfl, rfl⟩) ?_ ?_
                                rotate_left
                                ·simp only [Act.put, sT, sZ, sS, i64_w, i32_w]
                                 rfl
                                refine pure_ (i := 44) (N := some 167) (v := ?_) (a' := ?_) #[true, true, true, true, true, true, true, true, true, true, true, true, true, true, true, true, true, true, true, true, true, true, true, true, true, true, true, true, true, true, true, true, true, true, true, true, true, true, true, true, true, true, true, true, true, false] rfl rfl (any_of HT_.out (by kernel_rfl)) (fun _ _ _ h => h) (Or.inl ⟨by rfl, ?_⟩) ?_ ?_
                                rotate_left
                                ·intro w'
                                 go_simp
                                 with_reducible rfl
                                rotate_left
                                ·simp only [Act.put, sT, sZ, sS, i64_w, i32_w]
                                 rfl
                                refine pure_ (i := 45) (N := some 168) (v := ?_) (a' := ?_) #[true, true, true, true, true, true, true, true, true, true, true, true, true, true, true, true, true, true, true, true, true, true, true, true, true, true, true, true, true, true, true, true, true, true, true, true, true, true, true, true, true, true, true, true, true, true] rfl rfl (any_of HT_.out (by kernel_rfl)) (fun _ _ _ h => h) (Or.inl ⟨by rfl, ?_⟩) ?_ ?_
                                rotate_left
                                ·intro w'
                                 go_simp
                                 with_reducible rfl
                                rotate_left
                                ·simp only [Act.put, sT, sZ, sS, i64_w, i32_w]
                                 rfl
                                refine done_ (done_of HT_.out (by kernel_rfl)) ?_
                                try go_wp2
                                go_roundg k6
                                case measure => have := HJ5.out; have := HJ15.out; have := HK3.out; have := HJ20.out; have := HJ43.out; have := HK6.out; omega
                                case rel => exact ⟨(wrap64 (x12_6 + 1)), (by first | rfl|(simp; done)|(simp [*]; done)), H', ⟨by have := HJ5.out; have := HJ15.out; have := HK3.out; have := HJ20.out; have := HJ43.out; have := HK6.out; omega⟩, ⟨by (with_reducible repeat (first|apply Kd.R_alloc|apply Kd.R_drewN|apply Kd.R_drew)); exact HO_6.out⟩, ⟨by repeat (first|(with_reducible first|exact HB.out|apply bA|apply bN|apply b1)|exact HB.out)⟩⟩
                            ·rw [if_neg c56] at H
                             exact absurd H (by simp)
                           ·rw [if_neg c54] at H
                            exact absurd H (by simp)
                          ·rw [if_neg c53] at H
                           have c53b0 : decide ((rd l1 x12_6) < (rd l1 x10_3)) = false := dF c53
                           clear c53
                           by_cases c71 : (rd l1 x12_6) > (rd l1 x10_3)
                           ·rw [if_pos c71] at H
                            have c71b0 : decide ((rd l1 x10_3) < (rd l1 x12_6)) = true := dT c71
                            clear c71
                            by_cases c72 : x12_6 < (t162.length : Int)
                            ·rw [if_pos c72] at H
                             have c72b0 : decide (x12_6 < (t162.length : Int)) = true := dT c72
                             clear c72
                             replace H := Option.bind_eq_some_iff.mp H
                             obtain ⟨t199, A730, H⟩ := H
                             replace H : (if x10_3 < (t162.length : Int) then ((cohousinglaw02_size.f (rd t162 x10_3)).bind fun t201 => (if t199 < t201 then (none) else (cohousinglaw02_MoneyParts.l1 k6 a0 l1 t161 t162 t166 x9_3 x10_3 (wrap64 (x12_6 + 1))))) else (none)) = some r := H
                             have A73 := Aside0.mk A730
                             clear A730
                             by_cases c74 : x10_3 < (t162.length : Int)
                             ·rw [if_pos c74] at H
                              have c74b0 : decide (x10_3 < (t162.length : Int)) = true := dT c74
                              clear c74
                              replace H := Option.bind_eq_some_iff.mp H
                              obtain ⟨t201, A750, H⟩ := H
                              replace H : (if t199 < t201 then (none) else (cohousinglaw02_MoneyParts.l1 k6 a0 l1 t161 t162 t166 x9_3 x10_3 (wrap64 (x12_6 + 1)))) = some r := H
                              have A75 := Aside0.mk A750
                              clear A750
                              by_cases c76 : t199 < t201
                              ·rw [if_pos c76] at H
                               exact absurd H (by simp)
                              ·rw [if_neg c76] at H
                               have c76b0 : decide (t199 < t201) = false := dF c76
                               clear c76
                               as_aux_lemma =>
                                have H' := Aside0.mk H
                                clear H
                                try go_wp2
                                have n0_ := Aside0.mk (Kd.R_drew HO_6.out)
                                have n1_ := Aside0.mk (b1 HB.out)
                                clear HO_6
                                clear HB
                                have HO_6 := n0_
                                have HB := n1_
                                clear n0_ n1_
                                have p184 : 0 ≤ (x10_3 : Int) := oT (by first|(with_reducible assumption) | assumption)
                                have q184 : x10_3 < (l1.length : Int) := oT (by first|(with_reducible assumption) | assumption)
                                obtain ⟨ad184, e184, hx184_0⟩ := Kd.at_int HR1.out x10_3 p184 q184
                                have hw184_0 := hx184_0
                                obtain rfl : ad182 = ad184 := (by injection e184)
                                replace hx184_0 := (HB.out.cell (World.block_lt_of_cell? w _ hx184_0)).trans hx184_0
                                replace p184 := eq_true p184
                                replace q184 := eq_true q184
                                have p185 : 0 ≤ (x12_6 : Int) := oT (by first|(with_reducible assumption) | assumption)
                                have q185 : x12_6 < (l1.length : Int) := oT (by first|(with_reducible assumption) | assumption)
                                obtain ⟨ad185, e185, hx185_0⟩ := Kd.at_int HR1.out x12_6 p185 q185
                                have hw185_0 := hx185_0
                                obtain rfl : ad182 = ad185 := (by injection e185)
                                replace hx185_0 := (HB.out.cell (World.block_lt_of_cell? w _ hx185_0)).trans hx185_0
                                replace p185 := eq_true p185
                                replace q185 := eq_true q185
                                have p196 : 0 ≤ (x12_6 : Int) := oT (by first|(with_reducible assumption) | assumption)
                                have q196 : x12_6 < (l1.length : Int) := oT (by first|(with_reducible assumption) | assumption)
                                obtain ⟨ad196, e196, hx196_0⟩ := Kd.at_int HR1.out x12_6 p196 q196
                                have hw196_0 := hx196_0
                                obtain rfl : ad182 = ad196 := (by injection e196)
                                replace hx196_0 := (HB.out.cell (World.block_lt_of_cell? w _ hx196_0)).trans hx196_0
                                replace p196 := eq_true p196
                                replace q196 := eq_true q196
                                have p197 : 0 ≤ (x10_3 : Int) := oT (by first|(with_reducible assumption) | assumption)
                                have q197 : x10_3 < (l1.length : Int) := oT (by first|(with_reducible assumption) | assumption)
                                obtain ⟨ad197, e197, hx197_0⟩ := Kd.at_int HR1.out x10_3 p197 q197
                                have hw197_0 := hx197_0
                                obtain rfl : ad182 = ad197 := (by injection e197)
                                replace hx197_0 := (HB.out.cell (World.block_lt_of_cell? w _ hx197_0)).trans hx197_0
                                replace p197 := eq_true p197
                                replace q197 := eq_true q197
                                have p198 : 0 ≤ (x12_6 : Int) := oT (by first|(with_reducible assumption) | assumption)
                                have q198 : x12_6 < (t162.length : Int) := oT (by first|(with_reducible assumption) | assumption)
                                obtain ⟨ad198, e198, hx198_0⟩ := Kd.at_int (Kd.R_reads' HO_6.out).2.2 x12_6 p198 q198
                                obtain rfl : ad181 = ad198 := (by injection e198)
                                replace p198 := eq_true p198
                                replace q198 := eq_true q198
                                have p200 : 0 ≤ (x10_3 : Int) := oT (by first|(with_reducible assumption) | assumption)
                                have q200 : x10_3 < (t162.length : Int) := oT (by first|(with_reducible assumption) | assumption)
                                obtain ⟨ad200, e200, hx200_0⟩ := Kd.at_int (Kd.R_reads' HO_6.out).2.2 x10_3 p200 q200
                                obtain rfl : ad181 = ad200 := (by injection e200)
                                replace p200 := eq_true p200
                                replace q200 := eq_true q200
                                refine start_ (n := 46) (S := fun w' => w'.cell? (ad182.add (x10_3).toNat) = some (.int .i64 (rd l1 x10_3)) ∧ w'.cell? (ad182.add (x12_6).toNat) = some (.int .i64 (rd l1 x12_6)) ∧ w'.cell? (ad182.add (x12_6).toNat) = some (.int .i64 (rd l1 x12_6)) ∧ w'.cell? (ad182.add (x10_3).toNat) = some (.int .i64 (rd l1 x10_3)) ∧ w'.cell? (ad181.add (x12_6).toNat) = some (.int .i64 (rd t162 x12_6)) ∧ w'.cell? (ad181.add (x10_3).toNat) = some (.int .i64 (rd t162 x10_3))) (ds := []) #[false, false, false, false, false, false, false, false, false, false, false, false, false, false, false, false, false, false, false, false, false, false, false, false, false, false, false, false, false, false, false, false, false, false, false, false, false, false, false, false, false, false, false, false, false, false] (by kernel_rfl) rfl rfl ⟨((HB.out.cell (World.block_lt_of_cell? w _ hw184_0)).trans hw184_0), ((HB.out.cell (World.block_lt_of_cell? w _ hw185_0)).trans hw185_0), ((HB.out.cell (World.block_lt_of_cell? w _ hw196_0)).trans hw196_0), ((HB.out.cell (World.block_lt_of_cell? w _ hw197_0)).trans hw197_0), hx198_0, hx200_0⟩ (fun hHeld => ?_); refine with_tabW cohousinglaw02_MoneyParts.tab20 cohousinglaw02_MoneyParts.bits20 (fun HT_ HW_ => ?_)
                                generalize wr.drew = w77 at HO_6 HB hx184_0 hx185_0 hx196_0 hx197_0 hx198_0 hx200_0 hHeld ⊢
                                refine pure_ (i := 0) (N := some 123) (v := ?_) (a' := ?_) #[true, false, false, false, false, false, false, false, false, false, false, false, false, false, false, false, false, false, false, false, false, false, false, false, false, false, false, false, false, false, false, false, false, false, false, false, false, false, false, false, false, false, false, false, false, false] rfl rfl (any_of HT_.out (by kernel_rfl)) (fun _ _ _ h => h) (Or.inl ⟨by rfl, ?_⟩) ?_ ?_
                                rotate_left
                                ·intro w'
                                 go_simp
                                 with_reducible rfl
                                rotate_left
                                ·simp only [Act.put, sT, sZ, sS, i64_w, i32_w]
                                 rfl
                                refine pure_ (i := 1) (N := some 124) (v := ?_) (a' := ?_) #[true, true, false, false, false, false, false, false, false, false, false, false, false, false, false, false, false, false, false, false, false, false, false, false, false, false, false, false, false, false, false, false, false, false, false, false, false, false, false, false, false, false, false, false, false, false] rfl rfl (any_of HT_.out (by kernel_rfl)) (fun _ _ _ h => h) (Or.inl ⟨by rfl, ?_⟩) ?_ ?_
                                rotate_left
                                ·intro w'
                                 go_simp
                                 with_reducible rfl
                                rotate_left
                                ·simp only [Act.put, sT, sZ, sS, i64_w, i32_w]
                                 rfl
                                refine pure_ (i := 2) (N := some 125) (v := ?_) (a' := ?_) #[true, true, true, false, false, false, false, false, false, false, false, false, false, false, false, false, false, false, false, false, false, false, false, false, false, false, false, false, false, false, false, false, false, false, false, false, false, false, false, false, false, false, false, false, false, false] rfl rfl (any_of HT_.out (by kernel_rfl)) (fun _ _ _ h => h) (Or.inl ⟨by rfl, ?_⟩) ?_ ?_
                                rotate_left
                                ·intro w'
                                 go_simp
                                 with_reducible rfl
                                rotate_left
                                ·simp only [Act.put, sT, sZ, sS, i64_w, i32_w]
                                 rfl
                                refine pure_ (i := 4) (N := some 127) (v := ?_) (a' := ?_) #[true, true, true, false, true, false, false, false, false, false, false, false, false, false, false, false, false, false, false, false, false, false, false, false, false, false, false, false, false, false, false, false, false, false, false, false, false, false, false, false, false, false, false, false, false, false] rfl rfl (any_of HT_.out (by kernel_rfl)) (fun _ _ _ h => h) (Or.inl ⟨by rfl, ?_⟩) ?_ ?_
                                rotate_left
                                ·intro w'
                                 go_simp
                                 with_reducible rfl
                                rotate_left
                                ·simp only [Act.put, sT, sZ, sS, i64_w, i32_w]
                                 rfl
                                refine pure_ (i := 5) (N := some 128) (v := ?_) (a' := ?_) #[true, true, true, false, true, true, false, false, false, false, false, false, false, false, false, false, false, false, false, false, false, false, false, false, false, false, false, false, false, false, false, false, false, false, false, false, false, false, false, false, false, false, false, false, false, false] rfl rfl (any_of HT_.out (by kernel_rfl)) (fun _ _ _ h => h) (Or.inl ⟨by rfl, ?_⟩) ?_ ?_
                                rotate_left
                                ·intro w'
                                 go_simp
                                 with_reducible rfl
                                rotate_left
                                ·simp only [Act.put, sT, sZ, sS, i64_w, i32_w]
                                 rfl
                                refine pure_ (i := 6) (N := some 129) (v := ?_) (a' := ?_) #[true, true, true, false, true, true, true, false, false, false, false, false, false, false, false, false, false, false, false, false, false, false, false, false, false, false, false, false, false, false, false, false, false, false, false, false, false, false, false, false, false, false, false, false, false, false] rfl rfl (any_of HT_.out (by kernel_rfl)) (fun _ _ _ h => h) (Or.inl ⟨by rfl, ?_⟩) ?_ ?_
                                rotate_left
                                ·intro w'
                                 go_simp
                                 with_reducible rfl
                                rotate_left
                                ·simp only [Act.put, sT, sZ, sS, i64_w, i32_w]
                                 rfl
                                refine take_ (i := 3) (N := some 126) (v := ?_) (a' := ?_) #[true, true, true, true, true, true, true, false, false, false, false, false, false, false, false, false, false, false, false, false, false, false, false, false, false, false, false, false, false, false, false, false, false, false, false, false, false, false, false, false, false, false, false, false, false, false] rfl rfl (take_ofW HT_.out HW_.out (by kernel_rfl)) (fun _ _ _ h => h) (Or.inl ⟨by rfl, ?_⟩) hHeld ?_ ?_
                                rotate_left
                                ·rintro w' ⟨s0, s1, s2, s3, s4, s5⟩
                                 go_simp
                                 with_reducible rfl
                                rotate_left
                                ·simp only [Act.put, sT, sZ, sS, i64_w, i32_w]
                                 rfl
                                refine take_ (i := 7) (N := some 130) (v := ?_) (a' := ?_) #[true, true, true, true, true, true, true, true, false, false, false, false, false, false, false, false, false, false, false, false, false, false, false, false, false, false, false, false, false, false, false, false, false, false, false, false, false, false, false, false, false, false, false, false, false, false] rfl rfl (take_ofW HT_.out HW_.out (by kernel_rfl)) (fun _ _ _ h => h) (Or.inl ⟨by rfl, ?_⟩) hHeld ?_ ?_
                                rotate_left
                                ·rintro w' ⟨s0, s1, s2, s3, s4, s5⟩
                                 go_simp
                                 with_reducible rfl
                                rotate_left
                                ·simp only [Act.put, sT, sZ, sS, i64_w, i32_w]
                                 rfl
                                refine pure_ (i := 8) (N := some 131) (v := ?_) (a' := ?_) #[true, true, true, true, true, true, true, true, true, false, false, false, false, false, false, false, false, false, false, false, false, false, false, false, false, false, false, false, false, false, false, false, false, false, false, false, false, false, false, false, false, false, false, false, false, false] rfl rfl (any_of HT_.out (by kernel_rfl)) (fun _ _ _ h => h) (Or.inl ⟨by rfl, ?_⟩) ?_ ?_
                                rotate_left
                                ·intro w'
                                 go_simp
                                 with_reducible rfl
                                rotate_left
                                ·simp only [Act.put, sT, sZ, sS, i64_w, i32_w]
                                 rfl
                                refine pure_ (i := 9) (N := some 132) (v := ?_) (a' := ?_) #[true, true, true, true, true, true, true, true, true, true, false, false, false, false, false, false, false, false, false, false, false, false, false, false, false, false, false, false, false, false, false, false, false, false, false, false, false, false, false, false, false, false, false, false, false, false] rfl rfl (any_of HT_.out (by kernel_rfl)) (fun _ _ _ h => h) (Or.inl ⟨by rfl, ?_⟩) ?_ ?_
                                rotate_left
                                ·intro w'
                                 go_simp
                                 with_reducible rfl
                                rotate_left
                                ·simp only [Act.put, sT, sZ, sS, i64_w, i32_w]
                                 rfl
                                refine pure_ (i := 10) (N := some 133) (v := undef) (a' := ?_) #[true, true, true, true, true, true, true, true, true, true, true, false, false, false, false, false, false, false, false, false, false, false, false, false, false, false, false, false, false, false, false, false, false, false, false, false, false, false, false, false, false, false, false, false, false, false] rfl rfl (any_of HT_.out (by kernel_rfl)) (fun _ _ _ h => h) (Or.inr ⟨by rfl, rfl⟩) ?_ ?_
                                rotate_left
                                ·simp only [Act.put, sT, sZ, sS, i64_w, i32_w]
                                 rfl
                                refine pure_ (i := 11) (N := some 134) (v := undef) (a' := ?_) #[true, true, true, true, true, true, true, true, true, true, true, true, false, false, false, false, false, false, false, false, false, false, false, false, false, false, false, false, false, false, false, false, false, false, false, false, false, false, false, false, false, false, false, false, false, false] rfl rfl (any_of HT_.out (by kernel_rfl)) (fun _ _ _ h => h) (Or.inr ⟨by rfl, rfl⟩) ?_ ?_
                                rotate_left
                                ·simp only [Act.put, sT, sZ, sS, i64_w, i32_w]
                                 rfl
                                refine pure_ (i := 12) (N := some 135) (v := undef) (a' := ?_) #[true, true, true, true, true, true, true, true, true, true, true, true, true, false, false, false, false, false, false, false, false, false, false, false, false, false, false, false, false, false, false, false, false, false, false, false, false, false, false, false, false, false, false, false, false, false] rfl rfl (any_of HT_.out (by kernel_rfl)) (fun _ _ _ h => h) (Or.inr ⟨by rfl, rfl⟩) ?_ ?_
                                rotate_left
                                ·simp only [Act.put, sT, sZ, sS, i64_w, i32_w]
                                 rfl
                                refine pure_ (i := 13) (N := some 136) (v := undef) (a' := ?_) #[true, true, true, true, true, true, true, true, true, true, true, true, true, true, false, false, false, false, false, false, false, false, false, false, false, false, false, false, false, false, false, false, false, false, false, false, false, false, false, false, false, false, false, false, false, false] rfl rfl (any_of HT_.out (by kernel_rfl)) (fun _ _ _ h => h) (Or.inr ⟨by rfl, rfl⟩) ?_ ?_
                                rotate_left
                                ·simp only [Act.put, sT, sZ, sS, i64_w, i32_w]
                                 rfl
                                refine pure_ (i := 14) (N := some 137) (v := undef) (a' := ?_) #[true, true, true, true, true, true, true, true, true, true, true, true, true, true, true, false, false, false, false, false, false, false, false, false, false, false, false, false, false, false, false, false, false, false, false, false, false, false, false, false, false, false, false, false, false, false] rfl rfl (any_of HT_.out (by kernel_rfl)) (fun _ _ _ h => h) (Or.inr ⟨by rfl, rfl⟩) ?_ ?_
                                rotate_left
                                ·simp only [Act.put, sT, sZ, sS, i64_w, i32_w]
                                 rfl
                                refine pure_ (i := 15) (N := some 138) (v := undef) (a' := ?_) #[true, true, true, true, true, true, true, true, true, true, true, true, true, true, true, true, false, false, false, false, false, false, false, false, false, false, false, false, false, false, false, false, false, false, false, false, false, false, false, false, false, false, false, false, false, false] rfl rfl (any_of HT_.out (by kernel_rfl)) (fun _ _ _ h => h) (Or.inr ⟨by rfl, rfl⟩) ?_ ?_
                                rotate_left
                                ·simp only [Act.put, sT, sZ, sS, i64_w, i32_w]
                                 rfl
                                refine pure_ (i := 16) (N := some 139) (v := undef) (a' := ?_) #[true, true, true, true, true, true, true, true, true, true, true, true, true, true, true, true, true, false, false, false, false, false, false, false, false, false, false, false, false, false, false, false, false, false, false, false, false, false, false, false, false, false, false, false, false, false] rfl rfl (any_of HT_.out (by kernel_rfl)) (fun _ _ _ h => h) (Or.inr ⟨by rfl, rfl⟩) ?_ ?_
                                rotate_left
                                ·simp only [Act.put, sT, sZ, sS, i64_w, i32_w]
                                 rfl
                                refine pure_ (i := 17) (N := some 140) (v := undef) (a' := ?_) #[true, true, true, true, true, true, true, true, true, true, true, true, true, true, true, true, true, true, false, false, false, false, false, false, false, false, false, false, false, false, false, false, false, false, false, false, false, false, false, false, false, false, false, false, false, false] rfl rfl (any_of HT_.out (by kernel_rfl)) (fun _ _ _ h => h) (Or.inr ⟨by rfl, rfl⟩) ?_ ?_
                                rotate_left
                                ·simp only [Act.put, sT, sZ, sS, i64_w, i32_w]
                                 rfl
                                refine pure_ (i := 18) (N := some 141) (v := undef) (a' := ?_) #[true, true, true, true, true, true, true, true, true, true, true, true, true, true, true, true, true, true, true, false, false, false, false, false, false, false, false, false, false, false, false, false, false, false, false, false, false, false, false, false, false, false, false, false, false, false] rfl rfl (any_of HT_.out (by kernel_rfl)) (fun _ _ _ h => h) (Or.inr ⟨by rfl, rfl⟩) ?_ ?_
                                rotate_left
                                ·simp only [Act.put, sT, sZ, sS, i64_w, i32_w]
                                 rfl
                                refine pure_ (i := 19) (N := some 142) (v := undef) (a' := ?_) #[true, true, true, true, true, true, true, true, true, true, true, true, true, true, true, true, true, true, true, true, false, false, false, false, false, false, false, false, false, false, false, false, false, false, false, false, false, false, false, false, false, false, false, false, false, false] rfl rfl (any_of HT_.out (by kernel_rfl)) (fun _ _ _ h => h) (Or.inr ⟨by rfl, rfl⟩) ?_ ?_
                                rotate_left
                                ·simp only [Act.put, sT, sZ, sS, i64_w, i32_w]
                                 rfl
                                refine pure_ (i := 20) (N := some 143) (v := undef) (a' := ?_) #[true, true, true, true, true, true, true, true, true, true, true, true, true, true, true, true, true, true, true, true, true, false, false, false, false, false, false, false, false, false, false, false, false, false, false, false, false, false, false, false, false, false, false, false, false, false] rfl rfl (any_of HT_.out (by kernel_rfl)) (fun _ _ _ h => h) (Or.inr ⟨by rfl, rfl⟩) ?_ ?_
                                rotate_left
                                ·simp only [Act.put, sT, sZ, sS, i64_w, i32_w]
                                 rfl
                                refine pure_ (i := 21) (N := some 144) (v := ?_) (a' := ?_) #[true, true, true, true, true, true, true, true, true, true, true, true, true, true, true, true, true, true, true, true, true, true, false, false, false, false, false, false, false, false, false, false, false, false, false, false, false, false, false, false, false, false, false, false, false, false] rfl rfl (any_of HT_.out (by kernel_rfl)) (fun _ _ _ h => h) (Or.inl ⟨by rfl, ?_⟩) ?_ ?_
                                rotate_left
                                ·intro w'
                                 go_simp
                                 with_reducible rfl
                                rotate_left
                                ·simp only [Act.put, sT, sZ, sS, i64_w, i32_w]
                                 rfl
                                refine pure_ (i := 22) (N := some 145) (v := ?_) (a' := ?_) #[true, true, true, true, true, true, true, true, true, true, true, true, true, true, true, true, true, true, true, true, true, true, true, false, false, false, false, false, false, false, false, false, false, false, false, false, false, false, false, false, false, false, false, false, false, false] rfl rfl (any_of HT_.out (by kernel_rfl)) (fun _ _ _ h => h) (Or.inl ⟨by rfl, ?_⟩) ?_ ?_
                                rotate_left
                                ·intro w'
                                 go_simp
                                 with_reducible rfl
                                rotate_left
                                ·simp only [Act.put, sT, sZ, sS, i64_w, i32_w]
                                 rfl
                                refine pure_ (i := 23) (N := some 146) (v := ?_) (a' := ?_) #[true, true, true, true, true, true, true, true, true, true, true, true, true, true, true, true, true, true, true, true, true, true, true, true, false, false, false, false, false, false, false, false, false, false, false, false, false, false, false, false, false, false, false, false, false, false] rfl rfl (any_of HT_.out (by kernel_rfl)) (fun _ _ _ h => h) (Or.inl ⟨by rfl, ?_⟩) ?_ ?_
                                rotate_left
                                ·intro w'
                                 go_simp
                                 with_reducible rfl
                                rotate_left
                                ·simp only [Act.put, sT, sZ, sS, i64_w, i32_w]
                                 rfl
                                refine pure_ (i := 24) (N := some 147) (v := ?_) (a' := ?_) #[true, true, true, true, true, true, true, true, true, true, true, true, true, true, true, true, true, true, true, true, true, true, true, true, true, false, false, false, false, false, false, false, false, false, false, false, false, false, false, false, false, false, false, false, false, false] rfl rfl (any_of HT_.out (by kernel_rfl)) (fun _ _ _ h => h) (Or.inl ⟨by rfl, ?_⟩) ?_ ?_
                                rotate_left
                                ·intro w'
                                 go_simp
                                 with_reducible rfl
                                rotate_left
                                ·simp only [Act.put, sT, sZ, sS, i64_w, i32_w]
                                 rfl
                                refine pure_ (i := 25) (N := some 148) (v := ?_) (a' := ?_) #[true, true, true, true, true, true, true, true, true, true, true, true, true, true, true, true, true, true, true, true, true, true, true, true, true, true, false, false, false, false, false, false, false, false, false, false, false, false, false, false, false, false, false, false, false, false] rfl rfl (any_of HT_.out (by kernel_rfl)) (fun _ _ _ h => h) (Or.inl ⟨by rfl, ?_⟩) ?_ ?_
                                rotate_left
                                ·intro w'
                                 go_simp
                                 with_reducible rfl
                                rotate_left
                                ·simp only [Act.put, sT, sZ, sS, i64_w, i32_w]
                                 rfl
                                refine pure_ (i := 27) (N := some 150) (v := ?_) (a' := ?_) #[true, true, true, true, true, true, true, true, true, true, true, true, true, true, true, true, true, true, true, true, true, true, true, true, true, true, false, true, false, false, false, false, false, false, false, false, false, false, false, false, false, false, false, false, false, false] rfl rfl (any_of HT_.out (by kernel_rfl)) (fun _ _ _ h => h) (Or.inl ⟨by rfl, ?_⟩) ?_ ?_
                                rotate_left
                                ·intro w'
                                 go_simp
                                 with_reducible rfl
                                rotate_left
                                ·simp only [Act.put, sT, sZ, sS, i64_w, i32_w]
                                 rfl
                                refine pure_ (i := 28) (N := some 151) (v := ?_) (a' := ?_) #[true, true, true, true, true, true, true, true, true, true, true, true, true, true, true, true, true, true, true, true, true, true, true, true, true, true, false, true, true, false, false, false, false, false, false, false, false, false, false, false, false, false, false, false, false, false] rfl rfl (any_of HT_.out (by kernel_rfl)) (fun _ _ _ h => h) (Or.inl ⟨by rfl, ?_⟩) ?_ ?_
                                rotate_left
                                ·intro w'
                                 go_simp
                                 with_reducible rfl
                                rotate_left
                                ·simp only [Act.put, sT, sZ, sS, i64_w, i32_w]
                                 rfl
                                refine pure_ (i := 29) (N := some 152) (v := ?_) (a' := ?_) #[true, true, true, true, true, true, true, true, true, true, true, true, true, true, true, true, true, true, true, true, true, true, true, true, true, true, false, true, true, true, false, false, false, false, false, false, false, false, false, false, false, false, false, false, false, false] rfl rfl (any_of HT_.out (by kernel_rfl)) (fun _ _ _ h => h) (Or.inl ⟨by rfl, ?_⟩) ?_ ?_
                                rotate_left
                                ·intro w'
                                 go_simp
                                 with_reducible rfl
                                rotate_left
                                ·simp only [Act.put, sT, sZ, sS, i64_w, i32_w]
                                 rfl
                                refine take_ (i := 26) (N := some 149) (v := ?_) (a' := ?_) #[true, true, true, true, true, true, true, true, true, true, true, true, true, true, true, true, true, true, true, true, true, true, true, true, true, true, true, true, true, true, false, false, false, false, false, false, false, false, false, false, false, false, false, false, false, false] rfl rfl (take_ofW HT_.out HW_.out (by kernel_rfl)) (fun _ _ _ h => h) (Or.inl ⟨by rfl, ?_⟩) hHeld ?_ ?_
                                rotate_left
                                ·rintro w' ⟨s0, s1, s2, s3, s4, s5⟩
                                 go_simp
                                 with_reducible rfl
                                rotate_left
                                ·simp only [Act.put, sT, sZ, sS, i64_w, i32_w]
                                 rfl
                                refine take_ (i := 30) (N := some 153) (v := ?_) (a' := ?_) #[true, true, true, true, true, true, true, true, true, true, true, true, true, true, true, true, true, true, true, true, true, true, true, true, true, true, true, true, true, true, true, false, false, false, false, false, false, false, false, false, false, false, false, false, false, false] rfl rfl (take_ofW HT_.out HW_.out (by kernel_rfl)) (fun _ _ _ h => h) (Or.inl ⟨by rfl, ?_⟩) hHeld ?_ ?_
                                rotate_left
                                ·rintro w' ⟨s0, s1, s2, s3, s4, s5⟩
                                 go_simp
                                 with_reducible rfl
                                rotate_left
                                ·simp only [Act.put, sT, sZ, sS, i64_w, i32_w]
                                 rfl
                                refine pure_ (i := 31) (N := some 154) (v := ?_) (a' := ?_) #[true, true, true, true, true, true, true, true, true, true, true, true, true, true, true, true, true, true, true, true, true, true, true, true, true, true, true, true, true, true, true, true, false, false, false, false, false, false, false, false, false, false, false, false, false, false] rfl rfl (any_of HT_.out (by kernel_rfl)) (fun _ _ _ h => h) (Or.inl ⟨by rfl, ?_⟩) ?_ ?_
                                rotate_left
                                ·intro w'
                                 go_simp
                                 with_reducible rfl
                                rotate_left
                                ·simp only [Act.put, sT, sZ, sS, i64_w, i32_w]
                                 rfl
                                refine pure_ (i := 32) (N := some 155) (v := ?_) (a' := ?_) #[true, true, true, true, true, true, true, true, true, true, true, true, true, true, true, true, true, true, true, true, true, true, true, true, true, true, true, true, true, true, true, true, true, false, false, false, false, false, false, false, false, false, false, false, false, false] rfl rfl (any_of HT_.out (by kernel_rfl)) (fun _ _ _ h => h) (Or.inl ⟨by rfl, ?_⟩) ?_ ?_
                                rotate_left
                                ·intro w'
                                 go_simp
                                 with_reducible rfl
                                rotate_left
                                ·simp only [Act.put, sT, sZ, sS, i64_w, i32_w]
                                 rfl
                                refine pure_ (i := 33) (N := some 156) (v := ?_) (a' := ?_) #[true, true, true, true, true, true, true, true, true, true, true, true, true, true, true, true, true, true, true, true, true, true, true, true, true, true, true, true, true, true, true, true, true, true, false, false, false, false, false, false, false, false, false, false, false, false] rfl rfl (any_of HT_.out (by kernel_rfl)) (fun _ _ _ h => h) (Or.inl ⟨by rfl, ?_⟩) ?_ ?_
                                rotate_left
                                ·intro w'
                                 go_simp
                                 with_reducible rfl
                                rotate_left
                                ·simp only [Act.put, sT, sZ, sS, i64_w, i32_w]
                                 rfl
                                refine pure_ (i := 34) (N := some 157) (v := ?_) (a' := ?_) #[true, true, true, true, true, true, true, true, true, true, true, true, true, true, true, true, true, true, true, true, true, true, true, true, true, true, true, true, true, true, true, true, true, true, true, false, false, false, false, false, false, false, false, false, false, false] rfl rfl (any_of HT_.out (by kernel_rfl)) (fun _ _ _ h => h) (Or.inl ⟨by rfl, ?_⟩) ?_ ?_
                                rotate_left
                                ·intro w'
                                 go_simp
                                 with_reducible rfl
                                rotate_left
                                ·simp only [Act.put, sT, sZ, sS, i64_w, i32_w]
                                 rfl
                                refine pure_ (i := 35) (N := some 158) (v := ?_) (a' := ?_) #[true, true, true, true, true, true, true, true, true, true, true, true, true, true, true, true, true, true, true, true, true, true, true, true, true, true, true, true, true, true, true, true, true, true, true, true, false, false, false, false, false, false, false, false, false, false] rfl rfl (any_of HT_.out (by kernel_rfl)) (fun _ _ _ h => h) (Or.inl ⟨by rfl, ?_⟩) ?_ ?_
                                rotate_left
                                ·intro w'
                                 go_simp
                                 with_reducible rfl
                                rotate_left
                                ·simp only [Act.put, sT, sZ, sS, i64_w, i32_w]
                                 rfl
                                refine pure_ (i := 38) (N := some 161) (v := ?_) (a' := ?_) #[true, true, true, true, true, true, true, true, true, true, true, true, true, true, true, true, true, true, true, true, true, true, true, true, true, true, true, true, true, true, true, true, true, true, true, true, false, false, true, false, false, false, false, false, false, false] rfl rfl (any_of HT_.out (by kernel_rfl)) (fun _ _ _ h => h) (Or.inl ⟨by rfl, ?_⟩) ?_ ?_
                                rotate_left
                                ·intro w'
                                 go_simp
                                 with_reducible rfl
                                rotate_left
                                ·simp only [Act.put, sT, sZ, sS, i64_w, i32_w]
                                 rfl
                                refine pure_ (i := 39) (N := some 162) (v := ?_) (a' := ?_) #[true, true, true, true, true, true, true, true, true, true, true, true, true, true, true, true, true, true, true, true, true, true, true, true, true, true, true, true, true, true, true, true, true, true, true, true, false, false, true, true, false, false, false, false, false, false] rfl rfl (any_of HT_.out (by kernel_rfl)) (fun _ _ _ h => h) (Or.inl ⟨by rfl, ?_⟩) ?_ ?_
                                rotate_left
                                ·intro w'
                                 go_simp
                                 with_reducible rfl
                                rotate_left
                                ·simp only [Act.put, sT, sZ, sS, i64_w, i32_w]
                                 rfl
                                refine pure_ (i := 40) (N := some 163) (v := ?_) (a' := ?_) #[true, true, true, true, true, true, true, true, true, true, true, true, true, true, true, true, true, true, true, true, true, true, true, true, true, true, true, true, true, true, true, true, true, true, true, true, false, false, true, true, true, false, false, false, false, false] rfl rfl (any_of HT_.out (by kernel_rfl)) (fun _ _ _ h => h) (Or.inl ⟨by rfl, ?_⟩) ?_ ?_
                                rotate_left
                                ·intro w'
                                 go_simp
                                 with_reducible rfl
                                rotate_left
                                ·simp only [Act.put, sT, sZ, sS, i64_w, i32_w]
                                 rfl
                                refine take_ (i := 36) (N := some 159) (v := ?_) (a' := ?_) #[true, true, true, true, true, true, true, true, true, true, true, true, true, true, true, true, true, true, true, true, true, true, true, true, true, true, true, true, true, true, true, true, true, true, true, true, true, false, true, true, true, false, false, false, false, false] rfl rfl (take_ofW HT_.out HW_.out (by kernel_rfl)) (fun _ _ _ h => h) (Or.inl ⟨by rfl, ?_⟩) hHeld ?_ ?_
                                rotate_left
                                ·rintro w' ⟨s0, s1, s2, s3, s4, s5⟩
                                 go_simp
                                 with_reducible rfl
                                rotate_left
                                ·simp only [Act.put, sT, sZ, sS, i64_w, i32_w]
                                 rfl
                                refine take_ (i := 41) (N := some 164) (v := ?_) (a' := ?_) #[true, true, true, true, true, true, true, true, true, true, true, true, true, true, true, true, true, true, true, true, true, true, true, true, true, true, true, true, true, true, true, true, true, true, true, true, true, false, true, true, true, true, false, false, false, false] rfl rfl (take_ofW HT_.out HW_.out (by kernel_rfl)) (fun _ _ _ h => h) (Or.inl ⟨by rfl, ?_⟩) hHeld ?_ ?_
                                rotate_left
                                ·rintro w' ⟨s0, s1, s2, s3, s4, s5⟩
                                 go_simp
                                 with_reducible rfl
                                rotate_left
                                ·simp only [Act.put, sT, sZ, sS, i64_w, i32_w]
                                 rfl
                                refine one_ (i := 37) (N := some 160) #[true, true, true, true, true, true, true, true, true, true, true, true, true, true, true, true, true, true, true, true, true, true, true, true, true, true, true, true, true, true, true, true, true, true, true, true, true, true, true, true, true, true, false, false, false, false] rfl rfl (one_of HT_.out (by kernel_rfl)) (by decide) (fun K hK => ?_)
                                refine goes_ Tryd.func17 (by kernel_rfl) rfl #[.int .i64 (rd t162 x12_6)] (by rfl) rfl rfl (by (try simp only [List.map_toArray, List.map_cons, List.map_nil]); first | done | rfl|(simp only [List.length_drop, List.length_take]; rfl)) ?_
                                with_reducible refine (cohousinglaw02_size.calls (rd t162 x12_6) t199 _ A73.out).mono ?_
                                rintro e w78 ⟨rfl, hb⟩
                                have HS4_ := (hb.cell (World.block_lt_of_cell? _ _ (hHeld.2.2.2.2.1))).trans (hHeld.2.2.2.2.1)
                                have HS5_ := (hb.cell (World.block_lt_of_cell? _ _ (hHeld.2.2.2.2.2))).trans (hHeld.2.2.2.2.2)
                                refine ⟨_, rfl, ?_⟩
                                have n0_ := Aside0.mk (Kd.R_below (by (with_reducible repeat (first|apply Kd.R_alloc|apply Kd.R_drewN|apply Kd.R_drew)); exact HO_6.out) hb)
                                have n1_ := Aside0.mk (bT (by repeat (first|(with_reducible first|exact HB.out|apply bA|apply bN|apply b1)|exact HB.out)) hb)
                                clear HO_6
                                clear HB
                                have HO_6 := n0_
                                have HB := n1_
                                clear n0_ n1_
                                (try clear hb)
                                (try clear hb2)
                                (try clear hk)
                                (try clear hi)
                                refine hK.out _ _ ⟨((HB.out.cell (World.block_lt_of_cell? w _ hw184_0)).trans hw184_0), ((HB.out.cell (World.block_lt_of_cell? w _ hw185_0)).trans hw185_0), ((HB.out.cell (World.block_lt_of_cell? w _ hw196_0)).trans hw196_0), ((HB.out.cell (World.block_lt_of_cell? w _ hw197_0)).trans hw197_0), HS4_, HS5_⟩ (fun hHeld => ?_)
                                clear hK K
                                refine norm_ (a' := ?_) ?_ ?_
                                rotate_left
                                ·show Act.put _ (some 160) _ = _
                                 simp only [Act.put, sT, sZ, sS, i64_w, i32_w]
                                 rfl
                                refine one_ (i := 42) (N := some 165) #[true, true, true, true, true, true, true, true, true, true, true, true, true, true, true, true, true, true, true, true, true, true, true, true, true, true, true, true, true, true, true, true, true, true, true, true, true, true, true, true, true, true, true, false, false, false] rfl rfl (one_of HT_.out (by kernel_rfl)) (by decide) (fun K hK => ?_)
                                refine goes_ Tryd.func17 (by kernel_rfl) rfl #[.int .i64 (rd t162 x10_3)] (by rfl) rfl rfl (by (try simp only [List.map_toArray, List.map_cons, List.map_nil]); first | done | rfl|(simp only [List.length_drop, List.length_take]; rfl)) ?_
                                with_reducible refine (cohousinglaw02_size.calls (rd t162 x10_3) t201 _ A75.out).mono ?_
                                rintro e w79 ⟨rfl, hb⟩
                                have HS4_ := (hb.cell (World.block_lt_of_cell? _ _ (hHeld.2.2.2.2.1))).trans (hHeld.2.2.2.2.1)
                                have HS5_ := (hb.cell (World.block_lt_of_cell? _ _ (hHeld.2.2.2.2.2))).trans (hHeld.2.2.2.2.2)
                                refine ⟨_, rfl, ?_⟩
                                have n0_ := Aside0.mk (Kd.R_below (by (with_reducible repeat (first|apply Kd.R_alloc|apply Kd.R_drewN|apply Kd.R_drew)); exact HO_6.out) hb)
                                have n1_ := Aside0.mk (bT (by repeat (first|(with_reducible first|exact HB.out|apply bA|apply bN|apply b1)|exact HB.out)) hb)
                                clear HO_6
                                clear HB
                                have HO_6 := n0_
                                have HB := n1_
                                clear n0_ n1_
                                (try clear hb)
                                (try clear hb2)
                                (try clear hk)
                                (try clear hi)
                                refine hK.out _ _ ⟨((HB.out.cell (World.block_lt_of_cell? w _ hw184_0)).trans hw184_0), ((HB.out.cell (World.block_lt_of_cell? w _ hw185_0)).trans hw185_0), ((HB.out.cell (World.block_lt_of_cell? w _ hw196_0)).trans hw196_0), ((HB.out.cell (World.block_lt_of_cell? w _ hw197_0)).trans hw197_0), HS4_, HS5_⟩ (fun hHeld => ?_)
                                clear hK K
                                refine norm_ (a' := ?_) ?_ ?_
                                rotate_left
                                ·show Act.put _ (some 165) _ = _
                                 simp only [Act.put, sT, sZ, sS, i64_w, i32_w]
                                 rfl
                                refine pure_ (i := 43) (N := some 166) (v := ?_) (a' := ?_) #[true, true, true, true, true, true, true, true, true, true, true, true, true, true, true, true, true, true, true, true, true, true, true, true, true, true, true, true, true, true, true, true, true, true, true, true, true, true, true, true, true, true, true, true, false, false] rfl rfl (any_of HT_.out (by kernel_rfl)) (fun _ _ _ h => h) (Or.inl ⟨by rfl, ?_⟩) ?_ ?_
                                rotate_left
                                ·intro w'
                                 go_simp
                                 with_reducible rfl
                                rotate_left
                                ·simp only [Act.put, sT, sZ, sS, i64_w, i32_w]
                                 rfl
                                refine pure_ (i := 44) (N := some 167) (v := ?_) (a' := ?_) #[true, true, true, true, true, true, true, true, true, true, true, true, true, true, true, true, true, true, true, true, true, true, true, true, true, true, true, true, true, true, true, true, true, true, true, true, true, true, true, true, true, true, true, true, true, false] rfl rfl (any_of HT_.out (by kernel_rfl)) (fun _ _ _ h => h) (Or.inl ⟨by rfl, ?_⟩) ?_ ?_
                                rotate_left
                                ·intro w'
                                 go_simp
                                 with_reducible rfl
                                rotate_left
                                ·simp only [Act.put, sT, sZ, sS, i64_w, i32_w]
                                 rfl
                                refine pure_ (i := 45) (N := some 168) (v := ?_) (a' := ?_) #[true, true, true, true, true, true, true, true, true, true, true, true, true, true, true, true, true, true, true, true, true, true, true, true, true, true, true, true, true, true, true, true, true, true, true, true, true, true, true, true, true, true, true, true, true, true] rfl rfl (any_of HT_.out (by kernel_rfl)) (fun _ _ _ h => h) (Or.inl ⟨by rfl, ?_⟩) ?_ ?_
                                rotate_left
                                ·intro w'
                                 go_simp
                                 with_reducible rfl
                                rotate_left
                                ·simp only [Act.put, sT, sZ, sS, i64_w, i32_w]
                                 rfl
                                refine done_ (done_of HT_.out (by kernel_rfl)) ?_
                                try go_wp2
                                go_roundg k6
                                case measure => have := HJ5.out; have := HJ15.out; have := HK3.out; have := HJ20.out; have := HJ43.out; have := HK6.out; omega
                                case rel => exact ⟨(wrap64 (x12_6 + 1)), (by first | rfl|(simp; done)|(simp [*]; done)), H', ⟨by have := HJ5.out; have := HJ15.out; have := HK3.out; have := HJ20.out; have := HJ43.out; have := HK6.out; omega⟩, ⟨by (with_reducible repeat (first|apply Kd.R_alloc|apply Kd.R_drewN|apply Kd.R_drew)); exact HO_6.out⟩, ⟨by repeat (first|(with_reducible first|exact HB.out|apply bA|apply bN|apply b1)|exact HB.out)⟩⟩
                             ·rw [if_neg c74] at H
                              exact absurd H (by simp)
                            ·rw [if_neg c72] at H
                             exact absurd H (by simp)
                           ·rw [if_neg c71] at H
                            have c71b0 : decide ((rd l1 x10_3) < (rd l1 x12_6)) = false := dF c71
                            clear c71
                            as_aux_lemma =>
                             have H' := Aside0.mk H
                             clear H
                             try go_wp2
                             have n0_ := Aside0.mk (Kd.R_drew HO_6.out)
                             have n1_ := Aside0.mk (b1 HB.out)
                             clear HO_6
                             clear HB
                             have HO_6 := n0_
                             have HB := n1_
                             clear n0_ n1_
                             have p184 : 0 ≤ (x10_3 : Int) := oT (by first|(with_reducible assumption) | assumption)
                             have q184 : x10_3 < (l1.length : Int) := oT (by first|(with_reducible assumption) | assumption)
                             obtain ⟨ad184, e184, hx184_0⟩ := Kd.at_int HR1.out x10_3 p184 q184
                             have hw184_0 := hx184_0
                             obtain rfl : ad182 = ad184 := (by injection e184)
                             replace hx184_0 := (HB.out.cell (World.block_lt_of_cell? w _ hx184_0)).trans hx184_0
                             replace p184 := eq_true p184
                             replace q184 := eq_true q184
                             have p185 : 0 ≤ (x12_6 : Int) := oT (by first|(with_reducible assumption) | assumption)
                             have q185 : x12_6 < (l1.length : Int) := oT (by first|(with_reducible assumption) | assumption)
                             obtain ⟨ad185, e185, hx185_0⟩ := Kd.at_int HR1.out x12_6 p185 q185
                             have hw185_0 := hx185_0
                             obtain rfl : ad182 = ad185 := (by injection e185)
                             replace hx185_0 := (HB.out.cell (World.block_lt_of_cell? w _ hx185_0)).trans hx185_0
                             replace p185 := eq_true p185
                             replace q185 := eq_true q185
                             have p196 : 0 ≤ (x12_6 : Int) := oT (by first|(with_reducible assumption) | assumption)
                             have q196 : x12_6 < (l1.length : Int) := oT (by first|(with_reducible assumption) | assumption)
                             obtain ⟨ad196, e196, hx196_0⟩ := Kd.at_int HR1.out x12_6 p196 q196
                             have hw196_0 := hx196_0
                             obtain rfl : ad182 = ad196 := (by injection e196)
                             replace hx196_0 := (HB.out.cell (World.block_lt_of_cell? w _ hx196_0)).trans hx196_0
                             replace p196 := eq_true p196
                             replace q196 := eq_true q196
                             have p197 : 0 ≤ (x10_3 : Int) := oT (by first|(with_reducible assumption) | assumption)
                             have q197 : x10_3 < (l1.length : Int) := oT (by first|(with_reducible assumption) | assumption)
                             obtain ⟨ad197, e197, hx197_0⟩ := Kd.at_int HR1.out x10_3 p197 q197
                             have hw197_0 := hx197_0
                             obtain rfl : ad182 = ad197 := (by injection e197)
                             replace hx197_0 := (HB.out.cell (World.block_lt_of_cell? w _ hx197_0)).trans hx197_0
                             replace p197 := eq_true p197
                             replace q197 := eq_true q197
                             refine start_ (n := 46) (S := fun w' => w'.cell? (ad182.add (x10_3).toNat) = some (.int .i64 (rd l1 x10_3)) ∧ w'.cell? (ad182.add (x12_6).toNat) = some (.int .i64 (rd l1 x12_6)) ∧ w'.cell? (ad182.add (x12_6).toNat) = some (.int .i64 (rd l1 x12_6)) ∧ w'.cell? (ad182.add (x10_3).toNat) = some (.int .i64 (rd l1 x10_3))) (ds := []) #[false, false, false, false, false, false, false, false, false, false, false, false, false, false, false, false, false, false, false, false, false, false, false, false, false, false, false, false, false, false, false, false, false, false, false, false, false, false, false, false, false, false, false, false, false, false] (by kernel_rfl) rfl rfl ⟨((HB.out.cell (World.block_lt_of_cell? w _ hw184_0)).trans hw184_0), ((HB.out.cell (World.block_lt_of_cell? w _ hw185_0)).trans hw185_0), ((HB.out.cell (World.block_lt_of_cell? w _ hw196_0)).trans hw196_0), ((HB.out.cell (World.block_lt_of_cell? w _ hw197_0)).trans hw197_0)⟩ (fun hHeld => ?_); refine with_tabW cohousinglaw02_MoneyParts.tab20 cohousinglaw02_MoneyParts.bits20 (fun HT_ HW_ => ?_)
                             generalize wr.drew = w80 at HO_6 HB hx184_0 hx185_0 hx196_0 hx197_0 hHeld ⊢
                             refine pure_ (i := 0) (N := some 123) (v := ?_) (a' := ?_) #[true, false, false, false, false, false, false, false, false, false, false, false, false, false, false, false, false, false, false, false, false, false, false, false, false, false, false, false, false, false, false, false, false, false, false, false, false, false, false, false, false, false, false, false, false, false] rfl rfl (any_of HT_.out (by kernel_rfl)) (fun _ _ _ h => h) (Or.inl ⟨by rfl, ?_⟩) ?_ ?_
                             rotate_left
                             ·intro w'
                              go_simp
                              with_reducible rfl
                             rotate_left
                             ·simp only [Act.put, sT, sZ, sS, i64_w, i32_w]
                              rfl
                             refine pure_ (i := 1) (N := some 124) (v := ?_) (a' := ?_) #[true, true, false, false, false, false, false, false, false, false, false, false, false, false, false, false, false, false, false, false, false, false, false, false, false, false, false, false, false, false, false, false, false, false, false, false, false, false, false, false, false, false, false, false, false, false] rfl rfl (any_of HT_.out (by kernel_rfl)) (fun _ _ _ h => h) (Or.inl ⟨by rfl, ?_⟩) ?_ ?_
                             rotate_left
                             ·intro w'
                              go_simp
                              with_reducible rfl
                             rotate_left
                             ·simp only [Act.put, sT, sZ, sS, i64_w, i32_w]
                              rfl
                             refine pure_ (i := 2) (N := some 125) (v := ?_) (a' := ?_) #[true, true, true, false, false, false, false, false, false, false, false, false, false, false, false, false, false, false, false, false, false, false, false, false, false, false, false, false, false, false, false, false, false, false, false, false, false, false, false, false, false, false, false, false, false, false] rfl rfl (any_of HT_.out (by kernel_rfl)) (fun _ _ _ h => h) (Or.inl ⟨by rfl, ?_⟩) ?_ ?_
                             rotate_left
                             ·intro w'
                              go_simp
                              with_reducible rfl
                             rotate_left
                             ·simp only [Act.put, sT, sZ, sS, i64_w, i32_w]
                              rfl
                             refine pure_ (i := 4) (N := some 127) (v := ?_) (a' := ?_) #[true, true, true, false, true, false, false, false, false, false, false, false, false, false, false, false, false, false, false, false, false, false, false, false, false, false, false, false, false, false, false, false, false, false, false, false, false, false, false, false, false, false, false, false, false, false] rfl rfl (any_of HT_.out (by kernel_rfl)) (fun _ _ _ h => h) (Or.inl ⟨by rfl, ?_⟩) ?_ ?_
                             rotate_left
                             ·intro w'
                              go_simp
                              with_reducible rfl
                             rotate_left
                             ·simp only [Act.put, sT, sZ, sS, i64_w, i32_w]
                              rfl
                             refine pure_ (i := 5) (N := some 128) (v := ?_) (a' := ?_) #[true, true, true, false, true, true, false, false, false, false, false, false, false, false, false, false, false, false, false, false, false, false, false, false, false, false, false, false, false, false, false, false, false, false, false, false, false, false, false, false, false, false, false, false, false, false] rfl rfl (any_of HT_.out (by kernel_rfl)) (fun _ _ _ h => h) (Or.inl ⟨by rfl, ?_⟩) ?_ ?_
                             rotate_left
                             ·intro w'
                              go_simp
                              with_reducible rfl
                             rotate_left
                             ·simp only [Act.put, sT, sZ, sS, i64_w, i32_w]
                              rfl
                             refine pure_ (i := 6) (N := some 129) (v := ?_) (a' := ?_) #[true, true, true, false, true, true, true, false, false, false, false, false, false, false, false, false, false, false, false, false, false, false, false, false, false, false, false, false, false, false, false, false, false, false, false, false, false, false, false, false, false, false, false, false, false, false] rfl rfl (any_of HT_.out (by kernel_rfl)) (fun _ _ _ h => h) (Or.inl ⟨by rfl, ?_⟩) ?_ ?_
                             rotate_left
                             ·intro w'
                              go_simp
                              with_reducible rfl
                             rotate_left
                             ·simp only [Act.put, sT, sZ, sS, i64_w, i32_w]
                              rfl
                             refine take_ (i := 3) (N := some 126) (v := ?_) (a' := ?_) #[true, true, true, true, true, true, true, false, false, false, false, false, false, false, false, false, false, false, false, false, false, false, false, false, false, false, false, false, false, false, false, false, false, false, false, false, false, false, false, false, false, false, false, false, false, false] rfl rfl (take_ofW HT_.out HW_.out (by kernel_rfl)) (fun _ _ _ h => h) (Or.inl ⟨by rfl, ?_⟩) hHeld ?_ ?_
                             rotate_left
                             ·rintro w' ⟨s0, s1, s2, s3⟩
                              go_simp
                              with_reducible rfl
                             rotate_left
                             ·simp only [Act.put, sT, sZ, sS, i64_w, i32_w]
                              rfl
                             refine take_ (i := 7) (N := some 130) (v := ?_) (a' := ?_) #[true, true, true, true, true, true, true, true, false, false, false, false, false, false, false, false, false, false, false, false, false, false, false, false, false, false, false, false, false, false, false, false, false, false, false, false, false, false, false, false, false, false, false, false, false, false] rfl rfl (take_ofW HT_.out HW_.out (by kernel_rfl)) (fun _ _ _ h => h) (Or.inl ⟨by rfl, ?_⟩) hHeld ?_ ?_
                             rotate_left
                             ·rintro w' ⟨s0, s1, s2, s3⟩
                              go_simp
                              with_reducible rfl
                             rotate_left
                             ·simp only [Act.put, sT, sZ, sS, i64_w, i32_w]
                              rfl
                             refine pure_ (i := 8) (N := some 131) (v := ?_) (a' := ?_) #[true, true, true, true, true, true, true, true, true, false, false, false, false, false, false, false, false, false, false, false, false, false, false, false, false, false, false, false, false, false, false, false, false, false, false, false, false, false, false, false, false, false, false, false, false, false] rfl rfl (any_of HT_.out (by kernel_rfl)) (fun _ _ _ h => h) (Or.inl ⟨by rfl, ?_⟩) ?_ ?_
                             rotate_left
                             ·intro w'
                              go_simp
                              with_reducible rfl
                             rotate_left
                             ·simp only [Act.put, sT, sZ, sS, i64_w, i32_w]
                              rfl
                             refine pure_ (i := 9) (N := some 132) (v := ?_) (a' := ?_) #[true, true, true, true, true, true, true, true, true, true, false, false, false, false, false, false, false, false, false, false, false, false, false, false, false, false, false, false, false, false, false, false, false, false, false, false, false, false, false, false, false, false, false, false, false, false] rfl rfl (any_of HT_.out (by kernel_rfl)) (fun _ _ _ h => h) (Or.inl ⟨by rfl, ?_⟩) ?_ ?_
                             rotate_left
                             ·intro w'
                              go_simp
                              with_reducible rfl
                             rotate_left
                             ·simp only [Act.put, sT, sZ, sS, i64_w, i32_w]
                              rfl
                             refine pure_ (i := 10) (N := some 133) (v := undef) (a' := ?_) #[true, true, true, true, true, true, true, true, true, true, true, false, false, false, false, false, false, false, false, false, false, false, false, false, false, false, false, false, false, false, false, false, false, false, false, false, false, false, false, false, false, false, false, false, false, false] rfl rfl (any_of HT_.out (by kernel_rfl)) (fun _ _ _ h => h) (Or.inr ⟨by rfl, rfl⟩) ?_ ?_
                             rotate_left
                             ·simp only [Act.put, sT, sZ, sS, i64_w, i32_w]
                              rfl
                             refine pure_ (i := 11) (N := some 134) (v := undef) (a' := ?_) #[true, true, true, true, true, true, true, true, true, true, true, true, false, false, false, false, false, false, false, false, false, false, false, false, false, false, false, false, false, false, false, false, false, false, false, false, false, false, false, false, false, false, false, false, false, false] rfl rfl (any_of HT_.out (by kernel_rfl)) (fun _ _ _ h => h) (Or.inr ⟨by rfl, rfl⟩) ?_ ?_
                             rotate_left
                             ·simp only [Act.put, sT, sZ, sS, i64_w, i32_w]
                              rfl
                             refine pure_ (i := 12) (N := some 135) (v := undef) (a' := ?_) #[true, true, true, true, true, true, true, true, true, true, true, true, true, false, false, false, false, false, false, false, false, false, false, false, false, false, false, false, false, false, false, false, false, false, false, false, false, false, false, false, false, false, false, false, false, false] rfl rfl (any_of HT_.out (by kernel_rfl)) (fun _ _ _ h => h) (Or.inr ⟨by rfl, rfl⟩) ?_ ?_
                             rotate_left
                             ·simp only [Act.put, sT, sZ, sS, i64_w, i32_w]
                              rfl
                             refine pure_ (i := 13) (N := some 136) (v := undef) (a' := ?_) #[true, true, true, true, true, true, true, true, true, true, true, true, true, true, false, false, false, false, false, false, false, false, false, false, false, false, false, false, false, false, false, false, false, false, false, false, false, false, false, false, false, false, false, false, false, false] rfl rfl (any_of HT_.out (by kernel_rfl)) (fun _ _ _ h => h) (Or.inr ⟨by rfl, rfl⟩) ?_ ?_
                             rotate_left
                             ·simp only [Act.put, sT, sZ, sS, i64_w, i32_w]
                              rfl
                             refine pure_ (i := 14) (N := some 137) (v := undef) (a' := ?_) #[true, true, true, true, true, true, true, true, true, true, true, true, true, true, true, false, false, false, false, false, false, false, false, false, false, false, false, false, false, false, false, false, false, false, false, false, false, false, false, false, false, false, false, false, false, false] rfl rfl (any_of HT_.out (by kernel_rfl)) (fun _ _ _ h => h) (Or.inr ⟨by rfl, rfl⟩) ?_ ?_
                             rotate_left
                             ·simp only [Act.put, sT, sZ, sS, i64_w, i32_w]
                              rfl
                             refine pure_ (i := 15) (N := some 138) (v := undef) (a' := ?_) #[true, true, true, true, true, true, true, true, true, true, true, true, true, true, true, true, false, false, false, false, false, false, false, false, false, false, false, false, false, false, false, false, false, false, false, false, false, false, false, false, false, false, false, false, false, false] rfl rfl (any_of HT_.out (by kernel_rfl)) (fun _ _ _ h => h) (Or.inr ⟨by rfl, rfl⟩) ?_ ?_
                             rotate_left
                             ·simp only [Act.put, sT, sZ, sS, i64_w, i32_w]
                              rfl
                             refine pure_ (i := 16) (N := some 139) (v := undef) (a' := ?_) #[true, true, true, true, true, true, true, true, true, true, true, true, true, true, true, true, true, false, false, false, false, false, false, false, false, false, false, false, false, false, false, false, false, false, false, false, false, false, false, false, false, false, false, false, false, false] rfl rfl (any_of HT_.out (by kernel_rfl)) (fun _ _ _ h => h) (Or.inr ⟨by rfl, rfl⟩) ?_ ?_
                             rotate_left
                             ·simp only [Act.put, sT, sZ, sS, i64_w, i32_w]
                              rfl
                             refine pure_ (i := 17) (N := some 140) (v := undef) (a' := ?_) #[true, true, true, true, true, true, true, true, true, true, true, true, true, true, true, true, true, true, false, false, false, false, false, false, false, false, false, false, false, false, false, false, false, false, false, false, false, false, false, false, false, false, false, false, false, false] rfl rfl (any_of HT_.out (by kernel_rfl)) (fun _ _ _ h => h) (Or.inr ⟨by rfl, rfl⟩) ?_ ?_
                             rotate_left
                             ·simp only [Act.put, sT, sZ, sS, i64_w, i32_w]
                              rfl
                             refine pure_ (i := 18) (N := some 141) (v := undef) (a' := ?_) #[true, true, true, true, true, true, true, true, true, true, true, true, true, true, true, true, true, true, true, false, false, false, false, false, false, false, false, false, false, false, false, false, false, false, false, false, false, false, false, false, false, false, false, false, false, false] rfl rfl (any_of HT_.out (by kernel_rfl)) (fun _ _ _ h => h) (Or.inr ⟨by rfl, rfl⟩) ?_ ?_
                             rotate_left
                             ·simp only [Act.put, sT, sZ, sS, i64_w, i32_w]
                              rfl
                             refine pure_ (i := 19) (N := some 142) (v := undef) (a' := ?_) #[true, true, true, true, true, true, true, true, true, true, true, true, true, true, true, true, true, true, true, true, false, false, false, false, false, false, false, false, false, false, false, false, false, false, false, false, false, false, false, false, false, false, false, false, false, false] rfl rfl (any_of HT_.out (by kernel_rfl)) (fun _ _ _ h => h) (Or.inr ⟨by rfl, rfl⟩) ?_ ?_
                             rotate_left
                             ·simp only [Act.put, sT, sZ, sS, i64_w, i32_w]
                              rfl
                             refine pure_ (i := 20) (N := some 143) (v := undef) (a' := ?_) #[true, true, true, true, true, true, true, true, true, true, true, true, true, true, true, true, true, true, true, true, true, false, false, false, false, false, false, false, false, false, false, false, false, false, false, false, false, false, false, false, false, false, false, false, false, false] rfl rfl (any_of HT_.out (by kernel_rfl)) (fun _ _ _ h => h) (Or.inr ⟨by rfl, rfl⟩) ?_ ?_
                             rotate_left
                             ·simp only [Act.put, sT, sZ, sS, i64_w, i32_w]
                              rfl
                             refine pure_ (i := 21) (N := some 144) (v := ?_) (a' := ?_) #[true, true, true, true, true, true, true, true, true, true, true, true, true, true, true, true, true, true, true, true, true, true, false, false, false, false, false, false, false, false, false, false, false, false, false, false, false, false, false, false, false, false, false, false, false, false] rfl rfl (any_of HT_.out (by kernel_rfl)) (fun _ _ _ h => h) (Or.inl ⟨by rfl, ?_⟩) ?_ ?_
                             rotate_left
                             ·intro w'
                              go_simp
                              with_reducible rfl
                             rotate_left
                             ·simp only [Act.put, sT, sZ, sS, i64_w, i32_w]
                              rfl
                             refine pure_ (i := 22) (N := some 145) (v := ?_) (a' := ?_) #[true, true, true, true, true, true, true, true, true, true, true, true, true, true, true, true, true, true, true, true, true, true, true, false, false, false, false, false, false, false, false, false, false, false, false, false, false, false, false, false, false, false, false, false, false, false] rfl rfl (any_of HT_.out (by kernel_rfl)) (fun _ _ _ h => h) (Or.inl ⟨by rfl, ?_⟩) ?_ ?_
                             rotate_left
                             ·intro w'
                              go_simp
                              with_reducible rfl
                             rotate_left
                             ·simp only [Act.put, sT, sZ, sS, i64_w, i32_w]
                              rfl
                             refine pure_ (i := 23) (N := some 146) (v := ?_) (a' := ?_) #[true, true, true, true, true, true, true, true, true, true, true, true, true, true, true, true, true, true, true, true, true, true, true, true, false, false, false, false, false, false, false, false, false, false, false, false, false, false, false, false, false, false, false, false, false, false] rfl rfl (any_of HT_.out (by kernel_rfl)) (fun _ _ _ h => h) (Or.inl ⟨by rfl, ?_⟩) ?_ ?_
                             rotate_left
                             ·intro w'
                              go_simp
                              with_reducible rfl
                             rotate_left
                             ·simp only [Act.put, sT, sZ, sS, i64_w, i32_w]
                              rfl
                             refine pure_ (i := 24) (N := some 147) (v := ?_) (a' := ?_) #[true, true, true, true, true, true, true, true, true, true, true, true, true, true, true, true, true, true, true, true, true, true, true, true, true, false, false, false, false, false, false, false, false, false, false, false, false, false, false, false, false, false, false, false, false, false] rfl rfl (any_of HT_.out (by kernel_rfl)) (fun _ _ _ h => h) (Or.inl ⟨by rfl, ?_⟩) ?_ ?_
                             rotate_left
                             ·intro w'
                              go_simp
                              with_reducible rfl
                             rotate_left
                             ·simp only [Act.put, sT, sZ, sS, i64_w, i32_w]
                              rfl
                             refine pure_ (i := 25) (N := some 148) (v := ?_) (a' := ?_) #[true, true, true, true, true, true, true, true, true, true, true, true, true, true, true, true, true, true, true, true, true, true, true, true, true, true, false, false, false, false, false, false, false, false, false, false, false, false, false, false, false, false, false, false, false, false] rfl rfl (any_of HT_.out (by kernel_rfl)) (fun _ _ _ h => h) (Or.inl ⟨by rfl, ?_⟩) ?_ ?_
                             rotate_left
                             ·intro w'
                              go_simp
                              with_reducible rfl
                             rotate_left
                             ·simp only [Act.put, sT, sZ, sS, i64_w, i32_w]
                              rfl
                             refine pure_ (i := 27) (N := some 150) (v := ?_) (a' := ?_) #[true, true, true, true, true, true, true, true, true, true, true, true, true, true, true, true, true, true, true, true, true, true, true, true, true, true, false, true, false, false, false, false, false, false, false, false, false, false, false, false, false, false, false, false, false, false] rfl rfl (any_of HT_.out (by kernel_rfl)) (fun _ _ _ h => h) (Or.inl ⟨by rfl, ?_⟩) ?_ ?_
                             rotate_left
                             ·intro w'
                              go_simp
                              with_reducible rfl
                             rotate_left
                             ·simp only [Act.put, sT, sZ, sS, i64_w, i32_w]
                              rfl
                             refine pure_ (i := 28) (N := some 151) (v := ?_) (a' := ?_) #[true, true, true, true, true, true, true, true, true, true, true, true, true, true, true, true, true, true, true, true, true, true, true, true, true, true, false, true, true, false, false, false, false, false, false, false, false, false, false, false, false, false, false, false, false, false] rfl rfl (any_of HT_.out (by kernel_rfl)) (fun _ _ _ h => h) (Or.inl ⟨by rfl, ?_⟩) ?_ ?_
                             rotate_left
                             ·intro w'
                              go_simp
                              with_reducible rfl
                             rotate_left
                             ·simp only [Act.put, sT, sZ, sS, i64_w, i32_w]
                              rfl
                             refine pure_ (i := 29) (N := some 152) (v := ?_) (a' := ?_) #[true, true, true, true, true, true, true, true, true, true, true, true, true, true, true, true, true, true, true, true, true, true, true, true, true, true, false, true, true, true, false, false, false, false, false, false, false, false, false, false, false, false, false, false, false, false] rfl rfl (any_of HT_.out (by kernel_rfl)) (fun _ _ _ h => h) (Or.inl ⟨by rfl, ?_⟩) ?_ ?_
                             rotate_left
                             ·intro w'
                              go_simp
                              with_reducible rfl
                             rotate_left
                             ·simp only [Act.put, sT, sZ, sS, i64_w, i32_w]
                              rfl
                             refine take_ (i := 26) (N := some 149) (v := ?_) (a' := ?_) #[true, true, true, true, true, true, true, true, true, true, true, true, true, true, true, true, true, true, true, true, true, true, true, true, true, true, true, true, true, true, false, false, false, false, false, false, false, false, false, false, false, false, false, false, false, false] rfl rfl (take_ofW HT_.out HW_.out (by kernel_rfl)) (fun _ _ _ h => h) (Or.inl ⟨by rfl, ?_⟩) hHeld ?_ ?_
                             rotate_left
                             ·rintro w' ⟨s0, s1, s2, s3⟩
                              go_simp
                              with_reducible rfl
                             rotate_left
                             ·simp only [Act.put, sT, sZ, sS, i64_w, i32_w]
                              rfl
                             refine take_ (i := 30) (N := some 153) (v := ?_) (a' := ?_) #[true, true, true, true, true, true, true, true, true, true, true, true, true, true, true, true, true, true, true, true, true, true, true, true, true, true, true, true, true, true, true, false, false, false, false, false, false, false, false, false, false, false, false, false, false, false] rfl rfl (take_ofW HT_.out HW_.out (by kernel_rfl)) (fun _ _ _ h => h) (Or.inl ⟨by rfl, ?_⟩) hHeld ?_ ?_
                             rotate_left
                             ·rintro w' ⟨s0, s1, s2, s3⟩
                              go_simp
                              with_reducible rfl
                             rotate_left
                             ·simp only [Act.put, sT, sZ, sS, i64_w, i32_w]
                              rfl
                             refine pure_ (i := 31) (N := some 154) (v := ?_) (a' := ?_) #[true, true, true, true, true, true, true, true, true, true, true, true, true, true, true, true, true, true, true, true, true, true, true, true, true, true, true, true, true, true, true, true, false, false, false, false, false, false, false, false, false, false, false, false, false, false] rfl rfl (any_of HT_.out (by kernel_rfl)) (fun _ _ _ h => h) (Or.inl ⟨by rfl, ?_⟩) ?_ ?_
                             rotate_left
                             ·intro w'
                              go_simp
                              with_reducible rfl
                             rotate_left
                             ·simp only [Act.put, sT, sZ, sS, i64_w, i32_w]
                              rfl
                             refine pure_ (i := 32) (N := some 155) (v := ?_) (a' := ?_) #[true, true, true, true, true, true, true, true, true, true, true, true, true, true, true, true, true, true, true, true, true, true, true, true, true, true, true, true, true, true, true, true, true, false, false, false, false, false, false, false, false, false, false, false, false, false] rfl rfl (any_of HT_.out (by kernel_rfl)) (fun _ _ _ h => h) (Or.inl ⟨by rfl, ?_⟩) ?_ ?_
                             rotate_left
                             ·intro w'
                              go_simp
                              with_reducible rfl
                             rotate_left
                             ·simp only [Act.put, sT, sZ, sS, i64_w, i32_w]
                              rfl
                             refine pure_ (i := 33) (N := some 156) (v := undef) (a' := ?_) #[true, true, true, true, true, true, true, true, true, true, true, true, true, true, true, true, true, true, true, true, true, true, true, true, true, true, true, true, true, true, true, true, true, true, false, false, false, false, false, false, false, false, false, false, false, false] rfl rfl (any_of HT_.out (by kernel_rfl)) (fun _ _ _ h => h) (Or.inr ⟨by rfl, rfl⟩) ?_ ?_
                             rotate_left
                             ·simp only [Act.put, sT, sZ, sS, i64_w, i32_w]
                              rfl
                             refine pure_ (i := 34) (N := some 157) (v := undef) (a' := ?_) #[true, true, true, true, true, true, true, true, true, true, true, true, true, true, true, true, true, true, true, true, true, true, true, true, true, true, true, true, true, true, true, true, true, true, true, false, false, false, false, false, false, false, false, false, false, false] rfl rfl (any_of HT_.out (by kernel_rfl)) (fun _ _ _ h => h) (Or.inr ⟨by rfl, rfl⟩) ?_ ?_
                             rotate_left
                             ·simp only [Act.put, sT, sZ, sS, i64_w, i32_w]
                              rfl
                             refine pure_ (i := 35) (N := some 158) (v := undef) (a' := ?_) #[true, true, true, true, true, true, true, true, true, true, true, true, true, true, true, true, true, true, true, true, true, true, true, true, true, true, true, true, true, true, true, true, true, true, true, true, false, false, false, false, false, false, false, false, false, false] rfl rfl (any_of HT_.out (by kernel_rfl)) (fun _ _ _ h => h) (Or.inr ⟨by rfl, rfl⟩) ?_ ?_
                             rotate_left
                             ·simp only [Act.put, sT, sZ, sS, i64_w, i32_w]
                              rfl
                             refine pure_ (i := 36) (N := some 159) (v := undef) (a' := ?_) #[true, true, true, true, true, true, true, true, true, true, true, true, true, true, true, true, true, true, true, true, true, true, true, true, true, true, true, true, true, true, true, true, true, true, true, true, true, false, false, false, false, false, false, false, false, false] rfl rfl (any_of HT_.out (by kernel_rfl)) (fun _ _ _ h => h) (Or.inr ⟨by rfl, rfl⟩) ?_ ?_
                             rotate_left
                             ·simp only [Act.put, sT, sZ, sS, i64_w, i32_w]
                              rfl
                             refine pure_ (i := 37) (N := some 160) (v := undef) (a' := ?_) #[true, true, true, true, true, true, true, true, true, true, true, true, true, true, true, true, true, true, true, true, true, true, true, true, true, true, true, true, true, true, true, true, true, true, true, true, true, true, false, false, false, false, false, false, false, false] rfl rfl (any_of HT_.out (by kernel_rfl)) (fun _ _ _ h => h) (Or.inr ⟨by rfl, rfl⟩) ?_ ?_
                             rotate_left
                             ·simp only [Act.put, sT, sZ, sS, i64_w, i32_w]
                              rfl
                             refine pure_ (i := 38) (N := some 161) (v := undef) (a' := ?_) #[true, true, true, true, true, true, true, true, true, true, true, true, true, true, true, true, true, true, true, true, true, true, true, true, true, true, true, true, true, true, true, true, true, true, true, true, true, true, true, false, false, false, false, false, false, false] rfl rfl (any_of HT_.out (by kernel_rfl)) (fun _ _ _ h => h) (Or.inr ⟨by rfl, rfl⟩) ?_ ?_
                             rotate_left
                             ·simp only [Act.put, sT, sZ, sS, i64_w, i32_w]
                              rfl
                             refine pure_ (i := 39) (N := some 162) (v := undef) (a' := ?_) #[true, true, true, true, true, true, true, true, true, true, true, true, true, true, true, true, true, true, true, true, true, true, true, true, true, true, true, true, true, true, true, true, true, true, true, true, true, true, true, true, false, false, false, false, false, false] rfl rfl (any_of HT_.out (by kernel_rfl)) (fun _ _ _ h => h) (Or.inr ⟨by rfl, rfl⟩) ?_ ?_
                             rotate_left
                             ·simp only [Act.put, sT, sZ, sS, i64_w, i32_w]
                              rfl
                             refine pure_ (i := 40) (N := some 163) (v := undef) (a' := ?_) #[true, true, true, true, true, true, true, true, true, true, true, true, true, true, true, true, true, true, true, true, true, true, true, true, true, true, true, true, true, true, true, true, true, true, true, true, true, true, true, true, true, false, false, false, false, false] rfl rfl (any_of HT_.out (by kernel_rfl)) (fun _ _ _ h => h) (Or.inr ⟨by rfl, rfl⟩) ?_ ?_
                             rotate_left
                             ·simp only [Act.put, sT, sZ, sS, i64_w, i32_w]
                              rfl
                             refine pure_ (i := 41) (N := some 164) (v := undef) (a' := ?_) #[true, true, true, true, true, true, true, true, true, true, true, true, true, true, true, true, true, true, true, true, true, true, true, true, true, true, true, true, true, true, true, true, true, true, true, true, true, true, true, true, true, true, false, false, false, false] rfl rfl (any_of HT_.out (by kernel_rfl)) (fun _ _ _ h => h) (Or.inr ⟨by rfl, rfl⟩) ?_ ?_
                             rotate_left
                             ·simp only [Act.put, sT, sZ, sS, i64_w, i32_w]
                              rfl
                             refine pure_ (i := 42) (N := some 165) (v := undef) (a' := ?_) #[true, true, true, true, true, true, true, true, true, true, true, true, true, true, true, true, true, true, true, true, true, true, true, true, true, true, true, true, true, true, true, true, true, true, true, true, true, true, true, true, true, true, true, false, false, false] rfl rfl (any_of HT_.out (by kernel_rfl)) (fun _ _ _ h => h) (Or.inr ⟨by rfl, rfl⟩) ?_ ?_
                             rotate_left
                             ·simp only [Act.put, sT, sZ, sS, i64_w, i32_w]
                              rfl
                             refine pure_ (i := 43) (N := some 166) (v := undef) (a' := ?_) #[true, true, true, true, true, true, true, true, true, true, true, true, true, true, true, true, true, true, true, true, true, true, true, true, true, true, true, true, true, true, true, true, true, true, true, true, true, true, true, true, true, true, true, true, false, false] rfl rfl (any_of HT_.out (by kernel_rfl)) (fun _ _ _ h => h) (Or.inr ⟨by rfl, rfl⟩) ?_ ?_
                             rotate_left
                             ·simp only [Act.put, sT, sZ, sS, i64_w, i32_w]
                              rfl
                             refine pure_ (i := 44) (N := some 167) (v := ?_) (a' := ?_) #[true, true, true, true, true, true, true, true, true, true, true, true, true, true, true, true, true, true, true, true, true, true, true, true, true, true, true, true, true, true, true, true, true, true, true, true, true, true, true, true, true, true, true, true, true, false] rfl rfl (any_of HT_.out (by kernel_rfl)) (fun _ _ _ h => h) (Or.inl ⟨by rfl, ?_⟩) ?_ ?_
                             rotate_left
                             ·intro w'
                              go_simp
                              with_reducible rfl
                             rotate_left
                             ·simp only [Act.put, sT, sZ, sS, i64_w, i32_w]
                              rfl
                             refine pure_ (i := 45) (N := some 168) (v := ?_) (a' := ?_) #[true, true, true, true, true, true, true, true, true, true, true, true, true, true, true, true, true, true, true, true, true, true, true, true, true, true, true, true, true, true, true, true, true, true, true, true, true, true, true, true, true, true, true, true, true, true] rfl rfl (any_of HT_.out (by kernel_rfl)) (fun _ _ _ h => h) (Or.inl ⟨by rfl, ?_⟩) ?_ ?_
                             rotate_left
                             ·intro w'
                              go_simp
                              with_reducible rfl
                             rotate_left
                             ·simp only [Act.put, sT, sZ, sS, i64_w, i32_w]
                              rfl
                             refine done_ (done_of HT_.out (by kernel_rfl)) ?_
                             try go_wp2
                             go_roundg k6
                             case measure => have := HJ5.out; have := HJ15.out; have := HK3.out; have := HJ20.out; have := HJ43.out; have := HK6.out; omega
                             case rel => exact ⟨(wrap64 (x12_6 + 1)), (by first | rfl|(simp; done)|(simp [*]; done)), H', ⟨by have := HJ5.out; have := HJ15.out; have := HK3.out; have := HJ20.out; have := HJ43.out; have := HK6.out; omega⟩, ⟨by (with_reducible repeat (first|apply Kd.R_alloc|apply Kd.R_drewN|apply Kd.R_drew)); exact HO_6.out⟩, ⟨by repeat (first|(with_reducible first|exact HB.out|apply bA|apply bN|apply b1)|exact HB.out)⟩⟩
                         ·rw [if_neg c52] at H
                          exact absurd H (by simp)
                        ·rw [if_neg c51] at H
                         exact absurd H (by simp)
                       ·rw [if_neg c50] at H
                        exact absurd H (by simp)
                      ·rw [if_neg c49] at H
                       exact absurd H (by simp)
                     ·rw [if_neg c48] at H
                      have c48b0 : decide (x12_6 < x10_3) = false := dF c48
                      clear c48
                      by_cases c81 : 0 ≤ x10_3
                      ·rw [if_pos c81] at H
                       have c81b0 : decide (0 ≤ x10_3) = true := dT c81
                       clear c81
                       by_cases c82 : x10_3 < (t162.length : Int)
                       ·rw [if_pos c82] at H
                        have c82b0 : decide (x10_3 < (t162.length : Int)) = true := dT c82
                        clear c82
                        as_aux_lemma =>
                         have H' := Aside0.mk H
                         clear H
                         have p183 : 0 ≤ (x10_3 : Int) := oT (by first|(with_reducible assumption) | assumption)
                         have q183 : x10_3 < (t162.length : Int) := oT (by first|(with_reducible assumption) | assumption)
                         obtain ⟨ad183, e183, hx183_0⟩ := Kd.at_int (Kd.R_reads' HO_6.out).2.2 x10_3 p183 q183
                         obtain rfl : ad181 = ad183 := (by injection e183)
                         replace p183 := eq_true p183
                         replace q183 := eq_true q183
                         go_wp2
                         go_roundg k6
                         case measure => have := HJ5.out; have := HJ15.out; have := HK3.out; have := HJ20.out; have := HJ43.out; have := HK6.out; omega
                         case rel => exact ⟨(wrap64 (x9_3 + (rd t162 x10_3))), (wrap64 (x10_3 + 1)), (by first | rfl|(simp; done)|(simp [*]; done)), (by first | rfl|(simp; done)|(simp [*]; done)), H', ⟨by have := HJ5.out; have := HJ15.out; have := HK3.out; have := HJ20.out; have := HJ43.out; have := HK6.out; omega⟩, ⟨by (with_reducible repeat (first|apply Kd.R_alloc|apply Kd.R_drewN|apply Kd.R_drew)); exact HO_6.out⟩, ⟨by repeat (first|(with_reducible first|exact HB.out|apply bA|apply bN|apply b1)|exact HB.out)⟩⟩
                       ·rw [if_neg c82] at H
                        exact absurd H (by simp)
                      ·rw [if_neg c81] at H
                       exact absurd H (by simp)
               ·rw [if_neg c43] at H
                exact absurd H (by simp)
              ·rw [if_neg c42] at H
               exact absurd H (by simp)
             ·rw [if_neg c41] at H
              exact absurd H (by simp)
         ·rw [if_neg c20] at H
          have c20b0 : decide (x10_3 < (t162.length : Int)) = false := dF c20
          clear c20
          by_cases c83 : t161 = true
          ·subst c83
           have H1 : (if x9_3 = a0 then (some true) else (none)) = some r := by rw [if_pos rfl] at H; exact H
           clear H
           have H := H1
           clear H1
           by_cases c84 : x9_3 = a0
           ·rw [if_pos c84] at H
            have c84b0 : (x9_3 == a0) = true := beq_iff_eq.mpr c84
            have c84b1 : (x9_3 != a0) = false := bne_eq_false_iff_eq.mpr c84
            clear c84
            as_aux_lemma =>
             obtain rfl := Option.some.inj H
             obtain ⟨Ao85, co85, eo85⟩ := Kd.R_slice HO_6.out
             subst eo85
             go_wp2
             go_ret
             exact ⟨by first | rfl|(simp [errW_none, errW_some] <;> rfl)|(simp [*, errW_none, errW_some] <;> rfl), by repeat (first|(with_reducible first|exact HB.out|apply bA|apply bN|apply b1)|exact HB.out)⟩
           ·rw [if_neg c84] at H
            exact absurd H (by simp)
          ·replace c83 := Bool.eq_false_iff.mpr c83
           subst c83
           have H1 : (none) = some r := by rw [if_neg (show ¬ (false = true) by decide)] at H; exact H
           clear H
           have H := H1
           clear H1
           exact absurd H (by simp)

end Go.Proofs.YtcbhaoaameiacaaDoor.X
