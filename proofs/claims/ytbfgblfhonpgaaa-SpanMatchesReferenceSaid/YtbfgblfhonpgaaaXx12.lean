-- Written by a program of mine (wip/tools/xprint.py) over the kit's print.py: printed functions and hand-proved ones side by side.
import Derived.Test.YtbfgblfhonpgaaaXx0
import Derived.Test.YtbfgblfhonpgaaaXx3
import Derived.Test.YtbfgblfhonpgaaaXx4
import Derived.Test.YtbfgblfhonpgaaaXx6
import Derived.Test.YtbfgblfhonpgaaaXx7
import Derived.Test.YtbfgblfhonpgaaaXx8
import Derived.Test.YtbfgblfhonpgaaaXx9
import Derived.Test.YtbfgblfhonpgaaaXx10
import Derived.Test.YtbfgblfhonpgaaaXx11
namespace Go.Proofs.Ytbfgblfhonpgaaa.X
open Go.RowKit Go.Proofs.YtbfgblfhonpgaaaW.PrintWords Go.Proofs.YtbfgblfhonpgaaaW.PrintLast Go.Proofs.YtbfgblfhonpgaaaW.PrintMore
attribute [local go_sem] max2_int min2_int max_two min_two max_three min_three max_four min_four   -- for this text's walks alone
set_option linter.unusedVariables false
set_option linter.unusedSimpArgs false

/-! ### cohousinglaw04_SpanMatchesReference: function 7 -/
mutual
def cohousinglaw04_SpanMatchesReference.j0 : Nat → List (S30) → List (S30) → Int → Bool → Bool → Option (Bool)
  | 0, _, _, _, _, _ => none
  | k + 1, x0, x1, x2, x7, x24 => if x24 = true then (if x7 = true then (some true) else (none)) else (if x7 = true then ((span_Valid.f k x0).bind fun t270 => ((cohousingref04_Valid.f k x0).bind fun t271 => (cohousinglaw04_SpanMatchesReference.j1 k x0 x1 x2 (t270 == t271)))) else (cohousinglaw04_SpanMatchesReference.j1 k x0 x1 x2 false))
def cohousinglaw04_SpanMatchesReference.j1 : Nat → List (S30) → List (S30) → Int → Bool → Option (Bool)
  | 0, _, _, _, _ => none
  | k + 1, x0, x1, x2, x7 => (span_Normal.f x0).bind fun bt272 => ((cohousingref04_Normal.f k x0).bind fun bt276 => (if x7 = true then ((cohousingref04_Same.f k bt272.1 bt276.1).bind fun t280 => (if t280 = true then (cohousinglaw04_SpanMatchesReference.j2 k x0 x1 x2 (bt272.2 == bt276.2)) else (cohousinglaw04_SpanMatchesReference.j2 k x0 x1 x2 false))) else (cohousinglaw04_SpanMatchesReference.j2 k x0 x1 x2 false)))
def cohousinglaw04_SpanMatchesReference.j2 : Nat → List (S30) → List (S30) → Int → Bool → Option (Bool)
  | 0, _, _, _, _ => none
  | k + 1, x0, x1, x2, x7 => (span_Union.f k x0 x1).bind fun bt281 => ((cohousingref04_Union.f k x0 x1).bind fun bt285 => (if x7 = true then ((cohousingref04_Same.f k bt281.1 bt285.1).bind fun t289 => (if t289 = true then (cohousinglaw04_SpanMatchesReference.j3 k x0 x1 x2 (bt281.2 == bt285.2)) else (cohousinglaw04_SpanMatchesReference.j3 k x0 x1 x2 false))) else (cohousinglaw04_SpanMatchesReference.j3 k x0 x1 x2 false)))
def cohousinglaw04_SpanMatchesReference.j3 : Nat → List (S30) → List (S30) → Int → Bool → Option (Bool)
  | 0, _, _, _, _ => none
  | k + 1, x0, x1, x2, x7 => (span_Meet.f k x0 x1).bind fun bt290 => ((cohousingref04_Meet.f k x0 x1).bind fun bt294 => (if x7 = true then ((cohousingref04_Same.f k bt290.1 bt294.1).bind fun t298 => (if t298 = true then (cohousinglaw04_SpanMatchesReference.j4 k x0 x1 x2 (bt290.2 == bt294.2)) else (cohousinglaw04_SpanMatchesReference.j4 k x0 x1 x2 false))) else (cohousinglaw04_SpanMatchesReference.j4 k x0 x1 x2 false)))
def cohousinglaw04_SpanMatchesReference.j4 : Nat → List (S30) → List (S30) → Int → Bool → Option (Bool)
  | 0, _, _, _, _ => none
  | k + 1, x0, x1, x2, x7 => (span_Without.f k x0 x1).bind fun bt299 => ((cohousingref04_Without.f k x0 x1).bind fun bt303 => (if x7 = true then ((cohousingref04_Same.f k bt299.1 bt303.1).bind fun t307 => (if t307 = true then (cohousinglaw04_SpanMatchesReference.j5 k x0 x2 (bt299.2 == bt303.2)) else (cohousinglaw04_SpanMatchesReference.j5 k x0 x2 false))) else (cohousinglaw04_SpanMatchesReference.j5 k x0 x2 false)))
def cohousinglaw04_SpanMatchesReference.j5 : Nat → List (S30) → Int → Bool → Option (Bool)
  | 0, _, _, _ => none
  | k + 1, x0, x2, x7 => (span_Has.f k x0 x2).bind fun bt308 => ((cohousingref04_Has.f k x0 x2).bind fun bt310 => (if x7 = true then (if (bt308.1 == bt310.1) = true then ((span_Count.f k x0).bind fun bt312 => ((cohousingref04_Count.f k x0).bind fun bt314 => (if bt308.2 = bt310.2 then (if bt312.1 = bt314.1 then (if bt312.2 = bt314.2 then (some true) else (none)) else (none)) else (none)))) else ((span_Count.f k x0).bind fun bt316 => ((cohousingref04_Count.f k x0).bind fun bt318 => (none)))) else ((span_Count.f k x0).bind fun bt320 => ((cohousingref04_Count.f k x0).bind fun bt322 => (none)))))
end
def cohousinglaw04_SpanMatchesReference.f (k : Nat) (l0 : List (S30)) (l1 : List (S30)) (a2 : Int) : Option (Bool) := (cohousinglaw04_head.f k).bind fun t269 => (if (l0.length : Int) > 1200 then (cohousinglaw04_SpanMatchesReference.j0 k l0 l1 a2 t269 true) else (cohousinglaw04_SpanMatchesReference.j0 k l0 l1 a2 t269 (decide ((l1.length : Int) > 1200))))
theorem cohousinglaw04_SpanMatchesReference.mono_l : ∀ k, (∀ y0 y1 y2 y3 y4, LeO (cohousinglaw04_SpanMatchesReference.j0 k y0 y1 y2 y3 y4) (cohousinglaw04_SpanMatchesReference.j0 (k + 1) y0 y1 y2 y3 y4)) ∧ (∀ y0 y1 y2 y3, LeO (cohousinglaw04_SpanMatchesReference.j1 k y0 y1 y2 y3) (cohousinglaw04_SpanMatchesReference.j1 (k + 1) y0 y1 y2 y3)) ∧ (∀ y0 y1 y2 y3, LeO (cohousinglaw04_SpanMatchesReference.j2 k y0 y1 y2 y3) (cohousinglaw04_SpanMatchesReference.j2 (k + 1) y0 y1 y2 y3)) ∧ (∀ y0 y1 y2 y3, LeO (cohousinglaw04_SpanMatchesReference.j3 k y0 y1 y2 y3) (cohousinglaw04_SpanMatchesReference.j3 (k + 1) y0 y1 y2 y3)) ∧ (∀ y0 y1 y2 y3, LeO (cohousinglaw04_SpanMatchesReference.j4 k y0 y1 y2 y3) (cohousinglaw04_SpanMatchesReference.j4 (k + 1) y0 y1 y2 y3)) ∧ (∀ y0 y1 y2, LeO (cohousinglaw04_SpanMatchesReference.j5 k y0 y1 y2) (cohousinglaw04_SpanMatchesReference.j5 (k + 1) y0 y1 y2))
  | 0 => ⟨fun _ _ _ _ _ r h => by simp [cohousinglaw04_SpanMatchesReference.j0] at h, fun _ _ _ _ r h => by simp [cohousinglaw04_SpanMatchesReference.j1] at h, fun _ _ _ _ r h => by simp [cohousinglaw04_SpanMatchesReference.j2] at h, fun _ _ _ _ r h => by simp [cohousinglaw04_SpanMatchesReference.j3] at h, fun _ _ _ _ r h => by simp [cohousinglaw04_SpanMatchesReference.j4] at h, fun _ _ _ r h => by simp [cohousinglaw04_SpanMatchesReference.j5] at h⟩
  | k + 1 => by
    obtain ⟨ih0, ih1, ih2, ih3, ih4, ih5⟩ := cohousinglaw04_SpanMatchesReference.mono_l k
    refine ⟨?_, ?_, ?_, ?_, ?_, ?_⟩
    · intro y0 y1 y2 y3 y4
      unfold cohousinglaw04_SpanMatchesReference.j0
      repeat' first
      | (with_reducible exact ih0 _ _ _ _ _)
      | (with_reducible exact ih1 _ _ _ _)
      | (with_reducible exact ih2 _ _ _ _)
      | (with_reducible exact ih3 _ _ _ _)
      | (with_reducible exact ih4 _ _ _ _)
      | (with_reducible exact ih5 _ _ _)
      | (with_reducible exact cohousinglaw04_head.mono _)
      | (with_reducible exact cohousingref04_Count.mono _ _)
      | (with_reducible exact cohousingref04_Has.mono _ _ _)
      | (with_reducible exact cohousingref04_Meet.mono _ _ _)
      | (with_reducible exact cohousingref04_Normal.mono _ _)
      | (with_reducible exact cohousingref04_Same.mono _ _ _)
      | (with_reducible exact cohousingref04_Union.mono _ _ _)
      | (with_reducible exact cohousingref04_Valid.mono _ _)
      | (with_reducible exact cohousingref04_Without.mono _ _ _)
      | (with_reducible exact span_Count.mono _ _)
      | (with_reducible exact span_Has.mono _ _ _)
      | (with_reducible exact span_Meet.mono _ _ _)
      | (with_reducible exact span_Union.mono _ _ _)
      | (with_reducible exact span_Valid.mono _ _)
      | (with_reducible exact span_Without.mono _ _ _)
      | (with_reducible exact LeO.refl _)
      | (with_reducible exact LeO.none _)
      | (with_reducible refine LeO.ite ?_ ?_)
      | (with_reducible refine LeO.bind ?_ (fun _ => ?_))
      | exact ih0 _ _ _ _ _
      | exact ih1 _ _ _ _
      | exact ih2 _ _ _ _
      | exact ih3 _ _ _ _
      | exact ih4 _ _ _ _
      | exact ih5 _ _ _
      | exact cohousinglaw04_head.mono _
      | exact cohousingref04_Count.mono _ _
      | exact cohousingref04_Has.mono _ _ _
      | exact cohousingref04_Meet.mono _ _ _
      | exact cohousingref04_Normal.mono _ _
      | exact cohousingref04_Same.mono _ _ _
      | exact cohousingref04_Union.mono _ _ _
      | exact cohousingref04_Valid.mono _ _
      | exact cohousingref04_Without.mono _ _ _
      | exact span_Count.mono _ _
      | exact span_Has.mono _ _ _
      | exact span_Meet.mono _ _ _
      | exact span_Union.mono _ _ _
      | exact span_Valid.mono _ _
      | exact span_Without.mono _ _ _
      | exact LeO.none _
      | refine LeO.ite ?_ ?_
      | refine LeO.bind ?_ (fun _ => ?_)
    · intro y0 y1 y2 y3
      unfold cohousinglaw04_SpanMatchesReference.j1
      repeat' first
      | (with_reducible exact ih0 _ _ _ _ _)
      | (with_reducible exact ih1 _ _ _ _)
      | (with_reducible exact ih2 _ _ _ _)
      | (with_reducible exact ih3 _ _ _ _)
      | (with_reducible exact ih4 _ _ _ _)
      | (with_reducible exact ih5 _ _ _)
      | (with_reducible exact cohousinglaw04_head.mono _)
      | (with_reducible exact cohousingref04_Count.mono _ _)
      | (with_reducible exact cohousingref04_Has.mono _ _ _)
      | (with_reducible exact cohousingref04_Meet.mono _ _ _)
      | (with_reducible exact cohousingref04_Normal.mono _ _)
      | (with_reducible exact cohousingref04_Same.mono _ _ _)
      | (with_reducible exact cohousingref04_Union.mono _ _ _)
      | (with_reducible exact cohousingref04_Valid.mono _ _)
      | (with_reducible exact cohousingref04_Without.mono _ _ _)
      | (with_reducible exact span_Count.mono _ _)
      | (with_reducible exact span_Has.mono _ _ _)
      | (with_reducible exact span_Meet.mono _ _ _)
      | (with_reducible exact span_Union.mono _ _ _)
      | (with_reducible exact span_Valid.mono _ _)
      | (with_reducible exact span_Without.mono _ _ _)
      | (with_reducible exact LeO.refl _)
      | (with_reducible exact LeO.none _)
      | (with_reducible refine LeO.ite ?_ ?_)
      | (with_reducible refine LeO.bind ?_ (fun _ => ?_))
      | exact ih0 _ _ _ _ _
      | exact ih1 _ _ _ _
      | exact ih2 _ _ _ _
      | exact ih3 _ _ _ _
      | exact ih4 _ _ _ _
      | exact ih5 _ _ _
      | exact cohousinglaw04_head.mono _
      | exact cohousingref04_Count.mono _ _
      | exact cohousingref04_Has.mono _ _ _
      | exact cohousingref04_Meet.mono _ _ _
      | exact cohousingref04_Normal.mono _ _
      | exact cohousingref04_Same.mono _ _ _
      | exact cohousingref04_Union.mono _ _ _
      | exact cohousingref04_Valid.mono _ _
      | exact cohousingref04_Without.mono _ _ _
      | exact span_Count.mono _ _
      | exact span_Has.mono _ _ _
      | exact span_Meet.mono _ _ _
      | exact span_Union.mono _ _ _
      | exact span_Valid.mono _ _
      | exact span_Without.mono _ _ _
      | exact LeO.none _
      | refine LeO.ite ?_ ?_
      | refine LeO.bind ?_ (fun _ => ?_)
    · intro y0 y1 y2 y3
      unfold cohousinglaw04_SpanMatchesReference.j2
      repeat' first
      | (with_reducible exact ih0 _ _ _ _ _)
      | (with_reducible exact ih1 _ _ _ _)
      | (with_reducible exact ih2 _ _ _ _)
      | (with_reducible exact ih3 _ _ _ _)
      | (with_reducible exact ih4 _ _ _ _)
      | (with_reducible exact ih5 _ _ _)
      | (with_reducible exact cohousinglaw04_head.mono _)
      | (with_reducible exact cohousingref04_Count.mono _ _)
      | (with_reducible exact cohousingref04_Has.mono _ _ _)
      | (with_reducible exact cohousingref04_Meet.mono _ _ _)
      | (with_reducible exact cohousingref04_Normal.mono _ _)
      | (with_reducible exact cohousingref04_Same.mono _ _ _)
      | (with_reducible exact cohousingref04_Union.mono _ _ _)
      | (with_reducible exact cohousingref04_Valid.mono _ _)
      | (with_reducible exact cohousingref04_Without.mono _ _ _)
      | (with_reducible exact span_Count.mono _ _)
      | (with_reducible exact span_Has.mono _ _ _)
      | (with_reducible exact span_Meet.mono _ _ _)
      | (with_reducible exact span_Union.mono _ _ _)
      | (with_reducible exact span_Valid.mono _ _)
      | (with_reducible exact span_Without.mono _ _ _)
      | (with_reducible exact LeO.refl _)
      | (with_reducible exact LeO.none _)
      | (with_reducible refine LeO.ite ?_ ?_)
      | (with_reducible refine LeO.bind ?_ (fun _ => ?_))
      | exact ih0 _ _ _ _ _
      | exact ih1 _ _ _ _
      | exact ih2 _ _ _ _
      | exact ih3 _ _ _ _
      | exact ih4 _ _ _ _
      | exact ih5 _ _ _
      | exact cohousinglaw04_head.mono _
      | exact cohousingref04_Count.mono _ _
      | exact cohousingref04_Has.mono _ _ _
      | exact cohousingref04_Meet.mono _ _ _
      | exact cohousingref04_Normal.mono _ _
      | exact cohousingref04_Same.mono _ _ _
      | exact cohousingref04_Union.mono _ _ _
      | exact cohousingref04_Valid.mono _ _
      | exact cohousingref04_Without.mono _ _ _
      | exact span_Count.mono _ _
      | exact span_Has.mono _ _ _
      | exact span_Meet.mono _ _ _
      | exact span_Union.mono _ _ _
      | exact span_Valid.mono _ _
      | exact span_Without.mono _ _ _
      | exact LeO.none _
      | refine LeO.ite ?_ ?_
      | refine LeO.bind ?_ (fun _ => ?_)
    · intro y0 y1 y2 y3
      unfold cohousinglaw04_SpanMatchesReference.j3
      repeat' first
      | (with_reducible exact ih0 _ _ _ _ _)
      | (with_reducible exact ih1 _ _ _ _)
      | (with_reducible exact ih2 _ _ _ _)
      | (with_reducible exact ih3 _ _ _ _)
      | (with_reducible exact ih4 _ _ _ _)
      | (with_reducible exact ih5 _ _ _)
      | (with_reducible exact cohousinglaw04_head.mono _)
      | (with_reducible exact cohousingref04_Count.mono _ _)
      | (with_reducible exact cohousingref04_Has.mono _ _ _)
      | (with_reducible exact cohousingref04_Meet.mono _ _ _)
      | (with_reducible exact cohousingref04_Normal.mono _ _)
      | (with_reducible exact cohousingref04_Same.mono _ _ _)
      | (with_reducible exact cohousingref04_Union.mono _ _ _)
      | (with_reducible exact cohousingref04_Valid.mono _ _)
      | (with_reducible exact cohousingref04_Without.mono _ _ _)
      | (with_reducible exact span_Count.mono _ _)
      | (with_reducible exact span_Has.mono _ _ _)
      | (with_reducible exact span_Meet.mono _ _ _)
      | (with_reducible exact span_Union.mono _ _ _)
      | (with_reducible exact span_Valid.mono _ _)
      | (with_reducible exact span_Without.mono _ _ _)
      | (with_reducible exact LeO.refl _)
      | (with_reducible exact LeO.none _)
      | (with_reducible refine LeO.ite ?_ ?_)
      | (with_reducible refine LeO.bind ?_ (fun _ => ?_))
      | exact ih0 _ _ _ _ _
      | exact ih1 _ _ _ _
      | exact ih2 _ _ _ _
      | exact ih3 _ _ _ _
      | exact ih4 _ _ _ _
      | exact ih5 _ _ _
      | exact cohousinglaw04_head.mono _
      | exact cohousingref04_Count.mono _ _
      | exact cohousingref04_Has.mono _ _ _
      | exact cohousingref04_Meet.mono _ _ _
      | exact cohousingref04_Normal.mono _ _
      | exact cohousingref04_Same.mono _ _ _
      | exact cohousingref04_Union.mono _ _ _
      | exact cohousingref04_Valid.mono _ _
      | exact cohousingref04_Without.mono _ _ _
      | exact span_Count.mono _ _
      | exact span_Has.mono _ _ _
      | exact span_Meet.mono _ _ _
      | exact span_Union.mono _ _ _
      | exact span_Valid.mono _ _
      | exact span_Without.mono _ _ _
      | exact LeO.none _
      | refine LeO.ite ?_ ?_
      | refine LeO.bind ?_ (fun _ => ?_)
    · intro y0 y1 y2 y3
      unfold cohousinglaw04_SpanMatchesReference.j4
      repeat' first
      | (with_reducible exact ih0 _ _ _ _ _)
      | (with_reducible exact ih1 _ _ _ _)
      | (with_reducible exact ih2 _ _ _ _)
      | (with_reducible exact ih3 _ _ _ _)
      | (with_reducible exact ih4 _ _ _ _)
      | (with_reducible exact ih5 _ _ _)
      | (with_reducible exact cohousinglaw04_head.mono _)
      | (with_reducible exact cohousingref04_Count.mono _ _)
      | (with_reducible exact cohousingref04_Has.mono _ _ _)
      | (with_reducible exact cohousingref04_Meet.mono _ _ _)
      | (with_reducible exact cohousingref04_Normal.mono _ _)
      | (with_reducible exact cohousingref04_Same.mono _ _ _)
      | (with_reducible exact cohousingref04_Union.mono _ _ _)
      | (with_reducible exact cohousingref04_Valid.mono _ _)
      | (with_reducible exact cohousingref04_Without.mono _ _ _)
      | (with_reducible exact span_Count.mono _ _)
      | (with_reducible exact span_Has.mono _ _ _)
      | (with_reducible exact span_Meet.mono _ _ _)
      | (with_reducible exact span_Union.mono _ _ _)
      | (with_reducible exact span_Valid.mono _ _)
      | (with_reducible exact span_Without.mono _ _ _)
      | (with_reducible exact LeO.refl _)
      | (with_reducible exact LeO.none _)
      | (with_reducible refine LeO.ite ?_ ?_)
      | (with_reducible refine LeO.bind ?_ (fun _ => ?_))
      | exact ih0 _ _ _ _ _
      | exact ih1 _ _ _ _
      | exact ih2 _ _ _ _
      | exact ih3 _ _ _ _
      | exact ih4 _ _ _ _
      | exact ih5 _ _ _
      | exact cohousinglaw04_head.mono _
      | exact cohousingref04_Count.mono _ _
      | exact cohousingref04_Has.mono _ _ _
      | exact cohousingref04_Meet.mono _ _ _
      | exact cohousingref04_Normal.mono _ _
      | exact cohousingref04_Same.mono _ _ _
      | exact cohousingref04_Union.mono _ _ _
      | exact cohousingref04_Valid.mono _ _
      | exact cohousingref04_Without.mono _ _ _
      | exact span_Count.mono _ _
      | exact span_Has.mono _ _ _
      | exact span_Meet.mono _ _ _
      | exact span_Union.mono _ _ _
      | exact span_Valid.mono _ _
      | exact span_Without.mono _ _ _
      | exact LeO.none _
      | refine LeO.ite ?_ ?_
      | refine LeO.bind ?_ (fun _ => ?_)
    · intro y0 y1 y2
      unfold cohousinglaw04_SpanMatchesReference.j5
      repeat' first
      | (with_reducible exact ih0 _ _ _ _ _)
      | (with_reducible exact ih1 _ _ _ _)
      | (with_reducible exact ih2 _ _ _ _)
      | (with_reducible exact ih3 _ _ _ _)
      | (with_reducible exact ih4 _ _ _ _)
      | (with_reducible exact ih5 _ _ _)
      | (with_reducible exact cohousinglaw04_head.mono _)
      | (with_reducible exact cohousingref04_Count.mono _ _)
      | (with_reducible exact cohousingref04_Has.mono _ _ _)
      | (with_reducible exact cohousingref04_Meet.mono _ _ _)
      | (with_reducible exact cohousingref04_Normal.mono _ _)
      | (with_reducible exact cohousingref04_Same.mono _ _ _)
      | (with_reducible exact cohousingref04_Union.mono _ _ _)
      | (with_reducible exact cohousingref04_Valid.mono _ _)
      | (with_reducible exact cohousingref04_Without.mono _ _ _)
      | (with_reducible exact span_Count.mono _ _)
      | (with_reducible exact span_Has.mono _ _ _)
      | (with_reducible exact span_Meet.mono _ _ _)
      | (with_reducible exact span_Union.mono _ _ _)
      | (with_reducible exact span_Valid.mono _ _)
      | (with_reducible exact span_Without.mono _ _ _)
      | (with_reducible exact LeO.refl _)
      | (with_reducible exact LeO.none _)
      | (with_reducible refine LeO.ite ?_ ?_)
      | (with_reducible refine LeO.bind ?_ (fun _ => ?_))
      | exact ih0 _ _ _ _ _
      | exact ih1 _ _ _ _
      | exact ih2 _ _ _ _
      | exact ih3 _ _ _ _
      | exact ih4 _ _ _ _
      | exact ih5 _ _ _
      | exact cohousinglaw04_head.mono _
      | exact cohousingref04_Count.mono _ _
      | exact cohousingref04_Has.mono _ _ _
      | exact cohousingref04_Meet.mono _ _ _
      | exact cohousingref04_Normal.mono _ _
      | exact cohousingref04_Same.mono _ _ _
      | exact cohousingref04_Union.mono _ _ _
      | exact cohousingref04_Valid.mono _ _
      | exact cohousingref04_Without.mono _ _ _
      | exact span_Count.mono _ _
      | exact span_Has.mono _ _ _
      | exact span_Meet.mono _ _ _
      | exact span_Union.mono _ _ _
      | exact span_Valid.mono _ _
      | exact span_Without.mono _ _ _
      | exact LeO.none _
      | refine LeO.ite ?_ ?_
      | refine LeO.bind ?_ (fun _ => ?_)
theorem cohousinglaw04_SpanMatchesReference.mono : ∀ a0 a1 a2 k, LeO (cohousinglaw04_SpanMatchesReference.f k a0 a1 a2) (cohousinglaw04_SpanMatchesReference.f (k + 1) a0 a1 a2) := by
  intro a0 a1 a2 k
  obtain ⟨ih0, ih1, ih2, ih3, ih4, ih5⟩ := cohousinglaw04_SpanMatchesReference.mono_l k
  unfold cohousinglaw04_SpanMatchesReference.f
  repeat' first
      | (with_reducible exact ih0 _ _ _ _ _)
      | (with_reducible exact ih1 _ _ _ _)
      | (with_reducible exact ih2 _ _ _ _)
      | (with_reducible exact ih3 _ _ _ _)
      | (with_reducible exact ih4 _ _ _ _)
      | (with_reducible exact ih5 _ _ _)
      | (with_reducible exact cohousinglaw04_head.mono _)
      | (with_reducible exact cohousingref04_Count.mono _ _)
      | (with_reducible exact cohousingref04_Has.mono _ _ _)
      | (with_reducible exact cohousingref04_Meet.mono _ _ _)
      | (with_reducible exact cohousingref04_Normal.mono _ _)
      | (with_reducible exact cohousingref04_Same.mono _ _ _)
      | (with_reducible exact cohousingref04_Union.mono _ _ _)
      | (with_reducible exact cohousingref04_Valid.mono _ _)
      | (with_reducible exact cohousingref04_Without.mono _ _ _)
      | (with_reducible exact span_Count.mono _ _)
      | (with_reducible exact span_Has.mono _ _ _)
      | (with_reducible exact span_Meet.mono _ _ _)
      | (with_reducible exact span_Union.mono _ _ _)
      | (with_reducible exact span_Valid.mono _ _)
      | (with_reducible exact span_Without.mono _ _ _)
      | (with_reducible exact LeO.refl _)
      | (with_reducible exact LeO.none _)
      | (with_reducible refine LeO.ite ?_ ?_)
      | (with_reducible refine LeO.bind ?_ (fun _ => ?_))
      | exact ih0 _ _ _ _ _
      | exact ih1 _ _ _ _
      | exact ih2 _ _ _ _
      | exact ih3 _ _ _ _
      | exact ih4 _ _ _ _
      | exact ih5 _ _ _
      | exact cohousinglaw04_head.mono _
      | exact cohousingref04_Count.mono _ _
      | exact cohousingref04_Has.mono _ _ _
      | exact cohousingref04_Meet.mono _ _ _
      | exact cohousingref04_Normal.mono _ _
      | exact cohousingref04_Same.mono _ _ _
      | exact cohousingref04_Union.mono _ _ _
      | exact cohousingref04_Valid.mono _ _
      | exact cohousingref04_Without.mono _ _ _
      | exact span_Count.mono _ _
      | exact span_Has.mono _ _ _
      | exact span_Meet.mono _ _ _
      | exact span_Union.mono _ _ _
      | exact span_Valid.mono _ _
      | exact span_Without.mono _ _ _
      | exact LeO.none _
      | refine LeO.ite ?_ ?_
      | refine LeO.bind ?_ (fun _ => ?_)
set_option maxHeartbeats 8000000 in
set_option maxRecDepth 100000 in
theorem cohousinglaw04_SpanMatchesReference.calls (k : Nat) (A0 : Option Addr) (c0 : Nat) (l0 : List (S30)) (A1 : Option Addr) (c1 : Nat) (l1 : List (S30)) (a2 : Int) (r : Bool) (w : World) (hr0 : Kd.C k30 w A0 l0.length l0) (hc0 : l0.length ≤ c0) (hr1 : Kd.C k30 w A1 l1.length l1) (hc1 : l1.length ≤ c1) (h : cohousinglaw04_SpanMatchesReference.f k l0 l1 a2 = some r) :
    Calls Try.prog 7 #[.slice A0 l0.length c0, .slice A1 l1.length c1, .int .i64 a2] w fun e w' => e = .returned (.bool r) ∧ Below w.heap.size w w' := by
  have HR0 := Aside0.mk hr0
  have HC0 := Aside0.mk hc0
  clear hr0 hc0
  have HR1 := Aside0.mk hr1
  have HC1 := Aside0.mk hc1
  clear hr1 hc1
  have HB := Aside0.mk (Below.refl w.heap.size w)
  have H : ((cohousinglaw04_head.f k).bind fun t269 => (if (l0.length : Int) > 1200 then (cohousinglaw04_SpanMatchesReference.j0 k l0 l1 a2 t269 true) else (cohousinglaw04_SpanMatchesReference.j0 k l0 l1 a2 t269 (decide ((l1.length : Int) > 1200))))) = some r := h
  clear h
  replace H := Option.bind_eq_some_iff.mp H
  obtain ⟨t269, A40, H⟩ := H
  replace H : (if (l0.length : Int) > 1200 then (cohousinglaw04_SpanMatchesReference.j0 k l0 l1 a2 t269 true) else (cohousinglaw04_SpanMatchesReference.j0 k l0 l1 a2 t269 (decide ((l1.length : Int) > 1200)))) = some r := H
  have A4 := Aside0.mk A40
  clear A40
  have HC5 := Aside0.mk H
  clear H
  go_enter Try.func7, Try.ntmps7
  go_upto_region 2 with (first | ((with_reducible refine gate_callee (f := 9) rfl ?_); refine goesL_ (some 16) rfl rfl Try.func9 (by kernel_rfl) rfl #[] rfl (by (try simp only [List.map_toArray, List.map_cons, List.map_nil]); first | done | rfl | (simp only [List.length_drop, List.length_take]; rfl)) ?_; (with_reducible refine (cohousinglaw04_head.calls k  t269 _ A4.out).mono ?_); rintro e w6 ⟨rfl, hb⟩; refine ⟨_, rfl, ?_⟩; have n0_ := Aside0.mk (below_step (by repeat (first | (with_reducible first | exact HB.out | apply below_alloc | apply pw_below_drewN | apply below_drew1) | exact HB.out)) hb); clear HB; have HB := n0_; clear n0_; (try clear hb); (try clear hb2); (try clear hk); (try clear hi)))
  (try simp only [Act.put, List.setIfInBounds_toArray, List.set_cons_zero, List.set_cons_succ])
  go_cut [24] (fun v24 wc => ∃ (kq : Nat) (x24_4 : Bool), v24 = .bool x24_4 ∧ Aside0 (cohousinglaw04_SpanMatchesReference.j0 kq l0 l1 a2 t269 x24_4 = some r) ∧ Aside0 (kq ≤ k) ∧ Aside0 (Below w.heap.size w wc))
  case first =>
    have H := HC5.out
    clear HC5
    by_cases c7 : (l0.length : Int) > 1200
    · rw [if_pos c7] at H
      have c7b0 : decide (1200 < (l0.length : Int)) = true := decide_eq_true c7
      have c7b1 : decide (1200 < l0.length) = true := decide_eq_true (by omega)
      clear c7
      (first | rw [c7b0] | (simp only [i64_w, i32_w]; rw [c7b0]) | skip)
      have H' := Aside0.mk H
      clear H
      go_wp2
      go_meet
      case rel => exact ⟨_, (true), (by first | rfl | (simp; done) | (simp [*]; done)), H', ⟨by first | omega | exact Nat.le_refl _⟩, ⟨by repeat (first | (with_reducible first | exact HB.out | apply below_alloc | apply pw_below_drewN | apply below_drew1) | exact HB.out)⟩⟩
    · rw [if_neg c7] at H
      have c7b0 : decide (1200 < (l0.length : Int)) = false := decide_eq_false c7
      have c7b1 : decide (1200 < l0.length) = false := decide_eq_false (by omega)
      clear c7
      (first | rw [c7b0] | (simp only [i64_w, i32_w]; rw [c7b0]) | skip)
      have H' := Aside0.mk H
      clear H
      go_wp2
      go_meet
      case rel => exact ⟨_, (decide ((l1.length : Int) > 1200)), (by first | rfl | (simp; done) | (simp [*]; done)), H', ⟨by first | omega | exact Nat.le_refl _⟩, ⟨by repeat (first | (with_reducible first | exact HB.out | apply below_alloc | apply pw_below_drewN | apply below_drew1) | exact HB.out)⟩⟩
  case rest =>
    clear HC5
    try clear c1
    try clear p2
    try clear c7
    try clear c7b0
    try clear c7b1
    obtain ⟨kq, x24_4, rfl, HA, HJ4, HB⟩ := hcut
    cases kq with
    | zero => exact absurd HA.out (by simp [cohousinglaw04_SpanMatchesReference.j0])
    | succ kj4 =>
      have H := HA.out
      clear HA
      simp only [cohousinglaw04_SpanMatchesReference.j0] at H
      by_cases c8 : x24_4 = true
      · subst c8
        have H1 : (if t269 = true then (some true) else (none)) = some r := by rw [if_pos rfl] at H; exact H
        clear H
        have H := H1
        clear H1
        by_cases c9 : t269 = true
        · subst c9
          have H1 : (some true) = some r := by rw [if_pos rfl] at H; exact H
          clear H
          have H := H1
          clear H1
          obtain rfl := Option.some.inj H
          go_wp2
          go_ret
          exact ⟨by first | rfl | (simp [errW_none, errW_some] <;> rfl) | (simp [*, errW_none, errW_some] <;> rfl), by repeat (first | (with_reducible first | exact HB.out | apply below_alloc | apply pw_below_drewN | apply below_drew1) | exact HB.out)⟩
        · replace c9 := Bool.eq_false_iff.mpr c9
          subst c9
          have H1 : (none) = some r := by rw [if_neg (show ¬ (false = true) by decide)] at H; exact H
          clear H
          have H := H1
          clear H1
          exact absurd H (by simp)
      · replace c8 := Bool.eq_false_iff.mpr c8
        subst c8
        have H1 : (if t269 = true then ((span_Valid.f kj4 l0).bind fun t270 => ((cohousingref04_Valid.f kj4 l0).bind fun t271 => (cohousinglaw04_SpanMatchesReference.j1 kj4 l0 l1 a2 (t270 == t271)))) else (cohousinglaw04_SpanMatchesReference.j1 kj4 l0 l1 a2 false)) = some r := by rw [if_neg (show ¬ (false = true) by decide)] at H; exact H
        clear H
        have H := H1
        clear H1
        have HC10 := Aside0.mk H
        clear H
        go_upto_region 4 with (fail)
        go_cut [7] (fun v7 wc => ∃ (kq : Nat) (x7_9 : Bool), v7 = .bool x7_9 ∧ Aside0 (cohousinglaw04_SpanMatchesReference.j1 kq l0 l1 a2 x7_9 = some r) ∧ Aside0 (kq ≤ kj4) ∧ Aside0 (Below w.heap.size w wc))
        case first =>
          have H := HC10.out
          clear HC10
          by_cases c11 : t269 = true
          · subst c11
            have H1 : ((span_Valid.f kj4 l0).bind fun t270 => ((cohousingref04_Valid.f kj4 l0).bind fun t271 => (cohousinglaw04_SpanMatchesReference.j1 kj4 l0 l1 a2 (t270 == t271)))) = some r := by rw [if_pos rfl] at H; exact H
            clear H
            have H := H1
            clear H1
            replace H := Option.bind_eq_some_iff.mp H
            obtain ⟨t270, A120, H⟩ := H
            replace H : ((cohousingref04_Valid.f kj4 l0).bind fun t271 => (cohousinglaw04_SpanMatchesReference.j1 kj4 l0 l1 a2 (t270 == t271))) = some r := H
            have A12 := Aside0.mk A120
            clear A120
            replace H := Option.bind_eq_some_iff.mp H
            obtain ⟨t271, A130, H⟩ := H
            replace H : (cohousinglaw04_SpanMatchesReference.j1 kj4 l0 l1 a2 (t270 == t271)) = some r := H
            have A13 := Aside0.mk A130
            clear A130
            have H' := Aside0.mk H
            clear H
            go_wp2_with (first | (go_at_call 10; (with_reducible refine (span_Valid.calls kj4 _ _ l0 t270 _ ?side1 ?side2 A12.out).mono ?_); (case side1 => repeat (first | exact (Kd.C_below HR0.out HB.out) | (with_reducible refine Kd.C_alloc ?_ _) | (with_reducible refine Kd.C_drewN ?_ _) | (with_reducible refine Kd.C_drew ?_))); (case side2 => exact HC0.out); rintro e w14 ⟨rfl, hb⟩; have n0_ := Aside0.mk (below_step (by repeat (first | (with_reducible first | exact HB.out | apply below_alloc | apply pw_below_drewN | apply below_drew1) | exact HB.out)) hb); clear HB; have HB := n0_; clear n0_; (try clear hb); (try clear hb2); (try clear hk); (try clear hi)) | (go_at_call 19; (with_reducible refine (cohousingref04_Valid.calls kj4 _ _ l0 t271 _ ?side1 ?side2 A13.out).mono ?_); (case side1 => repeat (first | exact (Kd.C_below HR0.out HB.out) | (with_reducible refine Kd.C_alloc ?_ _) | (with_reducible refine Kd.C_drewN ?_ _) | (with_reducible refine Kd.C_drew ?_))); (case side2 => exact HC0.out); rintro e w15 ⟨rfl, hb⟩; have n0_ := Aside0.mk (below_step (by repeat (first | (with_reducible first | exact HB.out | apply below_alloc | apply pw_below_drewN | apply below_drew1) | exact HB.out)) hb); clear HB; have HB := n0_; clear n0_; (try clear hb); (try clear hb2); (try clear hk); (try clear hi)))
            go_meet
            case rel => exact ⟨_, ((t270 == t271)), (by first | rfl | (simp; done) | (simp [*]; done)), H', ⟨by have := HJ4.out; first | omega | exact Nat.le_refl _⟩, ⟨by repeat (first | (with_reducible first | exact HB.out | apply below_alloc | apply pw_below_drewN | apply below_drew1) | exact HB.out)⟩⟩
          · replace c11 := Bool.eq_false_iff.mpr c11
            subst c11
            have H1 : (cohousinglaw04_SpanMatchesReference.j1 kj4 l0 l1 a2 false) = some r := by rw [if_neg (show ¬ (false = true) by decide)] at H; exact H
            clear H
            have H := H1
            clear H1
            have H' := Aside0.mk H
            clear H
            go_wp2
            go_meet
            case rel => exact ⟨_, (false), (by first | rfl | (simp; done) | (simp [*]; done)), H', ⟨by have := HJ4.out; first | omega | exact Nat.le_refl _⟩, ⟨by repeat (first | (with_reducible first | exact HB.out | apply below_alloc | apply pw_below_drewN | apply below_drew1) | exact HB.out)⟩⟩
        case rest =>
          clear HC10
          try clear c1
          try clear p2
          try clear c7
          try clear c7b0
          try clear c7b1
          try clear c8
          try clear c9
          try clear c11
          try clear p2
          obtain ⟨kq, x7_9, rfl, HA, HJ9, HB⟩ := hcut
          cases kq with
          | zero => exact absurd HA.out (by simp [cohousinglaw04_SpanMatchesReference.j1])
          | succ kj9 =>
            have H := HA.out
            clear HA
            simp only [cohousinglaw04_SpanMatchesReference.j1] at H
            replace H := Option.bind_eq_some_iff.mp H
            obtain ⟨⟨t272, t273⟩, A160, H⟩ := H
            replace H : ((cohousingref04_Normal.f kj9 l0).bind fun bt276 => (if x7_9 = true then ((cohousingref04_Same.f kj9 t272 bt276.1).bind fun t280 => (if t280 = true then (cohousinglaw04_SpanMatchesReference.j2 kj9 l0 l1 a2 (t273 == bt276.2)) else (cohousinglaw04_SpanMatchesReference.j2 kj9 l0 l1 a2 false))) else (cohousinglaw04_SpanMatchesReference.j2 kj9 l0 l1 a2 false))) = some r := H
            have A16 := Aside0.mk A160
            clear A160
            replace H := Option.bind_eq_some_iff.mp H
            obtain ⟨⟨t276, t277⟩, A170, H⟩ := H
            replace H : (if x7_9 = true then ((cohousingref04_Same.f kj9 t272 t276).bind fun t280 => (if t280 = true then (cohousinglaw04_SpanMatchesReference.j2 kj9 l0 l1 a2 (t273 == t277)) else (cohousinglaw04_SpanMatchesReference.j2 kj9 l0 l1 a2 false))) else (cohousinglaw04_SpanMatchesReference.j2 kj9 l0 l1 a2 false)) = some r := H
            have A17 := Aside0.mk A170
            clear A170
            have HC18 := Aside0.mk H
            clear H
            go_upto_region 7 with (first | ((with_reducible refine gate_callee (f := 11) rfl ?_); refine goesL_ (some 36) rfl rfl Try.func11 (by kernel_rfl) rfl #[.slice A0 l0.length c0] rfl (by (try simp only [List.map_toArray, List.map_cons, List.map_nil]); first | done | rfl | (simp only [List.length_drop, List.length_take]; rfl)) ?_; (with_reducible refine (span_Normal.calls _ _ l0 t272 t273 _ ?side1 ?side2 A16.out).mono ?_); (case side1 => repeat (first | exact (Kd.C_below HR0.out HB.out) | (with_reducible refine Kd.C_alloc ?_ _) | (with_reducible refine Kd.C_drewN ?_ _) | (with_reducible refine Kd.C_drew ?_))); (case side2 => exact HC0.out); rintro e w19 ⟨v274, rfl, ho0, hb⟩; refine ⟨_, rfl, ?_⟩; have n0_ := Aside0.mk (Kd.R_lower ho0 (below_size (by repeat (first | (with_reducible first | exact HB.out | apply below_alloc | apply pw_below_drewN | apply below_drew1) | exact HB.out)))); have n1_ := Aside0.mk (below_step (by repeat (first | (with_reducible first | exact HB.out | apply below_alloc | apply pw_below_drewN | apply below_drew1) | exact HB.out)) hb); clear HB; have HO275 := n0_; have HB := n1_; clear n0_ n1_; (try clear hb); (try clear hb2); (try clear hk); (try clear hi); (try clear ho0)) | ((with_reducible refine gate_callee (f := 20) rfl ?_); refine goesL_ (some 41) rfl rfl Try.func20 (by kernel_rfl) rfl #[.slice A0 l0.length c0] rfl (by (try simp only [List.map_toArray, List.map_cons, List.map_nil]); first | done | rfl | (simp only [List.length_drop, List.length_take]; rfl)) ?_; (with_reducible refine (cohousingref04_Normal.calls kj9 _ _ l0 t276 t277 _ ?side1 ?side2 A17.out).mono ?_); (case side1 => repeat (first | exact (Kd.C_below HR0.out HB.out) | (with_reducible refine Kd.C_alloc ?_ _) | (with_reducible refine Kd.C_drewN ?_ _) | (with_reducible refine Kd.C_drew ?_))); (case side2 => exact HC0.out); rintro e w20 ⟨v278, rfl, ho0, hb⟩; refine ⟨_, rfl, ?_⟩; have n0_ := Aside0.mk (Kd.R_elder' (by (with_reducible repeat (first | apply Kd.R_alloc | apply Kd.R_drewN | apply Kd.R_drew)); exact HO275.out) (Kd.R_base ho0) hb); have n1_ := Aside0.mk (Kd.R_lower (Kd.R_new' ho0 (Kd.R_lt (by (with_reducible repeat (first | apply Kd.R_alloc | apply Kd.R_drewN | apply Kd.R_drew)); exact HO275.out))) (below_size (by repeat (first | (with_reducible first | exact HB.out | apply below_alloc | apply pw_below_drewN | apply below_drew1) | exact HB.out)))); have n2_ := Aside0.mk (below_step (by repeat (first | (with_reducible first | exact HB.out | apply below_alloc | apply pw_below_drewN | apply below_drew1) | exact HB.out)) hb); clear HO275; clear HB; have HO275 := n0_; have HO279 := n1_; have HB := n2_; clear n0_ n1_ n2_; (try clear hb); (try clear hb2); (try clear hk); (try clear hi); (try clear ho0)))
            (try simp only [Act.put, List.setIfInBounds_toArray, List.set_cons_zero, List.set_cons_succ])
            go_cut [7] (fun v7 wc => ∃ (kq : Nat) (x7_17 : Bool), v7 = .bool x7_17 ∧ Aside0 (cohousinglaw04_SpanMatchesReference.j2 kq l0 l1 a2 x7_17 = some r) ∧ Aside0 (kq ≤ kj9) ∧ Aside0 (Below w.heap.size w wc))
            case first =>
              have H := HC18.out
              clear HC18
              by_cases c21 : x7_9 = true
              · subst c21
                have H1 : ((cohousingref04_Same.f kj9 t272 t276).bind fun t280 => (if t280 = true then (cohousinglaw04_SpanMatchesReference.j2 kj9 l0 l1 a2 (t273 == t277)) else (cohousinglaw04_SpanMatchesReference.j2 kj9 l0 l1 a2 false))) = some r := by rw [if_pos rfl] at H; exact H
                clear H
                have H := H1
                clear H1
                replace H := Option.bind_eq_some_iff.mp H
                obtain ⟨t280, A220, H⟩ := H
                replace H : (if t280 = true then (cohousinglaw04_SpanMatchesReference.j2 kj9 l0 l1 a2 (t273 == t277)) else (cohousinglaw04_SpanMatchesReference.j2 kj9 l0 l1 a2 false)) = some r := H
                have A22 := Aside0.mk A220
                clear A220
                by_cases c23 : t280 = true
                · subst c23
                  have H1 : (cohousinglaw04_SpanMatchesReference.j2 kj9 l0 l1 a2 (t273 == t277)) = some r := by rw [if_pos rfl] at H; exact H
                  clear H
                  have H := H1
                  clear H1
                  have H' := Aside0.mk H
                  clear H
                  obtain ⟨Ao24, co24, eo24⟩ := Kd.R_slice HO275.out
                  subst eo24
                  obtain ⟨Ao25, co25, eo25⟩ := Kd.R_slice HO279.out
                  subst eo25
                  go_wp2_with (first | (go_at_call 12; (with_reducible refine (cohousingref04_Same.calls kj9 _ _ t272 _ _ t276 true _ ?side1 ?side2 ?side3 ?side4 A22.out).mono ?_); (case side1 => repeat (first | exact (Kd.R_reads' HO275.out).2.2 | (with_reducible refine Kd.C_alloc ?_ _) | (with_reducible refine Kd.C_drewN ?_ _) | (with_reducible refine Kd.C_drew ?_))); (case side2 => exact (Kd.R_reads' HO275.out).2.1); (case side3 => repeat (first | exact (Kd.R_reads' HO279.out).2.2 | (with_reducible refine Kd.C_alloc ?_ _) | (with_reducible refine Kd.C_drewN ?_ _) | (with_reducible refine Kd.C_drew ?_))); (case side4 => exact (Kd.R_reads' HO279.out).2.1); rintro e w' ⟨rfl, ⟨nd, rfl⟩⟩))
                  go_meet
                  case rel => exact ⟨_, ((t273 == t277)), (by first | rfl | (simp; done) | (simp [*]; done)), H', ⟨by have := HJ4.out; have := HJ9.out; first | omega | exact Nat.le_refl _⟩, ⟨by repeat (first | (with_reducible first | exact HB.out | apply below_alloc | apply pw_below_drewN | apply below_drew1) | exact HB.out)⟩⟩
                · replace c23 := Bool.eq_false_iff.mpr c23
                  subst c23
                  have H1 : (cohousinglaw04_SpanMatchesReference.j2 kj9 l0 l1 a2 false) = some r := by rw [if_neg (show ¬ (false = true) by decide)] at H; exact H
                  clear H
                  have H := H1
                  clear H1
                  have H' := Aside0.mk H
                  clear H
                  obtain ⟨Ao26, co26, eo26⟩ := Kd.R_slice HO275.out
                  subst eo26
                  obtain ⟨Ao27, co27, eo27⟩ := Kd.R_slice HO279.out
                  subst eo27
                  go_wp2_with (first | (go_at_call 12; (with_reducible refine (cohousingref04_Same.calls kj9 _ _ t272 _ _ t276 false _ ?side1 ?side2 ?side3 ?side4 A22.out).mono ?_); (case side1 => repeat (first | exact (Kd.R_reads' HO275.out).2.2 | (with_reducible refine Kd.C_alloc ?_ _) | (with_reducible refine Kd.C_drewN ?_ _) | (with_reducible refine Kd.C_drew ?_))); (case side2 => exact (Kd.R_reads' HO275.out).2.1); (case side3 => repeat (first | exact (Kd.R_reads' HO279.out).2.2 | (with_reducible refine Kd.C_alloc ?_ _) | (with_reducible refine Kd.C_drewN ?_ _) | (with_reducible refine Kd.C_drew ?_))); (case side4 => exact (Kd.R_reads' HO279.out).2.1); rintro e w' ⟨rfl, ⟨nd, rfl⟩⟩))
                  go_meet
                  case rel => exact ⟨_, (false), (by first | rfl | (simp; done) | (simp [*]; done)), H', ⟨by have := HJ4.out; have := HJ9.out; first | omega | exact Nat.le_refl _⟩, ⟨by repeat (first | (with_reducible first | exact HB.out | apply below_alloc | apply pw_below_drewN | apply below_drew1) | exact HB.out)⟩⟩
              · replace c21 := Bool.eq_false_iff.mpr c21
                subst c21
                have H1 : (cohousinglaw04_SpanMatchesReference.j2 kj9 l0 l1 a2 false) = some r := by rw [if_neg (show ¬ (false = true) by decide)] at H; exact H
                clear H
                have H := H1
                clear H1
                have H' := Aside0.mk H
                clear H
                go_wp2
                go_meet
                case rel => exact ⟨_, (false), (by first | rfl | (simp; done) | (simp [*]; done)), H', ⟨by have := HJ4.out; have := HJ9.out; first | omega | exact Nat.le_refl _⟩, ⟨by repeat (first | (with_reducible first | exact HB.out | apply below_alloc | apply pw_below_drewN | apply below_drew1) | exact HB.out)⟩⟩
            case rest =>
              clear HC18
              try clear c1
              try clear c2
              try clear p2
              try clear c7
              try clear c7b0
              try clear c7b1
              try clear c8
              try clear c9
              try clear c11
              try clear c20
              try clear c21
              try clear c23
              try clear p2
              obtain ⟨kq, x7_17, rfl, HA, HJ17, HB⟩ := hcut
              cases kq with
              | zero => exact absurd HA.out (by simp [cohousinglaw04_SpanMatchesReference.j2])
              | succ kj17 =>
                have H := HA.out
                clear HA
                simp only [cohousinglaw04_SpanMatchesReference.j2] at H
                replace H := Option.bind_eq_some_iff.mp H
                obtain ⟨⟨t281, t282⟩, A280, H⟩ := H
                replace H : ((cohousingref04_Union.f kj17 l0 l1).bind fun bt285 => (if x7_17 = true then ((cohousingref04_Same.f kj17 t281 bt285.1).bind fun t289 => (if t289 = true then (cohousinglaw04_SpanMatchesReference.j3 kj17 l0 l1 a2 (t282 == bt285.2)) else (cohousinglaw04_SpanMatchesReference.j3 kj17 l0 l1 a2 false))) else (cohousinglaw04_SpanMatchesReference.j3 kj17 l0 l1 a2 false))) = some r := H
                have A28 := Aside0.mk A280
                clear A280
                replace H := Option.bind_eq_some_iff.mp H
                obtain ⟨⟨t285, t286⟩, A290, H⟩ := H
                replace H : (if x7_17 = true then ((cohousingref04_Same.f kj17 t281 t285).bind fun t289 => (if t289 = true then (cohousinglaw04_SpanMatchesReference.j3 kj17 l0 l1 a2 (t282 == t286)) else (cohousinglaw04_SpanMatchesReference.j3 kj17 l0 l1 a2 false))) else (cohousinglaw04_SpanMatchesReference.j3 kj17 l0 l1 a2 false)) = some r := H
                have A29 := Aside0.mk A290
                clear A290
                have HC30 := Aside0.mk H
                clear H
                go_upto_region 10 with (first | ((with_reducible refine gate_callee (f := 15) rfl ?_); refine goesL_ (some 58) rfl rfl Try.func15 (by kernel_rfl) rfl #[.slice A0 l0.length c0, .slice A1 l1.length c1] rfl (by (try simp only [List.map_toArray, List.map_cons, List.map_nil]); first | done | rfl | (simp only [List.length_drop, List.length_take]; rfl)) ?_; (with_reducible refine (span_Union.calls kj17 _ _ l0 _ _ l1 t281 t282 _ ?side1 ?side2 ?side3 ?side4 A28.out).mono ?_); (case side1 => repeat (first | exact (Kd.C_below HR0.out HB.out) | (with_reducible refine Kd.C_alloc ?_ _) | (with_reducible refine Kd.C_drewN ?_ _) | (with_reducible refine Kd.C_drew ?_))); (case side2 => exact HC0.out); (case side3 => repeat (first | exact (Kd.C_below HR1.out HB.out) | (with_reducible refine Kd.C_alloc ?_ _) | (with_reducible refine Kd.C_drewN ?_ _) | (with_reducible refine Kd.C_drew ?_))); (case side4 => exact HC1.out); rintro e w31 ⟨v283, rfl, ho0, hb⟩; refine ⟨_, rfl, ?_⟩; have n0_ := Aside0.mk (Kd.R_lower ho0 (below_size (by repeat (first | (with_reducible first | exact HB.out | apply below_alloc | apply pw_below_drewN | apply below_drew1) | exact HB.out)))); have n1_ := Aside0.mk (below_step (by repeat (first | (with_reducible first | exact HB.out | apply below_alloc | apply pw_below_drewN | apply below_drew1) | exact HB.out)) hb); clear HB; have HO284 := n0_; have HB := n1_; clear n0_ n1_; (try clear hb); (try clear hb2); (try clear hk); (try clear hi); (try clear ho0)) | ((with_reducible refine gate_callee (f := 21) rfl ?_); refine goesL_ (some 64) rfl rfl Try.func21 (by kernel_rfl) rfl #[.slice A0 l0.length c0, .slice A1 l1.length c1] rfl (by (try simp only [List.map_toArray, List.map_cons, List.map_nil]); first | done | rfl | (simp only [List.length_drop, List.length_take]; rfl)) ?_; (with_reducible refine (cohousingref04_Union.calls kj17 _ _ l0 _ _ l1 t285 t286 _ ?side1 ?side2 ?side3 ?side4 A29.out).mono ?_); (case side1 => repeat (first | exact (Kd.C_below HR0.out HB.out) | (with_reducible refine Kd.C_alloc ?_ _) | (with_reducible refine Kd.C_drewN ?_ _) | (with_reducible refine Kd.C_drew ?_))); (case side2 => exact HC0.out); (case side3 => repeat (first | exact (Kd.C_below HR1.out HB.out) | (with_reducible refine Kd.C_alloc ?_ _) | (with_reducible refine Kd.C_drewN ?_ _) | (with_reducible refine Kd.C_drew ?_))); (case side4 => exact HC1.out); rintro e w32 ⟨v287, rfl, ho0, hb⟩; refine ⟨_, rfl, ?_⟩; have n0_ := Aside0.mk (Kd.R_elder' (by (with_reducible repeat (first | apply Kd.R_alloc | apply Kd.R_drewN | apply Kd.R_drew)); exact HO284.out) (Kd.R_base ho0) hb); have n1_ := Aside0.mk (Kd.R_lower (Kd.R_new' ho0 (Kd.R_lt (by (with_reducible repeat (first | apply Kd.R_alloc | apply Kd.R_drewN | apply Kd.R_drew)); exact HO284.out))) (below_size (by repeat (first | (with_reducible first | exact HB.out | apply below_alloc | apply pw_below_drewN | apply below_drew1) | exact HB.out)))); have n2_ := Aside0.mk (below_step (by repeat (first | (with_reducible first | exact HB.out | apply below_alloc | apply pw_below_drewN | apply below_drew1) | exact HB.out)) hb); clear HO284; clear HB; have HO284 := n0_; have HO288 := n1_; have HB := n2_; clear n0_ n1_ n2_; (try clear hb); (try clear hb2); (try clear hk); (try clear hi); (try clear ho0)))
                (try simp only [Act.put, List.setIfInBounds_toArray, List.set_cons_zero, List.set_cons_succ])
                go_cut [7] (fun v7 wc => ∃ (kq : Nat) (x7_29 : Bool), v7 = .bool x7_29 ∧ Aside0 (cohousinglaw04_SpanMatchesReference.j3 kq l0 l1 a2 x7_29 = some r) ∧ Aside0 (kq ≤ kj17) ∧ Aside0 (Below w.heap.size w wc))
                case first =>
                  have H := HC30.out
                  clear HC30
                  by_cases c33 : x7_17 = true
                  · subst c33
                    have H1 : ((cohousingref04_Same.f kj17 t281 t285).bind fun t289 => (if t289 = true then (cohousinglaw04_SpanMatchesReference.j3 kj17 l0 l1 a2 (t282 == t286)) else (cohousinglaw04_SpanMatchesReference.j3 kj17 l0 l1 a2 false))) = some r := by rw [if_pos rfl] at H; exact H
                    clear H
                    have H := H1
                    clear H1
                    replace H := Option.bind_eq_some_iff.mp H
                    obtain ⟨t289, A340, H⟩ := H
                    replace H : (if t289 = true then (cohousinglaw04_SpanMatchesReference.j3 kj17 l0 l1 a2 (t282 == t286)) else (cohousinglaw04_SpanMatchesReference.j3 kj17 l0 l1 a2 false)) = some r := H
                    have A34 := Aside0.mk A340
                    clear A340
                    by_cases c35 : t289 = true
                    · subst c35
                      have H1 : (cohousinglaw04_SpanMatchesReference.j3 kj17 l0 l1 a2 (t282 == t286)) = some r := by rw [if_pos rfl] at H; exact H
                      clear H
                      have H := H1
                      clear H1
                      have H' := Aside0.mk H
                      clear H
                      obtain ⟨Ao36, co36, eo36⟩ := Kd.R_slice HO284.out
                      subst eo36
                      obtain ⟨Ao37, co37, eo37⟩ := Kd.R_slice HO288.out
                      subst eo37
                      go_wp2_with (first | (go_at_call 12; (with_reducible refine (cohousingref04_Same.calls kj17 _ _ t281 _ _ t285 true _ ?side1 ?side2 ?side3 ?side4 A34.out).mono ?_); (case side1 => repeat (first | exact (Kd.R_reads' HO284.out).2.2 | (with_reducible refine Kd.C_alloc ?_ _) | (with_reducible refine Kd.C_drewN ?_ _) | (with_reducible refine Kd.C_drew ?_))); (case side2 => exact (Kd.R_reads' HO284.out).2.1); (case side3 => repeat (first | exact (Kd.R_reads' HO288.out).2.2 | (with_reducible refine Kd.C_alloc ?_ _) | (with_reducible refine Kd.C_drewN ?_ _) | (with_reducible refine Kd.C_drew ?_))); (case side4 => exact (Kd.R_reads' HO288.out).2.1); rintro e w' ⟨rfl, ⟨nd, rfl⟩⟩))
                      go_meet
                      case rel => exact ⟨_, ((t282 == t286)), (by first | rfl | (simp; done) | (simp [*]; done)), H', ⟨by have := HJ4.out; have := HJ9.out; have := HJ17.out; first | omega | exact Nat.le_refl _⟩, ⟨by repeat (first | (with_reducible first | exact HB.out | apply below_alloc | apply pw_below_drewN | apply below_drew1) | exact HB.out)⟩⟩
                    · replace c35 := Bool.eq_false_iff.mpr c35
                      subst c35
                      have H1 : (cohousinglaw04_SpanMatchesReference.j3 kj17 l0 l1 a2 false) = some r := by rw [if_neg (show ¬ (false = true) by decide)] at H; exact H
                      clear H
                      have H := H1
                      clear H1
                      have H' := Aside0.mk H
                      clear H
                      obtain ⟨Ao38, co38, eo38⟩ := Kd.R_slice HO284.out
                      subst eo38
                      obtain ⟨Ao39, co39, eo39⟩ := Kd.R_slice HO288.out
                      subst eo39
                      go_wp2_with (first | (go_at_call 12; (with_reducible refine (cohousingref04_Same.calls kj17 _ _ t281 _ _ t285 false _ ?side1 ?side2 ?side3 ?side4 A34.out).mono ?_); (case side1 => repeat (first | exact (Kd.R_reads' HO284.out).2.2 | (with_reducible refine Kd.C_alloc ?_ _) | (with_reducible refine Kd.C_drewN ?_ _) | (with_reducible refine Kd.C_drew ?_))); (case side2 => exact (Kd.R_reads' HO284.out).2.1); (case side3 => repeat (first | exact (Kd.R_reads' HO288.out).2.2 | (with_reducible refine Kd.C_alloc ?_ _) | (with_reducible refine Kd.C_drewN ?_ _) | (with_reducible refine Kd.C_drew ?_))); (case side4 => exact (Kd.R_reads' HO288.out).2.1); rintro e w' ⟨rfl, ⟨nd, rfl⟩⟩))
                      go_meet
                      case rel => exact ⟨_, (false), (by first | rfl | (simp; done) | (simp [*]; done)), H', ⟨by have := HJ4.out; have := HJ9.out; have := HJ17.out; first | omega | exact Nat.le_refl _⟩, ⟨by repeat (first | (with_reducible first | exact HB.out | apply below_alloc | apply pw_below_drewN | apply below_drew1) | exact HB.out)⟩⟩
                  · replace c33 := Bool.eq_false_iff.mpr c33
                    subst c33
                    have H1 : (cohousinglaw04_SpanMatchesReference.j3 kj17 l0 l1 a2 false) = some r := by rw [if_neg (show ¬ (false = true) by decide)] at H; exact H
                    clear H
                    have H := H1
                    clear H1
                    have H' := Aside0.mk H
                    clear H
                    go_wp2
                    go_meet
                    case rel => exact ⟨_, (false), (by first | rfl | (simp; done) | (simp [*]; done)), H', ⟨by have := HJ4.out; have := HJ9.out; have := HJ17.out; first | omega | exact Nat.le_refl _⟩, ⟨by repeat (first | (with_reducible first | exact HB.out | apply below_alloc | apply pw_below_drewN | apply below_drew1) | exact HB.out)⟩⟩
                case rest =>
                  clear HC30
                  try clear c1
                  try clear c2
                  try clear p2
                  try clear c3
                  try clear c7
                  try clear c7b0
                  try clear c7b1
                  try clear c8
                  try clear c9
                  try clear c11
                  try clear c15
                  try clear c20
                  try clear c21
                  try clear c23
                  try clear c33
                  try clear c35
                  try clear p2
                  obtain ⟨kq, x7_29, rfl, HA, HJ29, HB⟩ := hcut
                  cases kq with
                  | zero => exact absurd HA.out (by simp [cohousinglaw04_SpanMatchesReference.j3])
                  | succ kj29 =>
                    have H := HA.out
                    clear HA
                    simp only [cohousinglaw04_SpanMatchesReference.j3] at H
                    replace H := Option.bind_eq_some_iff.mp H
                    obtain ⟨⟨t290, t291⟩, A400, H⟩ := H
                    replace H : ((cohousingref04_Meet.f kj29 l0 l1).bind fun bt294 => (if x7_29 = true then ((cohousingref04_Same.f kj29 t290 bt294.1).bind fun t298 => (if t298 = true then (cohousinglaw04_SpanMatchesReference.j4 kj29 l0 l1 a2 (t291 == bt294.2)) else (cohousinglaw04_SpanMatchesReference.j4 kj29 l0 l1 a2 false))) else (cohousinglaw04_SpanMatchesReference.j4 kj29 l0 l1 a2 false))) = some r := H
                    have A40 := Aside0.mk A400
                    clear A400
                    replace H := Option.bind_eq_some_iff.mp H
                    obtain ⟨⟨t294, t295⟩, A410, H⟩ := H
                    replace H : (if x7_29 = true then ((cohousingref04_Same.f kj29 t290 t294).bind fun t298 => (if t298 = true then (cohousinglaw04_SpanMatchesReference.j4 kj29 l0 l1 a2 (t291 == t295)) else (cohousinglaw04_SpanMatchesReference.j4 kj29 l0 l1 a2 false))) else (cohousinglaw04_SpanMatchesReference.j4 kj29 l0 l1 a2 false)) = some r := H
                    have A41 := Aside0.mk A410
                    clear A410
                    have HC42 := Aside0.mk H
                    clear H
                    go_upto_region 13 with (first | ((with_reducible refine gate_callee (f := 16) rfl ?_); refine goesL_ (some 81) rfl rfl Try.func16 (by kernel_rfl) rfl #[.slice A0 l0.length c0, .slice A1 l1.length c1] rfl (by (try simp only [List.map_toArray, List.map_cons, List.map_nil]); first | done | rfl | (simp only [List.length_drop, List.length_take]; rfl)) ?_; (with_reducible refine (span_Meet.calls kj29 _ _ l0 _ _ l1 t290 t291 _ ?side1 ?side2 ?side3 ?side4 A40.out).mono ?_); (case side1 => repeat (first | exact (Kd.C_below HR0.out HB.out) | (with_reducible refine Kd.C_alloc ?_ _) | (with_reducible refine Kd.C_drewN ?_ _) | (with_reducible refine Kd.C_drew ?_))); (case side2 => exact HC0.out); (case side3 => repeat (first | exact (Kd.C_below HR1.out HB.out) | (with_reducible refine Kd.C_alloc ?_ _) | (with_reducible refine Kd.C_drewN ?_ _) | (with_reducible refine Kd.C_drew ?_))); (case side4 => exact HC1.out); rintro e w43 ⟨v292, rfl, ho0, hb⟩; refine ⟨_, rfl, ?_⟩; have n0_ := Aside0.mk (Kd.R_lower ho0 (below_size (by repeat (first | (with_reducible first | exact HB.out | apply below_alloc | apply pw_below_drewN | apply below_drew1) | exact HB.out)))); have n1_ := Aside0.mk (below_step (by repeat (first | (with_reducible first | exact HB.out | apply below_alloc | apply pw_below_drewN | apply below_drew1) | exact HB.out)) hb); clear HB; have HO293 := n0_; have HB := n1_; clear n0_ n1_; (try clear hb); (try clear hb2); (try clear hk); (try clear hi); (try clear ho0)) | ((with_reducible refine gate_callee (f := 22) rfl ?_); refine goesL_ (some 87) rfl rfl Try.func22 (by kernel_rfl) rfl #[.slice A0 l0.length c0, .slice A1 l1.length c1] rfl (by (try simp only [List.map_toArray, List.map_cons, List.map_nil]); first | done | rfl | (simp only [List.length_drop, List.length_take]; rfl)) ?_; (with_reducible refine (cohousingref04_Meet.calls kj29 _ _ l0 _ _ l1 t294 t295 _ ?side1 ?side2 ?side3 ?side4 A41.out).mono ?_); (case side1 => repeat (first | exact (Kd.C_below HR0.out HB.out) | (with_reducible refine Kd.C_alloc ?_ _) | (with_reducible refine Kd.C_drewN ?_ _) | (with_reducible refine Kd.C_drew ?_))); (case side2 => exact HC0.out); (case side3 => repeat (first | exact (Kd.C_below HR1.out HB.out) | (with_reducible refine Kd.C_alloc ?_ _) | (with_reducible refine Kd.C_drewN ?_ _) | (with_reducible refine Kd.C_drew ?_))); (case side4 => exact HC1.out); rintro e w44 ⟨v296, rfl, ho0, hb⟩; refine ⟨_, rfl, ?_⟩; have n0_ := Aside0.mk (Kd.R_elder' (by (with_reducible repeat (first | apply Kd.R_alloc | apply Kd.R_drewN | apply Kd.R_drew)); exact HO293.out) (Kd.R_base ho0) hb); have n1_ := Aside0.mk (Kd.R_lower (Kd.R_new' ho0 (Kd.R_lt (by (with_reducible repeat (first | apply Kd.R_alloc | apply Kd.R_drewN | apply Kd.R_drew)); exact HO293.out))) (below_size (by repeat (first | (with_reducible first | exact HB.out | apply below_alloc | apply pw_below_drewN | apply below_drew1) | exact HB.out)))); have n2_ := Aside0.mk (below_step (by repeat (first | (with_reducible first | exact HB.out | apply below_alloc | apply pw_below_drewN | apply below_drew1) | exact HB.out)) hb); clear HO293; clear HB; have HO293 := n0_; have HO297 := n1_; have HB := n2_; clear n0_ n1_ n2_; (try clear hb); (try clear hb2); (try clear hk); (try clear hi); (try clear ho0)))
                    (try simp only [Act.put, List.setIfInBounds_toArray, List.set_cons_zero, List.set_cons_succ])
                    go_cut [7] (fun v7 wc => ∃ (kq : Nat) (x7_41 : Bool), v7 = .bool x7_41 ∧ Aside0 (cohousinglaw04_SpanMatchesReference.j4 kq l0 l1 a2 x7_41 = some r) ∧ Aside0 (kq ≤ kj29) ∧ Aside0 (Below w.heap.size w wc))
                    case first =>
                      have H := HC42.out
                      clear HC42
                      by_cases c45 : x7_29 = true
                      · subst c45
                        have H1 : ((cohousingref04_Same.f kj29 t290 t294).bind fun t298 => (if t298 = true then (cohousinglaw04_SpanMatchesReference.j4 kj29 l0 l1 a2 (t291 == t295)) else (cohousinglaw04_SpanMatchesReference.j4 kj29 l0 l1 a2 false))) = some r := by rw [if_pos rfl] at H; exact H
                        clear H
                        have H := H1
                        clear H1
                        replace H := Option.bind_eq_some_iff.mp H
                        obtain ⟨t298, A460, H⟩ := H
                        replace H : (if t298 = true then (cohousinglaw04_SpanMatchesReference.j4 kj29 l0 l1 a2 (t291 == t295)) else (cohousinglaw04_SpanMatchesReference.j4 kj29 l0 l1 a2 false)) = some r := H
                        have A46 := Aside0.mk A460
                        clear A460
                        by_cases c47 : t298 = true
                        · subst c47
                          have H1 : (cohousinglaw04_SpanMatchesReference.j4 kj29 l0 l1 a2 (t291 == t295)) = some r := by rw [if_pos rfl] at H; exact H
                          clear H
                          have H := H1
                          clear H1
                          have H' := Aside0.mk H
                          clear H
                          obtain ⟨Ao48, co48, eo48⟩ := Kd.R_slice HO293.out
                          subst eo48
                          obtain ⟨Ao49, co49, eo49⟩ := Kd.R_slice HO297.out
                          subst eo49
                          go_wp2_with (first | (go_at_call 12; (with_reducible refine (cohousingref04_Same.calls kj29 _ _ t290 _ _ t294 true _ ?side1 ?side2 ?side3 ?side4 A46.out).mono ?_); (case side1 => repeat (first | exact (Kd.R_reads' HO293.out).2.2 | (with_reducible refine Kd.C_alloc ?_ _) | (with_reducible refine Kd.C_drewN ?_ _) | (with_reducible refine Kd.C_drew ?_))); (case side2 => exact (Kd.R_reads' HO293.out).2.1); (case side3 => repeat (first | exact (Kd.R_reads' HO297.out).2.2 | (with_reducible refine Kd.C_alloc ?_ _) | (with_reducible refine Kd.C_drewN ?_ _) | (with_reducible refine Kd.C_drew ?_))); (case side4 => exact (Kd.R_reads' HO297.out).2.1); rintro e w' ⟨rfl, ⟨nd, rfl⟩⟩))
                          go_meet
                          case rel => exact ⟨_, ((t291 == t295)), (by first | rfl | (simp; done) | (simp [*]; done)), H', ⟨by have := HJ4.out; have := HJ9.out; have := HJ17.out; have := HJ29.out; first | omega | exact Nat.le_refl _⟩, ⟨by repeat (first | (with_reducible first | exact HB.out | apply below_alloc | apply pw_below_drewN | apply below_drew1) | exact HB.out)⟩⟩
                        · replace c47 := Bool.eq_false_iff.mpr c47
                          subst c47
                          have H1 : (cohousinglaw04_SpanMatchesReference.j4 kj29 l0 l1 a2 false) = some r := by rw [if_neg (show ¬ (false = true) by decide)] at H; exact H
                          clear H
                          have H := H1
                          clear H1
                          have H' := Aside0.mk H
                          clear H
                          obtain ⟨Ao50, co50, eo50⟩ := Kd.R_slice HO293.out
                          subst eo50
                          obtain ⟨Ao51, co51, eo51⟩ := Kd.R_slice HO297.out
                          subst eo51
                          go_wp2_with (first | (go_at_call 12; (with_reducible refine (cohousingref04_Same.calls kj29 _ _ t290 _ _ t294 false _ ?side1 ?side2 ?side3 ?side4 A46.out).mono ?_); (case side1 => repeat (first | exact (Kd.R_reads' HO293.out).2.2 | (with_reducible refine Kd.C_alloc ?_ _) | (with_reducible refine Kd.C_drewN ?_ _) | (with_reducible refine Kd.C_drew ?_))); (case side2 => exact (Kd.R_reads' HO293.out).2.1); (case side3 => repeat (first | exact (Kd.R_reads' HO297.out).2.2 | (with_reducible refine Kd.C_alloc ?_ _) | (with_reducible refine Kd.C_drewN ?_ _) | (with_reducible refine Kd.C_drew ?_))); (case side4 => exact (Kd.R_reads' HO297.out).2.1); rintro e w' ⟨rfl, ⟨nd, rfl⟩⟩))
                          go_meet
                          case rel => exact ⟨_, (false), (by first | rfl | (simp; done) | (simp [*]; done)), H', ⟨by have := HJ4.out; have := HJ9.out; have := HJ17.out; have := HJ29.out; first | omega | exact Nat.le_refl _⟩, ⟨by repeat (first | (with_reducible first | exact HB.out | apply below_alloc | apply pw_below_drewN | apply below_drew1) | exact HB.out)⟩⟩
                      · replace c45 := Bool.eq_false_iff.mpr c45
                        subst c45
                        have H1 : (cohousinglaw04_SpanMatchesReference.j4 kj29 l0 l1 a2 false) = some r := by rw [if_neg (show ¬ (false = true) by decide)] at H; exact H
                        clear H
                        have H := H1
                        clear H1
                        have H' := Aside0.mk H
                        clear H
                        go_wp2
                        go_meet
                        case rel => exact ⟨_, (false), (by first | rfl | (simp; done) | (simp [*]; done)), H', ⟨by have := HJ4.out; have := HJ9.out; have := HJ17.out; have := HJ29.out; first | omega | exact Nat.le_refl _⟩, ⟨by repeat (first | (with_reducible first | exact HB.out | apply below_alloc | apply pw_below_drewN | apply below_drew1) | exact HB.out)⟩⟩
                    case rest =>
                      clear HC42
                      try clear c1
                      try clear c2
                      try clear p2
                      try clear c3
                      try clear c4
                      try clear c7
                      try clear c7b0
                      try clear c7b1
                      try clear c8
                      try clear c9
                      try clear c11
                      try clear c15
                      try clear c16
                      try clear c20
                      try clear c21
                      try clear c22
                      try clear c23
                      try clear c33
                      try clear c35
                      try clear c45
                      try clear c47
                      try clear p2
                      obtain ⟨kq, x7_41, rfl, HA, HJ41, HB⟩ := hcut
                      cases kq with
                      | zero => exact absurd HA.out (by simp [cohousinglaw04_SpanMatchesReference.j4])
                      | succ kj41 =>
                        have H := HA.out
                        clear HA
                        simp only [cohousinglaw04_SpanMatchesReference.j4] at H
                        replace H := Option.bind_eq_some_iff.mp H
                        obtain ⟨⟨t299, t300⟩, A520, H⟩ := H
                        replace H : ((cohousingref04_Without.f kj41 l0 l1).bind fun bt303 => (if x7_41 = true then ((cohousingref04_Same.f kj41 t299 bt303.1).bind fun t307 => (if t307 = true then (cohousinglaw04_SpanMatchesReference.j5 kj41 l0 a2 (t300 == bt303.2)) else (cohousinglaw04_SpanMatchesReference.j5 kj41 l0 a2 false))) else (cohousinglaw04_SpanMatchesReference.j5 kj41 l0 a2 false))) = some r := H
                        have A52 := Aside0.mk A520
                        clear A520
                        replace H := Option.bind_eq_some_iff.mp H
                        obtain ⟨⟨t303, t304⟩, A530, H⟩ := H
                        replace H : (if x7_41 = true then ((cohousingref04_Same.f kj41 t299 t303).bind fun t307 => (if t307 = true then (cohousinglaw04_SpanMatchesReference.j5 kj41 l0 a2 (t300 == t304)) else (cohousinglaw04_SpanMatchesReference.j5 kj41 l0 a2 false))) else (cohousinglaw04_SpanMatchesReference.j5 kj41 l0 a2 false)) = some r := H
                        have A53 := Aside0.mk A530
                        clear A530
                        have HC54 := Aside0.mk H
                        clear H
                        go_upto_region 16 with (first | ((with_reducible refine gate_callee (f := 13) rfl ?_); refine goesL_ (some 104) rfl rfl Try.func13 (by kernel_rfl) rfl #[.slice A0 l0.length c0, .slice A1 l1.length c1] rfl (by (try simp only [List.map_toArray, List.map_cons, List.map_nil]); first | done | rfl | (simp only [List.length_drop, List.length_take]; rfl)) ?_; (with_reducible refine (span_Without.calls kj41 _ _ l0 _ _ l1 t299 t300 _ ?side1 ?side2 ?side3 ?side4 A52.out).mono ?_); (case side1 => repeat (first | exact (Kd.C_below HR0.out HB.out) | (with_reducible refine Kd.C_alloc ?_ _) | (with_reducible refine Kd.C_drewN ?_ _) | (with_reducible refine Kd.C_drew ?_))); (case side2 => exact HC0.out); (case side3 => repeat (first | exact (Kd.C_below HR1.out HB.out) | (with_reducible refine Kd.C_alloc ?_ _) | (with_reducible refine Kd.C_drewN ?_ _) | (with_reducible refine Kd.C_drew ?_))); (case side4 => exact HC1.out); rintro e w55 ⟨v301, rfl, ho0, hb⟩; refine ⟨_, rfl, ?_⟩; have n0_ := Aside0.mk (Kd.R_lower ho0 (below_size (by repeat (first | (with_reducible first | exact HB.out | apply below_alloc | apply pw_below_drewN | apply below_drew1) | exact HB.out)))); have n1_ := Aside0.mk (below_step (by repeat (first | (with_reducible first | exact HB.out | apply below_alloc | apply pw_below_drewN | apply below_drew1) | exact HB.out)) hb); clear HB; have HO302 := n0_; have HB := n1_; clear n0_ n1_; (try clear hb); (try clear hb2); (try clear hk); (try clear hi); (try clear ho0)) | ((with_reducible refine gate_callee (f := 23) rfl ?_); refine goesL_ (some 110) rfl rfl Try.func23 (by kernel_rfl) rfl #[.slice A0 l0.length c0, .slice A1 l1.length c1] rfl (by (try simp only [List.map_toArray, List.map_cons, List.map_nil]); first | done | rfl | (simp only [List.length_drop, List.length_take]; rfl)) ?_; (with_reducible refine (cohousingref04_Without.calls kj41 _ _ l0 _ _ l1 t303 t304 _ ?side1 ?side2 ?side3 ?side4 A53.out).mono ?_); (case side1 => repeat (first | exact (Kd.C_below HR0.out HB.out) | (with_reducible refine Kd.C_alloc ?_ _) | (with_reducible refine Kd.C_drewN ?_ _) | (with_reducible refine Kd.C_drew ?_))); (case side2 => exact HC0.out); (case side3 => repeat (first | exact (Kd.C_below HR1.out HB.out) | (with_reducible refine Kd.C_alloc ?_ _) | (with_reducible refine Kd.C_drewN ?_ _) | (with_reducible refine Kd.C_drew ?_))); (case side4 => exact HC1.out); rintro e w56 ⟨v305, rfl, ho0, hb⟩; refine ⟨_, rfl, ?_⟩; have n0_ := Aside0.mk (Kd.R_elder' (by (with_reducible repeat (first | apply Kd.R_alloc | apply Kd.R_drewN | apply Kd.R_drew)); exact HO302.out) (Kd.R_base ho0) hb); have n1_ := Aside0.mk (Kd.R_lower (Kd.R_new' ho0 (Kd.R_lt (by (with_reducible repeat (first | apply Kd.R_alloc | apply Kd.R_drewN | apply Kd.R_drew)); exact HO302.out))) (below_size (by repeat (first | (with_reducible first | exact HB.out | apply below_alloc | apply pw_below_drewN | apply below_drew1) | exact HB.out)))); have n2_ := Aside0.mk (below_step (by repeat (first | (with_reducible first | exact HB.out | apply below_alloc | apply pw_below_drewN | apply below_drew1) | exact HB.out)) hb); clear HO302; clear HB; have HO302 := n0_; have HO306 := n1_; have HB := n2_; clear n0_ n1_ n2_; (try clear hb); (try clear hb2); (try clear hk); (try clear hi); (try clear ho0)))
                        (try simp only [Act.put, List.setIfInBounds_toArray, List.set_cons_zero, List.set_cons_succ])
                        go_cut [7] (fun v7 wc => ∃ (kq : Nat) (x7_53 : Bool), v7 = .bool x7_53 ∧ Aside0 (cohousinglaw04_SpanMatchesReference.j5 kq l0 a2 x7_53 = some r) ∧ Aside0 (kq ≤ kj41) ∧ Aside0 (Below w.heap.size w wc))
                        case first =>
                          have H := HC54.out
                          clear HC54
                          by_cases c57 : x7_41 = true
                          · subst c57
                            have H1 : ((cohousingref04_Same.f kj41 t299 t303).bind fun t307 => (if t307 = true then (cohousinglaw04_SpanMatchesReference.j5 kj41 l0 a2 (t300 == t304)) else (cohousinglaw04_SpanMatchesReference.j5 kj41 l0 a2 false))) = some r := by rw [if_pos rfl] at H; exact H
                            clear H
                            have H := H1
                            clear H1
                            replace H := Option.bind_eq_some_iff.mp H
                            obtain ⟨t307, A580, H⟩ := H
                            replace H : (if t307 = true then (cohousinglaw04_SpanMatchesReference.j5 kj41 l0 a2 (t300 == t304)) else (cohousinglaw04_SpanMatchesReference.j5 kj41 l0 a2 false)) = some r := H
                            have A58 := Aside0.mk A580
                            clear A580
                            by_cases c59 : t307 = true
                            · subst c59
                              have H1 : (cohousinglaw04_SpanMatchesReference.j5 kj41 l0 a2 (t300 == t304)) = some r := by rw [if_pos rfl] at H; exact H
                              clear H
                              have H := H1
                              clear H1
                              have H' := Aside0.mk H
                              clear H
                              obtain ⟨Ao60, co60, eo60⟩ := Kd.R_slice HO302.out
                              subst eo60
                              obtain ⟨Ao61, co61, eo61⟩ := Kd.R_slice HO306.out
                              subst eo61
                              go_wp2_with (first | (go_at_call 12; (with_reducible refine (cohousingref04_Same.calls kj41 _ _ t299 _ _ t303 true _ ?side1 ?side2 ?side3 ?side4 A58.out).mono ?_); (case side1 => repeat (first | exact (Kd.R_reads' HO302.out).2.2 | (with_reducible refine Kd.C_alloc ?_ _) | (with_reducible refine Kd.C_drewN ?_ _) | (with_reducible refine Kd.C_drew ?_))); (case side2 => exact (Kd.R_reads' HO302.out).2.1); (case side3 => repeat (first | exact (Kd.R_reads' HO306.out).2.2 | (with_reducible refine Kd.C_alloc ?_ _) | (with_reducible refine Kd.C_drewN ?_ _) | (with_reducible refine Kd.C_drew ?_))); (case side4 => exact (Kd.R_reads' HO306.out).2.1); rintro e w' ⟨rfl, ⟨nd, rfl⟩⟩))
                              go_meet
                              case rel => exact ⟨_, ((t300 == t304)), (by first | rfl | (simp; done) | (simp [*]; done)), H', ⟨by have := HJ4.out; have := HJ9.out; have := HJ17.out; have := HJ29.out; have := HJ41.out; first | omega | exact Nat.le_refl _⟩, ⟨by repeat (first | (with_reducible first | exact HB.out | apply below_alloc | apply pw_below_drewN | apply below_drew1) | exact HB.out)⟩⟩
                            · replace c59 := Bool.eq_false_iff.mpr c59
                              subst c59
                              have H1 : (cohousinglaw04_SpanMatchesReference.j5 kj41 l0 a2 false) = some r := by rw [if_neg (show ¬ (false = true) by decide)] at H; exact H
                              clear H
                              have H := H1
                              clear H1
                              have H' := Aside0.mk H
                              clear H
                              obtain ⟨Ao62, co62, eo62⟩ := Kd.R_slice HO302.out
                              subst eo62
                              obtain ⟨Ao63, co63, eo63⟩ := Kd.R_slice HO306.out
                              subst eo63
                              go_wp2_with (first | (go_at_call 12; (with_reducible refine (cohousingref04_Same.calls kj41 _ _ t299 _ _ t303 false _ ?side1 ?side2 ?side3 ?side4 A58.out).mono ?_); (case side1 => repeat (first | exact (Kd.R_reads' HO302.out).2.2 | (with_reducible refine Kd.C_alloc ?_ _) | (with_reducible refine Kd.C_drewN ?_ _) | (with_reducible refine Kd.C_drew ?_))); (case side2 => exact (Kd.R_reads' HO302.out).2.1); (case side3 => repeat (first | exact (Kd.R_reads' HO306.out).2.2 | (with_reducible refine Kd.C_alloc ?_ _) | (with_reducible refine Kd.C_drewN ?_ _) | (with_reducible refine Kd.C_drew ?_))); (case side4 => exact (Kd.R_reads' HO306.out).2.1); rintro e w' ⟨rfl, ⟨nd, rfl⟩⟩))
                              go_meet
                              case rel => exact ⟨_, (false), (by first | rfl | (simp; done) | (simp [*]; done)), H', ⟨by have := HJ4.out; have := HJ9.out; have := HJ17.out; have := HJ29.out; have := HJ41.out; first | omega | exact Nat.le_refl _⟩, ⟨by repeat (first | (with_reducible first | exact HB.out | apply below_alloc | apply pw_below_drewN | apply below_drew1) | exact HB.out)⟩⟩
                          · replace c57 := Bool.eq_false_iff.mpr c57
                            subst c57
                            have H1 : (cohousinglaw04_SpanMatchesReference.j5 kj41 l0 a2 false) = some r := by rw [if_neg (show ¬ (false = true) by decide)] at H; exact H
                            clear H
                            have H := H1
                            clear H1
                            have H' := Aside0.mk H
                            clear H
                            go_wp2
                            go_meet
                            case rel => exact ⟨_, (false), (by first | rfl | (simp; done) | (simp [*]; done)), H', ⟨by have := HJ4.out; have := HJ9.out; have := HJ17.out; have := HJ29.out; have := HJ41.out; first | omega | exact Nat.le_refl _⟩, ⟨by repeat (first | (with_reducible first | exact HB.out | apply below_alloc | apply pw_below_drewN | apply below_drew1) | exact HB.out)⟩⟩
                        case rest =>
                          clear HC54
                          try clear c1
                          try clear c2
                          try clear p2
                          try clear c3
                          try clear c4
                          try clear c5
                          try clear c7
                          try clear c7b0
                          try clear c7b1
                          try clear c8
                          try clear c9
                          try clear c11
                          try clear c13
                          try clear c15
                          try clear c16
                          try clear c20
                          try clear c21
                          try clear c22
                          try clear c23
                          try clear c33
                          try clear c35
                          try clear c45
                          try clear c47
                          try clear c57
                          try clear c59
                          try clear p2
                          obtain ⟨kq, x7_53, rfl, HA, HJ53, HB⟩ := hcut
                          cases kq with
                          | zero => exact absurd HA.out (by simp [cohousinglaw04_SpanMatchesReference.j5])
                          | succ kj53 =>
                            have H := HA.out
                            clear HA
                            simp only [cohousinglaw04_SpanMatchesReference.j5] at H
                            replace H := Option.bind_eq_some_iff.mp H
                            obtain ⟨⟨t308, t309⟩, A640, H⟩ := H
                            replace H : ((cohousingref04_Has.f kj53 l0 a2).bind fun bt310 => (if x7_53 = true then (if (t308 == bt310.1) = true then ((span_Count.f kj53 l0).bind fun bt312 => ((cohousingref04_Count.f kj53 l0).bind fun bt314 => (if t309 = bt310.2 then (if bt312.1 = bt314.1 then (if bt312.2 = bt314.2 then (some true) else (none)) else (none)) else (none)))) else ((span_Count.f kj53 l0).bind fun bt316 => ((cohousingref04_Count.f kj53 l0).bind fun bt318 => (none)))) else ((span_Count.f kj53 l0).bind fun bt320 => ((cohousingref04_Count.f kj53 l0).bind fun bt322 => (none))))) = some r := H
                            have A64 := Aside0.mk A640
                            clear A640
                            replace H := Option.bind_eq_some_iff.mp H
                            obtain ⟨⟨t310, t311⟩, A650, H⟩ := H
                            replace H : (if x7_53 = true then (if (t308 == t310) = true then ((span_Count.f kj53 l0).bind fun bt312 => ((cohousingref04_Count.f kj53 l0).bind fun bt314 => (if t309 = t311 then (if bt312.1 = bt314.1 then (if bt312.2 = bt314.2 then (some true) else (none)) else (none)) else (none)))) else ((span_Count.f kj53 l0).bind fun bt316 => ((cohousingref04_Count.f kj53 l0).bind fun bt318 => (none)))) else ((span_Count.f kj53 l0).bind fun bt320 => ((cohousingref04_Count.f kj53 l0).bind fun bt322 => (none)))) = some r := H
                            have A65 := Aside0.mk A650
                            clear A650
                            by_cases c66 : x7_53 = true
                            · subst c66
                              have H1 : (if (t308 == t310) = true then ((span_Count.f kj53 l0).bind fun bt312 => ((cohousingref04_Count.f kj53 l0).bind fun bt314 => (if t309 = t311 then (if bt312.1 = bt314.1 then (if bt312.2 = bt314.2 then (some true) else (none)) else (none)) else (none)))) else ((span_Count.f kj53 l0).bind fun bt316 => ((cohousingref04_Count.f kj53 l0).bind fun bt318 => (none)))) = some r := by rw [if_pos rfl] at H; exact H
                              clear H
                              have H := H1
                              clear H1
                              by_cases c67 : (t308 == t310) = true
                              · rw [if_pos c67] at H
                                have c67b0 : (t308 == t310) = true := c67
                                (try (have c67b1 : decide (t308 = t310) = true := by simpa using c67))
                                (try (have c67b2 : (t308 == t310) = true := by simpa using c67))
                                clear c67
                                replace H := Option.bind_eq_some_iff.mp H
                                obtain ⟨⟨t312, t313⟩, A680, H⟩ := H
                                replace H : ((cohousingref04_Count.f kj53 l0).bind fun bt314 => (if t309 = t311 then (if t312 = bt314.1 then (if t313 = bt314.2 then (some true) else (none)) else (none)) else (none))) = some r := H
                                have A68 := Aside0.mk A680
                                clear A680
                                replace H := Option.bind_eq_some_iff.mp H
                                obtain ⟨⟨t314, t315⟩, A690, H⟩ := H
                                replace H : (if t309 = t311 then (if t312 = t314 then (if t313 = t315 then (some true) else (none)) else (none)) else (none)) = some r := H
                                have A69 := Aside0.mk A690
                                clear A690
                                by_cases c70 : t309 = t311
                                · rw [if_pos c70] at H
                                  have c70b0 : (t309 == t311) = true := beq_iff_eq.mpr c70
                                  have c70b1 : (t309 != t311) = false := bne_eq_false_iff_eq.mpr c70
                                  clear c70
                                  by_cases c71 : t312 = t314
                                  · rw [if_pos c71] at H
                                    have c71b0 : (t312 == t314) = true := beq_iff_eq.mpr c71
                                    have c71b1 : (t312 != t314) = false := bne_eq_false_iff_eq.mpr c71
                                    clear c71
                                    by_cases c72 : t313 = t315
                                    · rw [if_pos c72] at H
                                      have c72b0 : (t313 == t315) = true := beq_iff_eq.mpr c72
                                      have c72b1 : (t313 != t315) = false := bne_eq_false_iff_eq.mpr c72
                                      clear c72
                                      obtain rfl := Option.some.inj H
                                      go_wp2_with (first | ((with_reducible refine gate_callee (f := 24) rfl ?_); refine goesL_ (some 127) rfl rfl Try.func24 (by kernel_rfl) rfl #[.slice A0 l0.length c0, .int .i64 a2] rfl (by (try simp only [List.map_toArray, List.map_cons, List.map_nil]); first | done | rfl | (simp only [List.length_drop, List.length_take]; rfl)) ?_; (with_reducible refine (span_Has.calls kj53 _ _ l0 a2 t308 t309 _ ?side1 ?side2 A64.out).mono ?_); (case side1 => repeat (first | exact (Kd.C_below HR0.out HB.out) | (with_reducible refine Kd.C_alloc ?_ _) | (with_reducible refine Kd.C_drewN ?_ _) | (with_reducible refine Kd.C_drew ?_))); (case side2 => exact HC0.out); rintro e w73 ⟨rfl, hb⟩; refine ⟨_, rfl, ?_⟩; have n0_ := Aside0.mk (below_step (by repeat (first | (with_reducible first | exact HB.out | apply below_alloc | apply pw_below_drewN | apply below_drew1) | exact HB.out)) hb); clear HB; have HB := n0_; clear n0_; (try clear hb); (try clear hb2); (try clear hk); (try clear hi)) | ((with_reducible refine gate_callee (f := 25) rfl ?_); refine goesL_ (some 133) rfl rfl Try.func25 (by kernel_rfl) rfl #[.slice A0 l0.length c0, .int .i64 a2] rfl (by (try simp only [List.map_toArray, List.map_cons, List.map_nil]); first | done | rfl | (simp only [List.length_drop, List.length_take]; rfl)) ?_; (with_reducible refine (cohousingref04_Has.calls kj53 _ _ l0 a2 t310 t311 _ ?side1 ?side2 A65.out).mono ?_); (case side1 => repeat (first | exact (Kd.C_below HR0.out HB.out) | (with_reducible refine Kd.C_alloc ?_ _) | (with_reducible refine Kd.C_drewN ?_ _) | (with_reducible refine Kd.C_drew ?_))); (case side2 => exact HC0.out); rintro e w74 ⟨rfl, hb⟩; refine ⟨_, rfl, ?_⟩; have n0_ := Aside0.mk (below_step (by repeat (first | (with_reducible first | exact HB.out | apply below_alloc | apply pw_below_drewN | apply below_drew1) | exact HB.out)) hb); clear HB; have HB := n0_; clear n0_; (try clear hb); (try clear hb2); (try clear hk); (try clear hi)) | ((with_reducible refine gate_callee (f := 17) rfl ?_); refine goesL_ (some 149) rfl rfl Try.func17 (by kernel_rfl) rfl #[.slice A0 l0.length c0] rfl (by (try simp only [List.map_toArray, List.map_cons, List.map_nil]); first | done | rfl | (simp only [List.length_drop, List.length_take]; rfl)) ?_; (with_reducible refine (span_Count.calls kj53 _ _ l0 t312 t313 _ ?side1 ?side2 A68.out).mono ?_); (case side1 => repeat (first | exact (Kd.C_below HR0.out HB.out) | (with_reducible refine Kd.C_alloc ?_ _) | (with_reducible refine Kd.C_drewN ?_ _) | (with_reducible refine Kd.C_drew ?_))); (case side2 => exact HC0.out); rintro e w75 ⟨rfl, hb⟩; refine ⟨_, rfl, ?_⟩; have n0_ := Aside0.mk (below_step (by repeat (first | (with_reducible first | exact HB.out | apply below_alloc | apply pw_below_drewN | apply below_drew1) | exact HB.out)) hb); clear HB; have HB := n0_; clear n0_; (try clear hb); (try clear hb2); (try clear hk); (try clear hi)) | ((with_reducible refine gate_callee (f := 26) rfl ?_); refine goesL_ (some 154) rfl rfl Try.func26 (by kernel_rfl) rfl #[.slice A0 l0.length c0] rfl (by (try simp only [List.map_toArray, List.map_cons, List.map_nil]); first | done | rfl | (simp only [List.length_drop, List.length_take]; rfl)) ?_; (with_reducible refine (cohousingref04_Count.calls kj53 _ _ l0 t314 t315 _ ?side1 ?side2 A69.out).mono ?_); (case side1 => repeat (first | exact (Kd.C_below HR0.out HB.out) | (with_reducible refine Kd.C_alloc ?_ _) | (with_reducible refine Kd.C_drewN ?_ _) | (with_reducible refine Kd.C_drew ?_))); (case side2 => exact HC0.out); rintro e w76 ⟨rfl, hb⟩; refine ⟨_, rfl, ?_⟩; have n0_ := Aside0.mk (below_step (by repeat (first | (with_reducible first | exact HB.out | apply below_alloc | apply pw_below_drewN | apply below_drew1) | exact HB.out)) hb); clear HB; have HB := n0_; clear n0_; (try clear hb); (try clear hb2); (try clear hk); (try clear hi)))
                                      go_ret
                                      exact ⟨by first | rfl | (simp [errW_none, errW_some] <;> rfl) | (simp [*, errW_none, errW_some] <;> rfl), by repeat (first | (with_reducible first | exact HB.out | apply below_alloc | apply pw_below_drewN | apply below_drew1) | exact HB.out)⟩
                                    · rw [if_neg c72] at H
                                      exact absurd H (by simp)
                                  · rw [if_neg c71] at H
                                    exact absurd H (by simp)
                                · rw [if_neg c70] at H
                                  exact absurd H (by simp)
                              · rw [if_neg c67] at H
                                have c67b0 : (t308 == t310) = false := by simpa using c67
                                (try (have c67b1 : decide (t308 = t310) = false := by simpa using c67))
                                (try (have c67b2 : (t308 == t310) = false := by simpa using c67))
                                (try (have c67b3 : ¬ (t308 = t310) := by simpa using c67))
                                clear c67
                                replace H := Option.bind_eq_some_iff.mp H
                                obtain ⟨⟨t316, t317⟩, A770, H⟩ := H
                                replace H : ((cohousingref04_Count.f kj53 l0).bind fun bt318 => (none)) = some r := H
                                have A77 := Aside0.mk A770
                                clear A770
                                replace H := Option.bind_eq_some_iff.mp H
                                obtain ⟨⟨t318, t319⟩, A780, H⟩ := H
                                replace H : (none) = some r := H
                                have A78 := Aside0.mk A780
                                clear A780
                                exact absurd H (by simp)
                            · replace c66 := Bool.eq_false_iff.mpr c66
                              subst c66
                              have H1 : ((span_Count.f kj53 l0).bind fun bt320 => ((cohousingref04_Count.f kj53 l0).bind fun bt322 => (none))) = some r := by rw [if_neg (show ¬ (false = true) by decide)] at H; exact H
                              clear H
                              have H := H1
                              clear H1
                              replace H := Option.bind_eq_some_iff.mp H
                              obtain ⟨⟨t320, t321⟩, A790, H⟩ := H
                              replace H : ((cohousingref04_Count.f kj53 l0).bind fun bt322 => (none)) = some r := H
                              have A79 := Aside0.mk A790
                              clear A790
                              replace H := Option.bind_eq_some_iff.mp H
                              obtain ⟨⟨t322, t323⟩, A800, H⟩ := H
                              replace H : (none) = some r := H
                              have A80 := Aside0.mk A800
                              clear A800
                              exact absurd H (by simp)

end Go.Proofs.Ytbfgblfhonpgaaa.X
