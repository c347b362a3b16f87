-- Written by a program of mine (wip/tools/xprint.py) over the kit's print.py: printed functions and hand-proved ones side by side.
import Derived.Test.YteifflpjhlgpjaaDoorXx0
import Derived.Test.YteifflpjhlgpjaaDoorXx1
import Derived.Test.YteifflpjhlgpjaaDoorXx2
import Derived.Test.YteifflpjhlgpjaaDoorXx3
import Derived.Test.YteifflpjhlgpjaaDoorXx4
import Derived.Test.YteifflpjhlgpjaaDoorXx6
import Derived.Test.YteifflpjhlgpjaaDoorXx7
import Derived.Test.YteifflpjhlgpjaaDoorXx8
namespace Go.Proofs.YteifflpjhlgpjaaDoor.X
open Go.RowKit Go.Proofs.YteifflpjhlgpjaaDoorW.PrintWords Go.Proofs.YteifflpjhlgpjaaDoorW.PrintLast Go.Proofs.YteifflpjhlgpjaaDoorW.PrintMore
attribute [local go_sem] max2_int min2_int max_two min_two max_three min_three max_four min_four   -- for this text's walks alone
set_option linter.unusedVariables false
set_option linter.unusedSimpArgs false

attribute [local go_sem high] eqA24
/-! ### cohousinglaw01_RationalMatchesReference: function 6 -/
mutual
def cohousinglaw01_RationalMatchesReference.j0 : Nat → Int → Int → ByteArray → Bool → Int → Int → Int → Int → Option (Bool)
 | 0, _, _, _, _, _, _, _, _ => none
 | k + 1, x2, x3, x4, x11, x303000, x303001, x304000, x304001 => (rational_Make.f x2 x3).bind fun bt307 => ((cohousingref01_Make.f k x2 x3).bind fun bt311 => (if x11 = true then (if (bt307.1 == bt311.1 && (bt307.2.1 == bt311.2.1)) = true then (cohousinglaw01_RationalMatchesReference.j1 k x4 (bt307.2.2 == bt311.2.2) x303000 x303001 x304000 x304001) else (cohousinglaw01_RationalMatchesReference.j1 k x4 false x303000 x303001 x304000 x304001)) else (cohousinglaw01_RationalMatchesReference.j1 k x4 false x303000 x303001 x304000 x304001)))
def cohousinglaw01_RationalMatchesReference.j1 : Nat → ByteArray → Bool → Int → Int → Int → Int → Option (Bool)
 | 0, _, _, _, _, _, _ => none
 | k + 1, x4, x11, x303000, x303001, x304000, x304001 => (rational_Add.f x303000 x303001 x304000 x304001).bind fun bt315 => ((cohousingref01_Add.f k x303000 x303001 x304000 x304001).bind fun bt318 => (if x11 = true then (if (bt315.1 == bt318.1 && (bt315.2.1 == bt318.2.1)) = true then (cohousinglaw01_RationalMatchesReference.j2 k x4 (bt315.2.2 == bt318.2.2) x303000 x303001 x304000 x304001) else (cohousinglaw01_RationalMatchesReference.j2 k x4 false x303000 x303001 x304000 x304001)) else (cohousinglaw01_RationalMatchesReference.j2 k x4 false x303000 x303001 x304000 x304001)))
def cohousinglaw01_RationalMatchesReference.j2 : Nat → ByteArray → Bool → Int → Int → Int → Int → Option (Bool)
 | 0, _, _, _, _, _, _ => none
 | k + 1, x4, x11, x303000, x303001, x304000, x304001 => (rational_Sub.f x303000 x303001 x304000 x304001).bind fun bt321 => ((cohousingref01_Sub.f k x303000 x303001 x304000 x304001).bind fun bt324 => (if x11 = true then (if (bt321.1 == bt324.1 && (bt321.2.1 == bt324.2.1)) = true then (cohousinglaw01_RationalMatchesReference.j3 k x4 (bt321.2.2 == bt324.2.2) x303000 x303001 x304000 x304001) else (cohousinglaw01_RationalMatchesReference.j3 k x4 false x303000 x303001 x304000 x304001)) else (cohousinglaw01_RationalMatchesReference.j3 k x4 false x303000 x303001 x304000 x304001)))
def cohousinglaw01_RationalMatchesReference.j3 : Nat → ByteArray → Bool → Int → Int → Int → Int → Option (Bool)
 | 0, _, _, _, _, _, _ => none
 | k + 1, x4, x11, x303000, x303001, x304000, x304001 => (rational_Mul.f x303000 x303001 x304000 x304001).bind fun bt327 => ((cohousingref01_Mul.f k x303000 x303001 x304000 x304001).bind fun bt330 => (if x11 = true then (if (bt327.1 == bt330.1 && (bt327.2.1 == bt330.2.1)) = true then (cohousinglaw01_RationalMatchesReference.j4 k x4 (bt327.2.2 == bt330.2.2) x303000 x303001 x304000 x304001) else (cohousinglaw01_RationalMatchesReference.j4 k x4 false x303000 x303001 x304000 x304001)) else (cohousinglaw01_RationalMatchesReference.j4 k x4 false x303000 x303001 x304000 x304001)))
def cohousinglaw01_RationalMatchesReference.j4 : Nat → ByteArray → Bool → Int → Int → Int → Int → Option (Bool)
 | 0, _, _, _, _, _, _ => none
 | k + 1, x4, x11, x303000, x303001, x304000, x304001 => (rational_Div.f x303000 x303001 x304000 x304001).bind fun bt333 => ((cohousingref01_Div.f k x303000 x303001 x304000 x304001).bind fun bt336 => (if x11 = true then (if (bt333.1 == bt336.1 && (bt333.2.1 == bt336.2.1)) = true then (cohousinglaw01_RationalMatchesReference.j5 k x4 (bt333.2.2 == bt336.2.2) x303000 x303001 x304000 x304001) else (cohousinglaw01_RationalMatchesReference.j5 k x4 false x303000 x303001 x304000 x304001)) else (cohousinglaw01_RationalMatchesReference.j5 k x4 false x303000 x303001 x304000 x304001)))
def cohousinglaw01_RationalMatchesReference.j5 : Nat → ByteArray → Bool → Int → Int → Int → Int → Option (Bool)
 | 0, _, _, _, _, _, _ => none
 | k + 1, x4, x11, x303000, x303001, x304000, x304001 => (rational_Compare.f k x303000 x303001 x304000 x304001).bind fun bt339 => ((cohousingref01_Compare.f k x303000 x303001 x304000 x304001).bind fun bt341 => (if x11 = true then (if bt339.1 = bt341.1 then (cohousinglaw01_RationalMatchesReference.j6 k x4 (bt339.2 == bt341.2) x303000 x303001) else (cohousinglaw01_RationalMatchesReference.j6 k x4 false x303000 x303001)) else (cohousinglaw01_RationalMatchesReference.j6 k x4 false x303000 x303001)))
def cohousinglaw01_RationalMatchesReference.j6 : Nat → ByteArray → Bool → Int → Int → Option (Bool)
 | 0, _, _, _, _ => none
 | k + 1, x4, x11, x303000, x303001 => (rational_Floor.f x303000 x303001).bind fun bt343 => ((cohousingref01_Floor.f k x303000 x303001).bind fun bt345 => (if x11 = true then (if bt343.1 = bt345.1 then (cohousinglaw01_RationalMatchesReference.j7 k x4 (bt343.2 == bt345.2) x303000 x303001) else (cohousinglaw01_RationalMatchesReference.j7 k x4 false x303000 x303001)) else (cohousinglaw01_RationalMatchesReference.j7 k x4 false x303000 x303001)))
def cohousinglaw01_RationalMatchesReference.j7 : Nat → ByteArray → Bool → Int → Int → Option (Bool)
 | 0, _, _, _, _ => none
 | k + 1, x4, x11, x303000, x303001 => (rational_Text.f x303000 x303001).bind fun bt347 => ((cohousingref01_Text.f k x303000 x303001).bind fun bt349 => (if x11 = true then (if bt347.1.toList = bt349.1.toList then ((rational_Parse.f x4).bind fun bt351 => ((cohousingref01_Parse.f k x4).bind fun bt354 => (if bt347.2 = bt349.2 then (if (bt351.1 == bt354.1 && (bt351.2.1 == bt354.2.1)) = true then (if bt351.2.2 = bt354.2.2 then (some true) else (none)) else (none)) else (none)))) else ((rational_Parse.f x4).bind fun bt357 => ((cohousingref01_Parse.f k x4).bind fun bt360 => (none)))) else ((rational_Parse.f x4).bind fun bt363 => ((cohousingref01_Parse.f k x4).bind fun bt366 => (none)))))
end
def cohousinglaw01_RationalMatchesReference.f (k : Nat) (a0_0 : Int) (a0_1 : Int) (a1_0 : Int) (a1_1 : Int) (a2 : Int) (a3 : Int) (a4 : ByteArray) : Option (Bool) := (cohousinglaw01_head.f k).bind fun t304 => (if t304 = true then ((rational_Valid.f a0_0 a0_1).bind fun t305 => ((cohousingref01_Valid.f k a0_0 a0_1).bind fun t306 => (cohousinglaw01_RationalMatchesReference.j0 k a2 a3 a4 (t305 == t306) a0_0 a0_1 a1_0 a1_1))) else (cohousinglaw01_RationalMatchesReference.j0 k a2 a3 a4 false a0_0 a0_1 a1_0 a1_1))
theorem cohousinglaw01_RationalMatchesReference.mono_l : ∀ k, (∀ y0 y1 y2 y3 y4 y5 y6 y7, LeO (cohousinglaw01_RationalMatchesReference.j0 k y0 y1 y2 y3 y4 y5 y6 y7) (cohousinglaw01_RationalMatchesReference.j0 (k + 1) y0 y1 y2 y3 y4 y5 y6 y7)) ∧ (∀ y0 y1 y2 y3 y4 y5, LeO (cohousinglaw01_RationalMatchesReference.j1 k y0 y1 y2 y3 y4 y5) (cohousinglaw01_RationalMatchesReference.j1 (k + 1) y0 y1 y2 y3 y4 y5)) ∧ (∀ y0 y1 y2 y3 y4 y5, LeO (cohousinglaw01_RationalMatchesReference.j2 k y0 y1 y2 y3 y4 y5) (cohousinglaw01_RationalMatchesReference.j2 (k + 1) y0 y1 y2 y3 y4 y5)) ∧ (∀ y0 y1 y2 y3 y4 y5, LeO (cohousinglaw01_RationalMatchesReference.j3 k y0 y1 y2 y3 y4 y5) (cohousinglaw01_RationalMatchesReference.j3 (k + 1) y0 y1 y2 y3 y4 y5)) ∧ (∀ y0 y1 y2 y3 y4 y5, LeO (cohousinglaw01_RationalMatchesReference.j4 k y0 y1 y2 y3 y4 y5) (cohousinglaw01_RationalMatchesReference.j4 (k + 1) y0 y1 y2 y3 y4 y5)) ∧ (∀ y0 y1 y2 y3 y4 y5, LeO (cohousinglaw01_RationalMatchesReference.j5 k y0 y1 y2 y3 y4 y5) (cohousinglaw01_RationalMatchesReference.j5 (k + 1) y0 y1 y2 y3 y4 y5)) ∧ (∀ y0 y1 y2 y3, LeO (cohousinglaw01_RationalMatchesReference.j6 k y0 y1 y2 y3) (cohousinglaw01_RationalMatchesReference.j6 (k + 1) y0 y1 y2 y3)) ∧ (∀ y0 y1 y2 y3, LeO (cohousinglaw01_RationalMatchesReference.j7 k y0 y1 y2 y3) (cohousinglaw01_RationalMatchesReference.j7 (k + 1) y0 y1 y2 y3))
 | 0 => ⟨fun _ _ _ _ _ _ _ _ r h => by simp [cohousinglaw01_RationalMatchesReference.j0] at h, fun _ _ _ _ _ _ r h => by simp [cohousinglaw01_RationalMatchesReference.j1] at h, fun _ _ _ _ _ _ r h => by simp [cohousinglaw01_RationalMatchesReference.j2] at h, fun _ _ _ _ _ _ r h => by simp [cohousinglaw01_RationalMatchesReference.j3] at h, fun _ _ _ _ _ _ r h => by simp [cohousinglaw01_RationalMatchesReference.j4] at h, fun _ _ _ _ _ _ r h => by simp [cohousinglaw01_RationalMatchesReference.j5] at h, fun _ _ _ _ r h => by simp [cohousinglaw01_RationalMatchesReference.j6] at h, fun _ _ _ _ r h => by simp [cohousinglaw01_RationalMatchesReference.j7] at h⟩
 | k + 1 => by
  obtain ⟨ih0, ih1, ih2, ih3, ih4, ih5, ih6, ih7⟩ := cohousinglaw01_RationalMatchesReference.mono_l k
  refine ⟨?_, ?_, ?_, ?_, ?_, ?_, ?_, ?_⟩
  ·intro y0 y1 y2 y3 y4 y5 y6 y7
   unfold cohousinglaw01_RationalMatchesReference.j0
   repeat' first
   | (with_reducible exact ih0 _ _ _ _ _ _ _ _)
   | (with_reducible exact ih1 _ _ _ _ _ _)
   | (with_reducible exact ih2 _ _ _ _ _ _)
   | (with_reducible exact ih3 _ _ _ _ _ _)
   | (with_reducible exact ih4 _ _ _ _ _ _)
   | (with_reducible exact ih5 _ _ _ _ _ _)
   | (with_reducible exact ih6 _ _ _ _)
   | (with_reducible exact ih7 _ _ _ _)
   | (with_reducible exact cohousinglaw01_head.mono _)
   | (with_reducible exact cohousingref01_Add.mono _ _ _ _ _)
   | (with_reducible exact cohousingref01_Compare.mono _ _ _ _ _)
   | (with_reducible exact cohousingref01_Div.mono _ _ _ _ _)
   | (with_reducible exact cohousingref01_Floor.mono _ _ _)
   | (with_reducible exact cohousingref01_Make.mono _ _ _)
   | (with_reducible exact cohousingref01_Mul.mono _ _ _ _ _)
   | (with_reducible exact cohousingref01_Parse.mono _ _)
   | (with_reducible exact cohousingref01_Sub.mono _ _ _ _ _)
   | (with_reducible exact cohousingref01_Text.mono _ _ _)
   | (with_reducible exact cohousingref01_Valid.mono _ _ _)
   | (with_reducible exact rational_Compare.mono _ _ _ _ _)
   | (with_reducible exact LeO.refl _)
   | (with_reducible exact LeO.none _)
   | (with_reducible refine LeO.ite ?_ ?_)
   | (with_reducible refine LeO.bind ?_ (fun _ => ?_))
   | exact ih0 _ _ _ _ _ _ _ _
   | exact ih1 _ _ _ _ _ _
   | exact ih2 _ _ _ _ _ _
   | exact ih3 _ _ _ _ _ _
   | exact ih4 _ _ _ _ _ _
   | exact ih5 _ _ _ _ _ _
   | exact ih6 _ _ _ _
   | exact ih7 _ _ _ _
   | exact cohousinglaw01_head.mono _
   | exact cohousingref01_Add.mono _ _ _ _ _
   | exact cohousingref01_Compare.mono _ _ _ _ _
   | exact cohousingref01_Div.mono _ _ _ _ _
   | exact cohousingref01_Floor.mono _ _ _
   | exact cohousingref01_Make.mono _ _ _
   | exact cohousingref01_Mul.mono _ _ _ _ _
   | exact cohousingref01_Parse.mono _ _
   | exact cohousingref01_Sub.mono _ _ _ _ _
   | exact cohousingref01_Text.mono _ _ _
   | exact cohousingref01_Valid.mono _ _ _
   | exact rational_Compare.mono _ _ _ _ _
   | exact LeO.none _
   | refine LeO.ite ?_ ?_
   | refine LeO.bind ?_ (fun _ => ?_)
  ·intro y0 y1 y2 y3 y4 y5
   unfold cohousinglaw01_RationalMatchesReference.j1
   repeat' first
   | (with_reducible exact ih0 _ _ _ _ _ _ _ _)
   | (with_reducible exact ih1 _ _ _ _ _ _)
   | (with_reducible exact ih2 _ _ _ _ _ _)
   | (with_reducible exact ih3 _ _ _ _ _ _)
   | (with_reducible exact ih4 _ _ _ _ _ _)
   | (with_reducible exact ih5 _ _ _ _ _ _)
   | (with_reducible exact ih6 _ _ _ _)
   | (with_reducible exact ih7 _ _ _ _)
   | (with_reducible exact cohousinglaw01_head.mono _)
   | (with_reducible exact cohousingref01_Add.mono _ _ _ _ _)
   | (with_reducible exact cohousingref01_Compare.mono _ _ _ _ _)
   | (with_reducible exact cohousingref01_Div.mono _ _ _ _ _)
   | (with_reducible exact cohousingref01_Floor.mono _ _ _)
   | (with_reducible exact cohousingref01_Make.mono _ _ _)
   | (with_reducible exact cohousingref01_Mul.mono _ _ _ _ _)
   | (with_reducible exact cohousingref01_Parse.mono _ _)
   | (with_reducible exact cohousingref01_Sub.mono _ _ _ _ _)
   | (with_reducible exact cohousingref01_Text.mono _ _ _)
   | (with_reducible exact cohousingref01_Valid.mono _ _ _)
   | (with_reducible exact rational_Compare.mono _ _ _ _ _)
   | (with_reducible exact LeO.refl _)
   | (with_reducible exact LeO.none _)
   | (with_reducible refine LeO.ite ?_ ?_)
   | (with_reducible refine LeO.bind ?_ (fun _ => ?_))
   | exact ih0 _ _ _ _ _ _ _ _
   | exact ih1 _ _ _ _ _ _
   | exact ih2 _ _ _ _ _ _
   | exact ih3 _ _ _ _ _ _
   | exact ih4 _ _ _ _ _ _
   | exact ih5 _ _ _ _ _ _
   | exact ih6 _ _ _ _
   | exact ih7 _ _ _ _
   | exact cohousinglaw01_head.mono _
   | exact cohousingref01_Add.mono _ _ _ _ _
   | exact cohousingref01_Compare.mono _ _ _ _ _
   | exact cohousingref01_Div.mono _ _ _ _ _
   | exact cohousingref01_Floor.mono _ _ _
   | exact cohousingref01_Make.mono _ _ _
   | exact cohousingref01_Mul.mono _ _ _ _ _
   | exact cohousingref01_Parse.mono _ _
   | exact cohousingref01_Sub.mono _ _ _ _ _
   | exact cohousingref01_Text.mono _ _ _
   | exact cohousingref01_Valid.mono _ _ _
   | exact rational_Compare.mono _ _ _ _ _
   | exact LeO.none _
   | refine LeO.ite ?_ ?_
   | refine LeO.bind ?_ (fun _ => ?_)
  ·intro y0 y1 y2 y3 y4 y5
   unfold cohousinglaw01_RationalMatchesReference.j2
   repeat' first
   | (with_reducible exact ih0 _ _ _ _ _ _ _ _)
   | (with_reducible exact ih1 _ _ _ _ _ _)
   | (with_reducible exact ih2 _ _ _ _ _ _)
   | (with_reducible exact ih3 _ _ _ _ _ _)
   | (with_reducible exact ih4 _ _ _ _ _ _)
   | (with_reducible exact ih5 _ _ _ _ _ _)
   | (with_reducible exact ih6 _ _ _ _)
   | (with_reducible exact ih7 _ _ _ _)
   | (with_reducible exact cohousinglaw01_head.mono _)
   | (with_reducible exact cohousingref01_Add.mono _ _ _ _ _)
   | (with_reducible exact cohousingref01_Compare.mono _ _ _ _ _)
   | (with_reducible exact cohousingref01_Div.mono _ _ _ _ _)
   | (with_reducible exact cohousingref01_Floor.mono _ _ _)
   | (with_reducible exact cohousingref01_Make.mono _ _ _)
   | (with_reducible exact cohousingref01_Mul.mono _ _ _ _ _)
   | (with_reducible exact cohousingref01_Parse.mono _ _)
   | (with_reducible exact cohousingref01_Sub.mono _ _ _ _ _)
   | (with_reducible exact cohousingref01_Text.mono _ _ _)
   | (with_reducible exact cohousingref01_Valid.mono _ _ _)
   | (with_reducible exact rational_Compare.mono _ _ _ _ _)
   | (with_reducible exact LeO.refl _)
   | (with_reducible exact LeO.none _)
   | (with_reducible refine LeO.ite ?_ ?_)
   | (with_reducible refine LeO.bind ?_ (fun _ => ?_))
   | exact ih0 _ _ _ _ _ _ _ _
   | exact ih1 _ _ _ _ _ _
   | exact ih2 _ _ _ _ _ _
   | exact ih3 _ _ _ _ _ _
   | exact ih4 _ _ _ _ _ _
   | exact ih5 _ _ _ _ _ _
   | exact ih6 _ _ _ _
   | exact ih7 _ _ _ _
   | exact cohousinglaw01_head.mono _
   | exact cohousingref01_Add.mono _ _ _ _ _
   | exact cohousingref01_Compare.mono _ _ _ _ _
   | exact cohousingref01_Div.mono _ _ _ _ _
   | exact cohousingref01_Floor.mono _ _ _
   | exact cohousingref01_Make.mono _ _ _
   | exact cohousingref01_Mul.mono _ _ _ _ _
   | exact cohousingref01_Parse.mono _ _
   | exact cohousingref01_Sub.mono _ _ _ _ _
   | exact cohousingref01_Text.mono _ _ _
   | exact cohousingref01_Valid.mono _ _ _
   | exact rational_Compare.mono _ _ _ _ _
   | exact LeO.none _
   | refine LeO.ite ?_ ?_
   | refine LeO.bind ?_ (fun _ => ?_)
  ·intro y0 y1 y2 y3 y4 y5
   unfold cohousinglaw01_RationalMatchesReference.j3
   repeat' first
   | (with_reducible exact ih0 _ _ _ _ _ _ _ _)
   | (with_reducible exact ih1 _ _ _ _ _ _)
   | (with_reducible exact ih2 _ _ _ _ _ _)
   | (with_reducible exact ih3 _ _ _ _ _ _)
   | (with_reducible exact ih4 _ _ _ _ _ _)
   | (with_reducible exact ih5 _ _ _ _ _ _)
   | (with_reducible exact ih6 _ _ _ _)
   | (with_reducible exact ih7 _ _ _ _)
   | (with_reducible exact cohousinglaw01_head.mono _)
   | (with_reducible exact cohousingref01_Add.mono _ _ _ _ _)
   | (with_reducible exact cohousingref01_Compare.mono _ _ _ _ _)
   | (with_reducible exact cohousingref01_Div.mono _ _ _ _ _)
   | (with_reducible exact cohousingref01_Floor.mono _ _ _)
   | (with_reducible exact cohousingref01_Make.mono _ _ _)
   | (with_reducible exact cohousingref01_Mul.mono _ _ _ _ _)
   | (with_reducible exact cohousingref01_Parse.mono _ _)
   | (with_reducible exact cohousingref01_Sub.mono _ _ _ _ _)
   | (with_reducible exact cohousingref01_Text.mono _ _ _)
   | (with_reducible exact cohousingref01_Valid.mono _ _ _)
   | (with_reducible exact rational_Compare.mono _ _ _ _ _)
   | (with_reducible exact LeO.refl _)
   | (with_reducible exact LeO.none _)
   | (with_reducible refine LeO.ite ?_ ?_)
   | (with_reducible refine LeO.bind ?_ (fun _ => ?_))
   | exact ih0 _ _ _ _ _ _ _ _
   | exact ih1 _ _ _ _ _ _
   | exact ih2 _ _ _ _ _ _
   | exact ih3 _ _ _ _ _ _
   | exact ih4 _ _ _ _ _ _
   | exact ih5 _ _ _ _ _ _
   | exact ih6 _ _ _ _
   | exact ih7 _ _ _ _
   | exact cohousinglaw01_head.mono _
   | exact cohousingref01_Add.mono _ _ _ _ _
   | exact cohousingref01_Compare.mono _ _ _ _ _
   | exact cohousingref01_Div.mono _ _ _ _ _
   | exact cohousingref01_Floor.mono _ _ _
   | exact cohousingref01_Make.mono _ _ _
   | exact cohousingref01_Mul.mono _ _ _ _ _
   | exact cohousingref01_Parse.mono _ _
   | exact cohousingref01_Sub.mono _ _ _ _ _
   | exact cohousingref01_Text.mono _ _ _
   | exact cohousingref01_Valid.mono _ _ _
   | exact rational_Compare.mono _ _ _ _ _
   | exact LeO.none _
   | refine LeO.ite ?_ ?_
   | refine LeO.bind ?_ (fun _ => ?_)
  ·intro y0 y1 y2 y3 y4 y5
   unfold cohousinglaw01_RationalMatchesReference.j4
   repeat' first
   | (with_reducible exact ih0 _ _ _ _ _ _ _ _)
   | (with_reducible exact ih1 _ _ _ _ _ _)
   | (with_reducible exact ih2 _ _ _ _ _ _)
   | (with_reducible exact ih3 _ _ _ _ _ _)
   | (with_reducible exact ih4 _ _ _ _ _ _)
   | (with_reducible exact ih5 _ _ _ _ _ _)
   | (with_reducible exact ih6 _ _ _ _)
   | (with_reducible exact ih7 _ _ _ _)
   | (with_reducible exact cohousinglaw01_head.mono _)
   | (with_reducible exact cohousingref01_Add.mono _ _ _ _ _)
   | (with_reducible exact cohousingref01_Compare.mono _ _ _ _ _)
   | (with_reducible exact cohousingref01_Div.mono _ _ _ _ _)
   | (with_reducible exact cohousingref01_Floor.mono _ _ _)
   | (with_reducible exact cohousingref01_Make.mono _ _ _)
   | (with_reducible exact cohousingref01_Mul.mono _ _ _ _ _)
   | (with_reducible exact cohousingref01_Parse.mono _ _)
   | (with_reducible exact cohousingref01_Sub.mono _ _ _ _ _)
   | (with_reducible exact cohousingref01_Text.mono _ _ _)
   | (with_reducible exact cohousingref01_Valid.mono _ _ _)
   | (with_reducible exact rational_Compare.mono _ _ _ _ _)
   | (with_reducible exact LeO.refl _)
   | (with_reducible exact LeO.none _)
   | (with_reducible refine LeO.ite ?_ ?_)
   | (with_reducible refine LeO.bind ?_ (fun _ => ?_))
   | exact ih0 _ _ _ _ _ _ _ _
   | exact ih1 _ _ _ _ _ _
   | exact ih2 _ _ _ _ _ _
   | exact ih3 _ _ _ _ _ _
   | exact ih4 _ _ _ _ _ _
   | exact ih5 _ _ _ _ _ _
   | exact ih6 _ _ _ _
   | exact ih7 _ _ _ _
   | exact cohousinglaw01_head.mono _
   | exact cohousingref01_Add.mono _ _ _ _ _
   | exact cohousingref01_Compare.mono _ _ _ _ _
   | exact cohousingref01_Div.mono _ _ _ _ _
   | exact cohousingref01_Floor.mono _ _ _
   | exact cohousingref01_Make.mono _ _ _
   | exact cohousingref01_Mul.mono _ _ _ _ _
   | exact cohousingref01_Parse.mono _ _
   | exact cohousingref01_Sub.mono _ _ _ _ _
   | exact cohousingref01_Text.mono _ _ _
   | exact cohousingref01_Valid.mono _ _ _
   | exact rational_Compare.mono _ _ _ _ _
   | exact LeO.none _
   | refine LeO.ite ?_ ?_
   | refine LeO.bind ?_ (fun _ => ?_)
  ·intro y0 y1 y2 y3 y4 y5
   unfold cohousinglaw01_RationalMatchesReference.j5
   repeat' first
   | (with_reducible exact ih0 _ _ _ _ _ _ _ _)
   | (with_reducible exact ih1 _ _ _ _ _ _)
   | (with_reducible exact ih2 _ _ _ _ _ _)
   | (with_reducible exact ih3 _ _ _ _ _ _)
   | (with_reducible exact ih4 _ _ _ _ _ _)
   | (with_reducible exact ih5 _ _ _ _ _ _)
   | (with_reducible exact ih6 _ _ _ _)
   | (with_reducible exact ih7 _ _ _ _)
   | (with_reducible exact cohousinglaw01_head.mono _)
   | (with_reducible exact cohousingref01_Add.mono _ _ _ _ _)
   | (with_reducible exact cohousingref01_Compare.mono _ _ _ _ _)
   | (with_reducible exact cohousingref01_Div.mono _ _ _ _ _)
   | (with_reducible exact cohousingref01_Floor.mono _ _ _)
   | (with_reducible exact cohousingref01_Make.mono _ _ _)
   | (with_reducible exact cohousingref01_Mul.mono _ _ _ _ _)
   | (with_reducible exact cohousingref01_Parse.mono _ _)
   | (with_reducible exact cohousingref01_Sub.mono _ _ _ _ _)
   | (with_reducible exact cohousingref01_Text.mono _ _ _)
   | (with_reducible exact cohousingref01_Valid.mono _ _ _)
   | (with_reducible exact rational_Compare.mono _ _ _ _ _)
   | (with_reducible exact LeO.refl _)
   | (with_reducible exact LeO.none _)
   | (with_reducible refine LeO.ite ?_ ?_)
   | (with_reducible refine LeO.bind ?_ (fun _ => ?_))
   | exact ih0 _ _ _ _ _ _ _ _
   | exact ih1 _ _ _ _ _ _
   | exact ih2 _ _ _ _ _ _
   | exact ih3 _ _ _ _ _ _
   | exact ih4 _ _ _ _ _ _
   | exact ih5 _ _ _ _ _ _
   | exact ih6 _ _ _ _
   | exact ih7 _ _ _ _
   | exact cohousinglaw01_head.mono _
   | exact cohousingref01_Add.mono _ _ _ _ _
   | exact cohousingref01_Compare.mono _ _ _ _ _
   | exact cohousingref01_Div.mono _ _ _ _ _
   | exact cohousingref01_Floor.mono _ _ _
   | exact cohousingref01_Make.mono _ _ _
   | exact cohousingref01_Mul.mono _ _ _ _ _
   | exact cohousingref01_Parse.mono _ _
   | exact cohousingref01_Sub.mono _ _ _ _ _
   | exact cohousingref01_Text.mono _ _ _
   | exact cohousingref01_Valid.mono _ _ _
   | exact rational_Compare.mono _ _ _ _ _
   | exact LeO.none _
   | refine LeO.ite ?_ ?_
   | refine LeO.bind ?_ (fun _ => ?_)
  ·intro y0 y1 y2 y3
   unfold cohousinglaw01_RationalMatchesReference.j6
   repeat' first
   | (with_reducible exact ih0 _ _ _ _ _ _ _ _)
   | (with_reducible exact ih1 _ _ _ _ _ _)
   | (with_reducible exact ih2 _ _ _ _ _ _)
   | (with_reducible exact ih3 _ _ _ _ _ _)
   | (with_reducible exact ih4 _ _ _ _ _ _)
   | (with_reducible exact ih5 _ _ _ _ _ _)
   | (with_reducible exact ih6 _ _ _ _)
   | (with_reducible exact ih7 _ _ _ _)
   | (with_reducible exact cohousinglaw01_head.mono _)
   | (with_reducible exact cohousingref01_Add.mono _ _ _ _ _)
   | (with_reducible exact cohousingref01_Compare.mono _ _ _ _ _)
   | (with_reducible exact cohousingref01_Div.mono _ _ _ _ _)
   | (with_reducible exact cohousingref01_Floor.mono _ _ _)
   | (with_reducible exact cohousingref01_Make.mono _ _ _)
   | (with_reducible exact cohousingref01_Mul.mono _ _ _ _ _)
   | (with_reducible exact cohousingref01_Parse.mono _ _)
   | (with_reducible exact cohousingref01_Sub.mono _ _ _ _ _)
   | (with_reducible exact cohousingref01_Text.mono _ _ _)
   | (with_reducible exact cohousingref01_Valid.mono _ _ _)
   | (with_reducible exact rational_Compare.mono _ _ _ _ _)
   | (with_reducible exact LeO.refl _)
   | (with_reducible exact LeO.none _)
   | (with_reducible refine LeO.ite ?_ ?_)
   | (with_reducible refine LeO.bind ?_ (fun _ => ?_))
   | exact ih0 _ _ _ _ _ _ _ _
   | exact ih1 _ _ _ _ _ _
   | exact ih2 _ _ _ _ _ _
   | exact ih3 _ _ _ _ _ _
   | exact ih4 _ _ _ _ _ _
   | exact ih5 _ _ _ _ _ _
   | exact ih6 _ _ _ _
   | exact ih7 _ _ _ _
   | exact cohousinglaw01_head.mono _
   | exact cohousingref01_Add.mono _ _ _ _ _
   | exact cohousingref01_Compare.mono _ _ _ _ _
   | exact cohousingref01_Div.mono _ _ _ _ _
   | exact cohousingref01_Floor.mono _ _ _
   | exact cohousingref01_Make.mono _ _ _
   | exact cohousingref01_Mul.mono _ _ _ _ _
   | exact cohousingref01_Parse.mono _ _
   | exact cohousingref01_Sub.mono _ _ _ _ _
   | exact cohousingref01_Text.mono _ _ _
   | exact cohousingref01_Valid.mono _ _ _
   | exact rational_Compare.mono _ _ _ _ _
   | exact LeO.none _
   | refine LeO.ite ?_ ?_
   | refine LeO.bind ?_ (fun _ => ?_)
  ·intro y0 y1 y2 y3
   unfold cohousinglaw01_RationalMatchesReference.j7
   repeat' first
   | (with_reducible exact ih0 _ _ _ _ _ _ _ _)
   | (with_reducible exact ih1 _ _ _ _ _ _)
   | (with_reducible exact ih2 _ _ _ _ _ _)
   | (with_reducible exact ih3 _ _ _ _ _ _)
   | (with_reducible exact ih4 _ _ _ _ _ _)
   | (with_reducible exact ih5 _ _ _ _ _ _)
   | (with_reducible exact ih6 _ _ _ _)
   | (with_reducible exact ih7 _ _ _ _)
   | (with_reducible exact cohousinglaw01_head.mono _)
   | (with_reducible exact cohousingref01_Add.mono _ _ _ _ _)
   | (with_reducible exact cohousingref01_Compare.mono _ _ _ _ _)
   | (with_reducible exact cohousingref01_Div.mono _ _ _ _ _)
   | (with_reducible exact cohousingref01_Floor.mono _ _ _)
   | (with_reducible exact cohousingref01_Make.mono _ _ _)
   | (with_reducible exact cohousingref01_Mul.mono _ _ _ _ _)
   | (with_reducible exact cohousingref01_Parse.mono _ _)
   | (with_reducible exact cohousingref01_Sub.mono _ _ _ _ _)
   | (with_reducible exact cohousingref01_Text.mono _ _ _)
   | (with_reducible exact cohousingref01_Valid.mono _ _ _)
   | (with_reducible exact rational_Compare.mono _ _ _ _ _)
   | (with_reducible exact LeO.refl _)
   | (with_reducible exact LeO.none _)
   | (with_reducible refine LeO.ite ?_ ?_)
   | (with_reducible refine LeO.bind ?_ (fun _ => ?_))
   | exact ih0 _ _ _ _ _ _ _ _
   | exact ih1 _ _ _ _ _ _
   | exact ih2 _ _ _ _ _ _
   | exact ih3 _ _ _ _ _ _
   | exact ih4 _ _ _ _ _ _
   | exact ih5 _ _ _ _ _ _
   | exact ih6 _ _ _ _
   | exact ih7 _ _ _ _
   | exact cohousinglaw01_head.mono _
   | exact cohousingref01_Add.mono _ _ _ _ _
   | exact cohousingref01_Compare.mono _ _ _ _ _
   | exact cohousingref01_Div.mono _ _ _ _ _
   | exact cohousingref01_Floor.mono _ _ _
   | exact cohousingref01_Make.mono _ _ _
   | exact cohousingref01_Mul.mono _ _ _ _ _
   | exact cohousingref01_Parse.mono _ _
   | exact cohousingref01_Sub.mono _ _ _ _ _
   | exact cohousingref01_Text.mono _ _ _
   | exact cohousingref01_Valid.mono _ _ _
   | exact rational_Compare.mono _ _ _ _ _
   | exact LeO.none _
   | refine LeO.ite ?_ ?_
   | refine LeO.bind ?_ (fun _ => ?_)
theorem cohousinglaw01_RationalMatchesReference.mono : ∀ a0 a1 a2 a3 a4 a5 a6 k, LeO (cohousinglaw01_RationalMatchesReference.f k a0 a1 a2 a3 a4 a5 a6) (cohousinglaw01_RationalMatchesReference.f (k + 1) a0 a1 a2 a3 a4 a5 a6) := by
 intro a0 a1 a2 a3 a4 a5 a6 k
 obtain ⟨ih0, ih1, ih2, ih3, ih4, ih5, ih6, ih7⟩ := cohousinglaw01_RationalMatchesReference.mono_l k
 unfold cohousinglaw01_RationalMatchesReference.f
 repeat' first
   | (with_reducible exact ih0 _ _ _ _ _ _ _ _)
   | (with_reducible exact ih1 _ _ _ _ _ _)
   | (with_reducible exact ih2 _ _ _ _ _ _)
   | (with_reducible exact ih3 _ _ _ _ _ _)
   | (with_reducible exact ih4 _ _ _ _ _ _)
   | (with_reducible exact ih5 _ _ _ _ _ _)
   | (with_reducible exact ih6 _ _ _ _)
   | (with_reducible exact ih7 _ _ _ _)
   | (with_reducible exact cohousinglaw01_head.mono _)
   | (with_reducible exact cohousingref01_Add.mono _ _ _ _ _)
   | (with_reducible exact cohousingref01_Compare.mono _ _ _ _ _)
   | (with_reducible exact cohousingref01_Div.mono _ _ _ _ _)
   | (with_reducible exact cohousingref01_Floor.mono _ _ _)
   | (with_reducible exact cohousingref01_Make.mono _ _ _)
   | (with_reducible exact cohousingref01_Mul.mono _ _ _ _ _)
   | (with_reducible exact cohousingref01_Parse.mono _ _)
   | (with_reducible exact cohousingref01_Sub.mono _ _ _ _ _)
   | (with_reducible exact cohousingref01_Text.mono _ _ _)
   | (with_reducible exact cohousingref01_Valid.mono _ _ _)
   | (with_reducible exact rational_Compare.mono _ _ _ _ _)
   | (with_reducible exact LeO.refl _)
   | (with_reducible exact LeO.none _)
   | (with_reducible refine LeO.ite ?_ ?_)
   | (with_reducible refine LeO.bind ?_ (fun _ => ?_))
   | exact ih0 _ _ _ _ _ _ _ _
   | exact ih1 _ _ _ _ _ _
   | exact ih2 _ _ _ _ _ _
   | exact ih3 _ _ _ _ _ _
   | exact ih4 _ _ _ _ _ _
   | exact ih5 _ _ _ _ _ _
   | exact ih6 _ _ _ _
   | exact ih7 _ _ _ _
   | exact cohousinglaw01_head.mono _
   | exact cohousingref01_Add.mono _ _ _ _ _
   | exact cohousingref01_Compare.mono _ _ _ _ _
   | exact cohousingref01_Div.mono _ _ _ _ _
   | exact cohousingref01_Floor.mono _ _ _
   | exact cohousingref01_Make.mono _ _ _
   | exact cohousingref01_Mul.mono _ _ _ _ _
   | exact cohousingref01_Parse.mono _ _
   | exact cohousingref01_Sub.mono _ _ _ _ _
   | exact cohousingref01_Text.mono _ _ _
   | exact cohousingref01_Valid.mono _ _ _
   | exact rational_Compare.mono _ _ _ _ _
   | exact LeO.none _
   | refine LeO.ite ?_ ?_
   | refine LeO.bind ?_ (fun _ => ?_)
def cohousinglaw01_RationalMatchesReference.T1 : Bool × List (List Nat × List Nat) := (true, [([], []), ([0, 0], [0]), ([1], [1]), ([2, 1, 1], [1, 2]), ([1], [1]), ([4, 3, 1], [1, 4]), ([3, 5, 1], [1, 3, 5]), ([1, 6], [1, 6]), ([7, 5, 0, 1, 2, 3, 4, 5, 6, 7], [7])])
def cohousinglaw01_RationalMatchesReference.B1 : List Nat := [0, 1, 3, 7, 3, 31, 63, 127, 255]
theorem cohousinglaw01_RationalMatchesReference.tab1 : rtab .any (opsOf Tryd.f6 1) = cohousinglaw01_RationalMatchesReference.T1 := by kernel_rfl
theorem cohousinglaw01_RationalMatchesReference.bits1 : waitsOk cohousinglaw01_RationalMatchesReference.T1.2 cohousinglaw01_RationalMatchesReference.B1 = true := by kernel_rfl
set_option maxHeartbeats 8000000 in
set_option maxRecDepth 100000 in
theorem cohousinglaw01_RationalMatchesReference.calls (k : Nat) (a0_0 : Int) (a0_1 : Int) (a1_0 : Int) (a1_1 : Int) (a2 : Int) (a3 : Int) (a4 : ByteArray) (r : Bool) (w : World) (hG : GL w) (h : cohousinglaw01_RationalMatchesReference.f k a0_0 a0_1 a1_0 a1_1 a2 a3 a4 = some r) :
  Calls Tryd.prog 6 #[.agg #[.int .i64 a0_0, .int .i64 a0_1], .agg #[.int .i64 a1_0, .int .i64 a1_1], .int .i64 a2, .int .i64 a3, .string a4] w fun e w' => e = .returned (.bool r) ∧ Below w.heap.size w w' := by
 have hu24 := Tryd.underlying24
 have HG := Aside0.mk hG
 clear hG
 have HB := Aside0.mk (Below.refl w.heap.size w)
 have H : ((cohousinglaw01_head.f k).bind fun t304 => (if t304 = true then ((rational_Valid.f a0_0 a0_1).bind fun t305 => ((cohousingref01_Valid.f k a0_0 a0_1).bind fun t306 => (cohousinglaw01_RationalMatchesReference.j0 k a2 a3 a4 (t305 == t306) a0_0 a0_1 a1_0 a1_1))) else (cohousinglaw01_RationalMatchesReference.j0 k a2 a3 a4 false a0_0 a0_1 a1_0 a1_1))) = some r := h
 clear h
 have HC6 := Aside0.mk H
 clear H
 go_enter Tryd.func6, Tryd.ntmps6
 go_upto_region 1 with (first | ((with_reducible refine gate_dst (N := 5) rfl ?_); refine box_event ?hg (N := 5) ?hd (cs := #[.int .i64 a0_0, .int .i64 a0_1]) (t := 24) ?hr ?_; (case hd => rfl); (case hg => rfl); (case hr => first | (go_simp; done) | (go_simp; rfl)); intro gb302 hg w7 hbox hb; have n0_ := Aside0.mk (bT (by repeat (first | (with_reducible first | exact HB.out | apply bA | apply bN | apply b1) | exact HB.out)) hb); have n1_ := Aside0.mk (hbox); have n2_ := Aside0.mk ((by rw [hg]; exact (bZ (by repeat (first | (with_reducible first | exact HB.out | apply bA | apply bN | apply b1) | exact HB.out))) : w.heap.size ≤ gb302)); have n3_ := n2_; clear HB; have HB := n0_; have BK302 := n1_; have GW302 := n2_; have GE302 := n3_; clear n0_ n1_ n2_ n3_; clear hb hbox hg) | ((with_reducible refine gate_dst (N := 6) rfl ?_); refine box_event ?hg (N := 6) ?hd (cs := #[.int .i64 a1_0, .int .i64 a1_1]) (t := 24) ?hr ?_; (case hd => rfl); (case hg => rfl); (case hr => first | (go_simp; done) | (go_simp; rfl)); intro gb303 hg w8 hbox hb; have n0_ := Aside0.mk (kB (g := gb302) (o := .cells #[.int .i64 a0_0, .int .i64 a0_1] 24 (0, 0)) (by (with_reducible repeat (first | refine kN ?_ _ | refine kD ?_ | refine kA ?_ _)); exact BK302.out) hb); have n1_ := Aside0.mk (bT (by repeat (first | (with_reducible first | exact HB.out | apply bA | apply bN | apply b1 | refine bS ?_ GE302.out) | exact HB.out)) hb); have n2_ := Aside0.mk (hbox); have n3_ := Aside0.mk ((by rw [hg]; exact (bZ (by repeat (first | (with_reducible first | exact HB.out | apply bA | apply bN | apply b1 | refine bS ?_ GE302.out) | exact HB.out))) : w.heap.size ≤ gb303)); have n4_ := n3_; have n5_ := Aside0.mk ((by rw [hg]; exact Nat.ne_of_lt (blk_lt (g := gb302) (o := .cells #[.int .i64 a0_0, .int .i64 a0_1] 24 (0, 0)) (by (with_reducible repeat (first | refine kN ?_ _ | refine kD ?_ | refine kA ?_ _)); exact BK302.out)) : gb302 ≠ gb303)); have n6_ := Aside0.mk n5_.out.symm; clear BK302; clear HB; have BK302 := n0_; have HB := n1_; have BK303 := n2_; have GW303 := n3_; have GE303 := n4_; have NB302_303 := n5_; have NB303_302 := n6_; clear n0_ n1_ n2_ n3_ n4_ n5_ n6_; clear hb hbox hg))
 (try simp only [Act.put, List.setIfInBounds_toArray, List.set_cons_zero, List.set_cons_succ])
 go_cut [11] (fun v11 wc => ∃ (kq : Nat) (x11_5 : Bool), v11 = .bool x11_5 ∧ Aside0 (cohousinglaw01_RationalMatchesReference.j0 kq a2 a3 a4 x11_5 a0_0 a0_1 a1_0 a1_1 = some r) ∧ Aside0 (kq ≤ k) ∧ Aside0 (wc.heap[gb302]? = some (.cells #[.int .i64 a0_0, .int .i64 a0_1] 24 (0, 0))) ∧ Aside0 (wc.heap[gb303]? = some (.cells #[.int .i64 a1_0, .int .i64 a1_1] 24 (0, 0))) ∧ Aside0 (Below w.heap.size w wc))
 case first =>
  have H := HC6.out
  clear HC6
  replace H := Option.bind_eq_some_iff.mp H
  obtain ⟨t304, A90, H⟩ := H
  replace H : (if t304 = true then ((rational_Valid.f a0_0 a0_1).bind fun t305 => ((cohousingref01_Valid.f k a0_0 a0_1).bind fun t306 => (cohousinglaw01_RationalMatchesReference.j0 k a2 a3 a4 (t305 == t306) a0_0 a0_1 a1_0 a1_1))) else (cohousinglaw01_RationalMatchesReference.j0 k a2 a3 a4 false a0_0 a0_1 a1_0 a1_1)) = some r := H
  have A9 := Aside0.mk A90
  clear A90
  by_cases c10 : t304 = true
  ·subst c10
   have H1 : ((rational_Valid.f a0_0 a0_1).bind fun t305 => ((cohousingref01_Valid.f k a0_0 a0_1).bind fun t306 => (cohousinglaw01_RationalMatchesReference.j0 k a2 a3 a4 (t305 == t306) a0_0 a0_1 a1_0 a1_1))) = some r := by rw [if_pos rfl] at H; exact H
   clear H
   have H := H1
   clear H1
   replace H := Option.bind_eq_some_iff.mp H
   obtain ⟨t305, A110, H⟩ := H
   replace H : ((cohousingref01_Valid.f k a0_0 a0_1).bind fun t306 => (cohousinglaw01_RationalMatchesReference.j0 k a2 a3 a4 (t305 == t306) a0_0 a0_1 a1_0 a1_1)) = some r := H
   have A11 := Aside0.mk A110
   clear A110
   replace H := Option.bind_eq_some_iff.mp H
   obtain ⟨t306, A120, H⟩ := H
   replace H : (cohousinglaw01_RationalMatchesReference.j0 k a2 a3 a4 (t305 == t306) a0_0 a0_1 a1_0 a1_1) = some r := H
   have A12 := Aside0.mk A120
   clear A120
   as_aux_lemma =>
    have H' := Aside0.mk H
    clear H
    try go_wp2
    have n0_ := Aside0.mk (kD BK302.out)
    have n1_ := Aside0.mk (kD BK303.out)
    have n2_ := Aside0.mk (b1 HB.out)
    clear BK302
    clear BK303
    clear HB
    have BK302 := n0_
    have BK303 := n1_
    have HB := n2_
    clear n0_ n1_ n2_
    refine start_ (n := 9) (S := fun w' => w'.cell? ⟨gb302, 0, none⟩ = some (.int .i64 a0_0) ∧ w'.cell? ⟨gb302, 1, none⟩ = some (.int .i64 a0_1)) (ds := []) #[false, false, false, false, false, false, false, false, false] (by kernel_rfl) rfl rfl ⟨(kC BK302.out 0).trans rfl, (kC BK302.out 1).trans rfl⟩ (fun hHeld => ?_); refine with_tabW cohousinglaw01_RationalMatchesReference.tab1 cohousinglaw01_RationalMatchesReference.bits1 (fun HT_ HW_ => ?_)
    generalize w8.drew = w13 at BK302 BK303 HB hHeld ⊢
    refine one_ (i := 0) (N := some 22) #[true, false, false, false, false, false, false, false, false] rfl rfl (one_of HT_.out (by kernel_rfl)) (by decide) (fun K hK => ?_)
    refine goes_ Tryd.func10 (by kernel_rfl) rfl #[] (by rfl) rfl rfl (by (try simp only [List.map_toArray, List.map_cons, List.map_nil]); first | done | rfl | (simp only [List.length_drop, List.length_take]; rfl)) ?_
    with_reducible refine (cohousinglaw01_head.calls k  true _ ?side1 A9.out).mono ?_
    (case side1 => exact GL.below HG.out (by repeat (first | (with_reducible first | exact HB.out | apply bA | apply bN | apply b1 | refine bS ?_ GE302.out | refine bS ?_ GE303.out) | exact HB.out)))
    rintro e w14 ⟨rfl, hb⟩
    refine ⟨_, rfl, ?_⟩
    have n0_ := Aside0.mk (kB (g := gb302) (o := .cells #[.int .i64 a0_0, .int .i64 a0_1] 24 (0, 0)) (by (with_reducible repeat (first | refine kN ?_ _ | refine kD ?_ | refine kA ?_ _)); exact BK302.out) hb)
    have n1_ := Aside0.mk (kB (g := gb303) (o := .cells #[.int .i64 a1_0, .int .i64 a1_1] 24 (0, 0)) (by (with_reducible repeat (first | refine kN ?_ _ | refine kD ?_ | refine kA ?_ _)); exact BK303.out) hb)
    have n2_ := Aside0.mk (bT (by repeat (first | (with_reducible first | exact HB.out | apply bA | apply bN | apply b1 | refine bS ?_ GE302.out | refine bS ?_ GE303.out) | exact HB.out)) hb)
    clear BK302
    clear BK303
    clear HB
    have BK302 := n0_
    have BK303 := n1_
    have HB := n2_
    clear n0_ n1_ n2_
    (try clear hb)
    (try clear hb2)
    (try clear hk)
    (try clear hi)
    refine hK.out _ _ ⟨(kC BK302.out 0).trans rfl, (kC BK302.out 1).trans rfl⟩ (fun hHeld => ?_)
    clear hK K
    refine norm_ (a' := ?_) ?_ ?_
    rotate_left
    ·show Act.put _ (some 22) _ = _
     simp only [Act.put, List.setIfInBounds_toArray, List.set_cons_zero, List.set_cons_succ, i64_w, i32_w]
     rfl
    refine pure_ (i := 1) (N := some 23) (v := ?_) (a' := ?_) #[true, true, false, false, false, false, false, false, false] rfl rfl (any_of HT_.out (by kernel_rfl)) (fun _ _ _ h => h) (Or.inl ⟨by rfl, ?_⟩) ?_ ?_
    rotate_left
    ·intro w'
     go_simp
     with_reducible rfl
    rotate_left
    ·simp only [Act.put, List.setIfInBounds_toArray, List.set_cons_zero, List.set_cons_succ, i64_w, i32_w]
     rfl
    refine take_ (i := 2) (N := some 24) (v := ?_) (a' := ?_) #[true, true, true, false, false, false, false, false, false] rfl rfl (take_ofW HT_.out HW_.out (by kernel_rfl)) (fun _ _ _ h => h) (Or.inl ⟨by rfl, ?_⟩) hHeld ?_ ?_
    rotate_left
    ·rintro w' ⟨s0, s1⟩
     go_simp
     with_reducible rfl
    rotate_left
    ·simp only [Act.put, List.setIfInBounds_toArray, List.set_cons_zero, List.set_cons_succ, i64_w, i32_w]
     rfl
    refine take_ (i := 4) (N := some 26) (v := ?_) (a' := ?_) #[true, true, true, false, true, false, false, false, false] rfl rfl (take_ofW HT_.out HW_.out (by kernel_rfl)) (fun _ _ _ h => h) (Or.inl ⟨by rfl, ?_⟩) hHeld ?_ ?_
    rotate_left
    ·rintro w' ⟨s0, s1⟩
     go_simp
     with_reducible rfl
    rotate_left
    ·simp only [Act.put, List.setIfInBounds_toArray, List.set_cons_zero, List.set_cons_succ, i64_w, i32_w]
     rfl
    refine one_ (i := 3) (N := some 25) #[true, true, true, true, true, false, false, false, false] rfl rfl (one_of HT_.out (by kernel_rfl)) (by decide) (fun K hK => ?_)
    refine goes_ Tryd.func12 (by kernel_rfl) rfl #[.agg #[.int .i64 a0_0, .int .i64 a0_1]] (by rfl) rfl rfl (by (try simp only [List.map_toArray, List.map_cons, List.map_nil]); first | done | rfl | (simp only [List.length_drop, List.length_take]; rfl)) ?_
    with_reducible refine (rational_Valid.calls a0_0 a0_1 t305 _ A11.out).mono ?_
    rintro e w15 ⟨rfl, hb⟩
    refine ⟨_, rfl, ?_⟩
    have n0_ := Aside0.mk (kB (g := gb302) (o := .cells #[.int .i64 a0_0, .int .i64 a0_1] 24 (0, 0)) (by (with_reducible repeat (first | refine kN ?_ _ | refine kD ?_ | refine kA ?_ _)); exact BK302.out) hb)
    have n1_ := Aside0.mk (kB (g := gb303) (o := .cells #[.int .i64 a1_0, .int .i64 a1_1] 24 (0, 0)) (by (with_reducible repeat (first | refine kN ?_ _ | refine kD ?_ | refine kA ?_ _)); exact BK303.out) hb)
    have n2_ := Aside0.mk (bT (by repeat (first | (with_reducible first | exact HB.out | apply bA | apply bN | apply b1 | refine bS ?_ GE302.out | refine bS ?_ GE303.out) | exact HB.out)) hb)
    clear BK302
    clear BK303
    clear HB
    have BK302 := n0_
    have BK303 := n1_
    have HB := n2_
    clear n0_ n1_ n2_
    (try clear hb)
    (try clear hb2)
    (try clear hk)
    (try clear hi)
    refine hK.out _ _ ⟨(kC BK302.out 0).trans rfl, (kC BK302.out 1).trans rfl⟩ (fun hHeld => ?_)
    clear hK K
    refine norm_ (a' := ?_) ?_ ?_
    rotate_left
    ·show Act.put _ (some 25) _ = _
     simp only [Act.put, List.setIfInBounds_toArray, List.set_cons_zero, List.set_cons_succ, i64_w, i32_w]
     rfl
    refine one_ (i := 5) (N := some 27) #[true, true, true, true, true, true, false, false, false] rfl rfl (one_of HT_.out (by kernel_rfl)) (by decide) (fun K hK => ?_)
    refine goes_ Tryd.func20 (by kernel_rfl) rfl #[.agg #[.int .i64 a0_0, .int .i64 a0_1]] (by rfl) rfl rfl (by (try simp only [List.map_toArray, List.map_cons, List.map_nil]); first | done | rfl | (simp only [List.length_drop, List.length_take]; rfl)) ?_
    with_reducible refine (cohousingref01_Valid.calls k a0_0 a0_1 t306 _ A12.out).mono ?_
    rintro e w16 ⟨rfl, hb⟩
    refine ⟨_, rfl, ?_⟩
    have n0_ := Aside0.mk (kB (g := gb302) (o := .cells #[.int .i64 a0_0, .int .i64 a0_1] 24 (0, 0)) (by (with_reducible repeat (first | refine kN ?_ _ | refine kD ?_ | refine kA ?_ _)); exact BK302.out) hb)
    have n1_ := Aside0.mk (kB (g := gb303) (o := .cells #[.int .i64 a1_0, .int .i64 a1_1] 24 (0, 0)) (by (with_reducible repeat (first | refine kN ?_ _ | refine kD ?_ | refine kA ?_ _)); exact BK303.out) hb)
    have n2_ := Aside0.mk (bT (by repeat (first | (with_reducible first | exact HB.out | apply bA | apply bN | apply b1 | refine bS ?_ GE302.out | refine bS ?_ GE303.out) | exact HB.out)) hb)
    clear BK302
    clear BK303
    clear HB
    have BK302 := n0_
    have BK303 := n1_
    have HB := n2_
    clear n0_ n1_ n2_
    (try clear hb)
    (try clear hb2)
    (try clear hk)
    (try clear hi)
    refine hK.out _ _ ⟨(kC BK302.out 0).trans rfl, (kC BK302.out 1).trans rfl⟩ (fun hHeld => ?_)
    clear hK K
    refine norm_ (a' := ?_) ?_ ?_
    rotate_left
    ·show Act.put _ (some 27) _ = _
     simp only [Act.put, List.setIfInBounds_toArray, List.set_cons_zero, List.set_cons_succ, i64_w, i32_w]
     rfl
    refine pure_ (i := 6) (N := some 28) (v := ?_) (a' := ?_) #[true, true, true, true, true, true, true, false, false] rfl rfl (any_of HT_.out (by kernel_rfl)) (fun _ _ _ h => h) (Or.inl ⟨by rfl, ?_⟩) ?_ ?_
    rotate_left
    ·intro w'
     go_simp
     with_reducible rfl
    rotate_left
    ·simp only [Act.put, List.setIfInBounds_toArray, List.set_cons_zero, List.set_cons_succ, i64_w, i32_w]
     rfl
    refine pure_ (i := 7) (N := some 29) (v := ?_) (a' := ?_) #[true, true, true, true, true, true, true, true, false] rfl rfl (any_of HT_.out (by kernel_rfl)) (fun _ _ _ h => h) (Or.inl ⟨by rfl, ?_⟩) ?_ ?_
    rotate_left
    ·intro w'
     go_simp
     with_reducible rfl
    rotate_left
    ·simp only [Act.put, List.setIfInBounds_toArray, List.set_cons_zero, List.set_cons_succ, i64_w, i32_w]
     rfl
    refine pure_ (i := 8) (N := some 11) (v := ?_) (a' := ?_) #[true, true, true, true, true, true, true, true, true] rfl rfl (any_of HT_.out (by kernel_rfl)) (fun _ _ _ h => h) (Or.inl ⟨by rfl, ?_⟩) ?_ ?_
    rotate_left
    ·intro w'
     go_simp
     with_reducible rfl
    rotate_left
    ·simp only [Act.put, List.setIfInBounds_toArray, List.set_cons_zero, List.set_cons_succ, i64_w, i32_w]
     rfl
    refine done_ (done_of HT_.out (by kernel_rfl)) ?_
    try go_wp2
    go_meet
    case rel => exact ⟨_, ((t305 == t306)), (by first | rfl | (simp; done) | (simp [*]; done)), H', ⟨by first | omega | exact Nat.le_refl _⟩, ⟨by (with_reducible repeat (first | refine kN ?_ _ | refine kD ?_ | refine kA ?_ _)); exact BK302.out⟩, ⟨by (with_reducible repeat (first | refine kN ?_ _ | refine kD ?_ | refine kA ?_ _)); exact BK303.out⟩, ⟨by repeat (first | (with_reducible first | exact HB.out | apply bA | apply bN | apply b1 | refine bS ?_ GE302.out | refine bS ?_ GE303.out) | exact HB.out)⟩⟩
  ·replace c10 := Bool.eq_false_iff.mpr c10
   subst c10
   have H1 : (cohousinglaw01_RationalMatchesReference.j0 k a2 a3 a4 false a0_0 a0_1 a1_0 a1_1) = some r := by rw [if_neg (show ¬ (false = true) by decide)] at H; exact H
   clear H
   have H := H1
   clear H1
   as_aux_lemma =>
    have H' := Aside0.mk H
    clear H
    try go_wp2
    have n0_ := Aside0.mk (kD BK302.out)
    have n1_ := Aside0.mk (kD BK303.out)
    have n2_ := Aside0.mk (b1 HB.out)
    clear BK302
    clear BK303
    clear HB
    have BK302 := n0_
    have BK303 := n1_
    have HB := n2_
    clear n0_ n1_ n2_
    refine start_ (n := 9) (S := fun w' => True) (ds := []) #[false, false, false, false, false, false, false, false, false] (by kernel_rfl) rfl rfl trivial (fun hHeld => ?_); refine with_tabW cohousinglaw01_RationalMatchesReference.tab1 cohousinglaw01_RationalMatchesReference.bits1 (fun HT_ HW_ => ?_)
    generalize w8.drew = w17 at BK302 BK303 HB hHeld ⊢
    refine one_ (i := 0) (N := some 22) #[true, false, false, false, false, false, false, false, false] rfl rfl (one_of HT_.out (by kernel_rfl)) (by decide) (fun K hK => ?_)
    refine goes_ Tryd.func10 (by kernel_rfl) rfl #[] (by rfl) rfl rfl (by (try simp only [List.map_toArray, List.map_cons, List.map_nil]); first | done | rfl | (simp only [List.length_drop, List.length_take]; rfl)) ?_
    with_reducible refine (cohousinglaw01_head.calls k  false _ ?side1 A9.out).mono ?_
    (case side1 => exact GL.below HG.out (by repeat (first | (with_reducible first | exact HB.out | apply bA | apply bN | apply b1 | refine bS ?_ GE302.out | refine bS ?_ GE303.out) | exact HB.out)))
    rintro e w18 ⟨rfl, hb⟩
    refine ⟨_, rfl, ?_⟩
    have n0_ := Aside0.mk (kB (g := gb302) (o := .cells #[.int .i64 a0_0, .int .i64 a0_1] 24 (0, 0)) (by (with_reducible repeat (first | refine kN ?_ _ | refine kD ?_ | refine kA ?_ _)); exact BK302.out) hb)
    have n1_ := Aside0.mk (kB (g := gb303) (o := .cells #[.int .i64 a1_0, .int .i64 a1_1] 24 (0, 0)) (by (with_reducible repeat (first | refine kN ?_ _ | refine kD ?_ | refine kA ?_ _)); exact BK303.out) hb)
    have n2_ := Aside0.mk (bT (by repeat (first | (with_reducible first | exact HB.out | apply bA | apply bN | apply b1 | refine bS ?_ GE302.out | refine bS ?_ GE303.out) | exact HB.out)) hb)
    clear BK302
    clear BK303
    clear HB
    have BK302 := n0_
    have BK303 := n1_
    have HB := n2_
    clear n0_ n1_ n2_
    (try clear hb)
    (try clear hb2)
    (try clear hk)
    (try clear hi)
    refine hK.out _ _ trivial (fun hHeld => ?_)
    clear hK K
    refine norm_ (a' := ?_) ?_ ?_
    rotate_left
    ·show Act.put _ (some 22) _ = _
     simp only [Act.put, List.setIfInBounds_toArray, List.set_cons_zero, List.set_cons_succ, i64_w, i32_w]
     rfl
    refine pure_ (i := 1) (N := some 23) (v := ?_) (a' := ?_) #[true, true, false, false, false, false, false, false, false] rfl rfl (any_of HT_.out (by kernel_rfl)) (fun _ _ _ h => h) (Or.inl ⟨by rfl, ?_⟩) ?_ ?_
    rotate_left
    ·intro w'
     go_simp
     with_reducible rfl
    rotate_left
    ·simp only [Act.put, List.setIfInBounds_toArray, List.set_cons_zero, List.set_cons_succ, i64_w, i32_w]
     rfl
    refine pure_ (i := 2) (N := some 24) (v := undef) (a' := ?_) #[true, true, true, false, false, false, false, false, false] rfl rfl (any_of HT_.out (by kernel_rfl)) (fun _ _ _ h => h) (Or.inr ⟨by rfl, rfl⟩) ?_ ?_
    rotate_left
    ·simp only [Act.put, List.setIfInBounds_toArray, List.set_cons_zero, List.set_cons_succ, i64_w, i32_w]
     rfl
    refine pure_ (i := 3) (N := some 25) (v := undef) (a' := ?_) #[true, true, true, true, false, false, false, false, false] rfl rfl (any_of HT_.out (by kernel_rfl)) (fun _ _ _ h => h) (Or.inr ⟨by rfl, rfl⟩) ?_ ?_
    rotate_left
    ·simp only [Act.put, List.setIfInBounds_toArray, List.set_cons_zero, List.set_cons_succ, i64_w, i32_w]
     rfl
    refine pure_ (i := 4) (N := some 26) (v := undef) (a' := ?_) #[true, true, true, true, true, false, false, false, false] rfl rfl (any_of HT_.out (by kernel_rfl)) (fun _ _ _ h => h) (Or.inr ⟨by rfl, rfl⟩) ?_ ?_
    rotate_left
    ·simp only [Act.put, List.setIfInBounds_toArray, List.set_cons_zero, List.set_cons_succ, i64_w, i32_w]
     rfl
    refine pure_ (i := 5) (N := some 27) (v := undef) (a' := ?_) #[true, true, true, true, true, true, false, false, false] rfl rfl (any_of HT_.out (by kernel_rfl)) (fun _ _ _ h => h) (Or.inr ⟨by rfl, rfl⟩) ?_ ?_
    rotate_left
    ·simp only [Act.put, List.setIfInBounds_toArray, List.set_cons_zero, List.set_cons_succ, i64_w, i32_w]
     rfl
    refine pure_ (i := 6) (N := some 28) (v := undef) (a' := ?_) #[true, true, true, true, true, true, true, false, false] rfl rfl (any_of HT_.out (by kernel_rfl)) (fun _ _ _ h => h) (Or.inr ⟨by rfl, rfl⟩) ?_ ?_
    rotate_left
    ·simp only [Act.put, List.setIfInBounds_toArray, List.set_cons_zero, List.set_cons_succ, i64_w, i32_w]
     rfl
    refine pure_ (i := 7) (N := some 29) (v := ?_) (a' := ?_) #[true, true, true, true, true, true, true, true, false] rfl rfl (any_of HT_.out (by kernel_rfl)) (fun _ _ _ h => h) (Or.inl ⟨by rfl, ?_⟩) ?_ ?_
    rotate_left
    ·intro w'
     go_simp
     with_reducible rfl
    rotate_left
    ·simp only [Act.put, List.setIfInBounds_toArray, List.set_cons_zero, List.set_cons_succ, i64_w, i32_w]
     rfl
    refine pure_ (i := 8) (N := some 11) (v := ?_) (a' := ?_) #[true, true, true, true, true, true, true, true, true] rfl rfl (any_of HT_.out (by kernel_rfl)) (fun _ _ _ h => h) (Or.inl ⟨by rfl, ?_⟩) ?_ ?_
    rotate_left
    ·intro w'
     go_simp
     with_reducible rfl
    rotate_left
    ·simp only [Act.put, List.setIfInBounds_toArray, List.set_cons_zero, List.set_cons_succ, i64_w, i32_w]
     rfl
    refine done_ (done_of HT_.out (by kernel_rfl)) ?_
    try go_wp2
    go_meet
    case rel => exact ⟨_, (false), (by first | rfl | (simp; done) | (simp [*]; done)), H', ⟨by first | omega | exact Nat.le_refl _⟩, ⟨by (with_reducible repeat (first | refine kN ?_ _ | refine kD ?_ | refine kA ?_ _)); exact BK302.out⟩, ⟨by (with_reducible repeat (first | refine kN ?_ _ | refine kD ?_ | refine kA ?_ _)); exact BK303.out⟩, ⟨by repeat (first | (with_reducible first | exact HB.out | apply bA | apply bN | apply b1 | refine bS ?_ GE302.out | refine bS ?_ GE303.out) | exact HB.out)⟩⟩
 case rest =>
  clear HC6
  try clear c1
  try clear c2
  try clear p2
  try clear c6
  try clear c10
  try clear c12
  obtain ⟨kq, x11_5, rfl, HA, HJ5, BK302, BK303, HB⟩ := hcut
  cases kq with
  | zero => exact absurd HA.out (by simp [cohousinglaw01_RationalMatchesReference.j0])
  | succ kj5 =>
   have H := HA.out
   clear HA
   simp only [cohousinglaw01_RationalMatchesReference.j0] at H
   replace H := Option.bind_eq_some_iff.mp H
   obtain ⟨⟨t307, t308, t309⟩, A190, H⟩ := H
   replace H : ((cohousingref01_Make.f kj5 a2 a3).bind fun bt311 => (if x11_5 = true then (if (t307 == bt311.1 && (t308 == bt311.2.1)) = true then (cohousinglaw01_RationalMatchesReference.j1 kj5 a4 (t309 == bt311.2.2) a0_0 a0_1 a1_0 a1_1) else (cohousinglaw01_RationalMatchesReference.j1 kj5 a4 false a0_0 a0_1 a1_0 a1_1)) else (cohousinglaw01_RationalMatchesReference.j1 kj5 a4 false a0_0 a0_1 a1_0 a1_1))) = some r := H
   have A19 := Aside0.mk A190
   clear A190
   replace H := Option.bind_eq_some_iff.mp H
   obtain ⟨⟨t311, t312, t313⟩, A200, H⟩ := H
   replace H : (if x11_5 = true then (if (t307 == t311 && (t308 == t312)) = true then (cohousinglaw01_RationalMatchesReference.j1 kj5 a4 (t309 == t313) a0_0 a0_1 a1_0 a1_1) else (cohousinglaw01_RationalMatchesReference.j1 kj5 a4 false a0_0 a0_1 a1_0 a1_1)) else (cohousinglaw01_RationalMatchesReference.j1 kj5 a4 false a0_0 a0_1 a1_0 a1_1)) = some r := H
   have A20 := Aside0.mk A200
   clear A200
   have HC21 := Aside0.mk H
   clear H
   go_upto_region 4 with (first | ((with_reducible refine gate_callee (f := 11) rfl ?_); refine goesL_ (some 33) rfl rfl Tryd.func11 (by kernel_rfl) rfl #[.int .i64 a2, .int .i64 a3] rfl (by (try simp only [List.map_toArray, List.map_cons, List.map_nil]); first | done | rfl | (simp only [List.length_drop, List.length_take]; rfl)) ?_; (with_reducible refine (rational_Make.calls a2 a3 t307 t308 t309 _ A19.out).mono ?_); rintro e w22 ⟨rfl, hb⟩; refine ⟨_, rfl, ?_⟩; have n0_ := Aside0.mk (kB (g := gb302) (o := .cells #[.int .i64 a0_0, .int .i64 a0_1] 24 (0, 0)) (by (with_reducible repeat (first | refine kN ?_ _ | refine kD ?_ | refine kA ?_ _)); exact BK302.out) hb); have n1_ := Aside0.mk (kB (g := gb303) (o := .cells #[.int .i64 a1_0, .int .i64 a1_1] 24 (0, 0)) (by (with_reducible repeat (first | refine kN ?_ _ | refine kD ?_ | refine kA ?_ _)); exact BK303.out) hb); have n2_ := Aside0.mk (bT (by repeat (first | (with_reducible first | exact HB.out | apply bA | apply bN | apply b1 | refine bS ?_ GE302.out | refine bS ?_ GE303.out) | exact HB.out)) hb); clear BK302; clear BK303; clear HB; have BK302 := n0_; have BK303 := n1_; have HB := n2_; clear n0_ n1_ n2_; (try clear hb); (try clear hb2); (try clear hk); (try clear hi)) | ((with_reducible refine gate_dst (N := 12) rfl ?_); refine box_event ?hg (N := 12) ?hd (cs := #[.int .i64 0, .int .i64 0]) (t := 24) ?hr ?_; (case hd => rfl); (case hg => rfl); (case hr => first | (go_simp; done) | (go_simp; rfl)); intro gb310 hg w23 hbox hb; have n0_ := Aside0.mk (kB (g := gb302) (o := .cells #[.int .i64 a0_0, .int .i64 a0_1] 24 (0, 0)) (by (with_reducible repeat (first | refine kN ?_ _ | refine kD ?_ | refine kA ?_ _)); exact BK302.out) hb); have n1_ := Aside0.mk (kB (g := gb303) (o := .cells #[.int .i64 a1_0, .int .i64 a1_1] 24 (0, 0)) (by (with_reducible repeat (first | refine kN ?_ _ | refine kD ?_ | refine kA ?_ _)); exact BK303.out) hb); have n2_ := Aside0.mk (bT (by repeat (first | (with_reducible first | exact HB.out | apply bA | apply bN | apply b1 | refine bS ?_ GE302.out | refine bS ?_ GE303.out) | exact HB.out)) hb); have n3_ := Aside0.mk (hbox); have n4_ := Aside0.mk ((by rw [hg]; exact (bZ (by repeat (first | (with_reducible first | exact HB.out | apply bA | apply bN | apply b1 | refine bS ?_ GE302.out | refine bS ?_ GE303.out) | exact HB.out))) : w.heap.size ≤ gb310)); have n5_ := n4_; have n6_ := Aside0.mk ((by rw [hg]; exact Nat.ne_of_lt (blk_lt (g := gb302) (o := .cells #[.int .i64 a0_0, .int .i64 a0_1] 24 (0, 0)) (by (with_reducible repeat (first | refine kN ?_ _ | refine kD ?_ | refine kA ?_ _)); exact BK302.out)) : gb302 ≠ gb310)); have n7_ := Aside0.mk n6_.out.symm; have n8_ := Aside0.mk ((by rw [hg]; exact Nat.ne_of_lt (blk_lt (g := gb303) (o := .cells #[.int .i64 a1_0, .int .i64 a1_1] 24 (0, 0)) (by (with_reducible repeat (first | refine kN ?_ _ | refine kD ?_ | refine kA ?_ _)); exact BK303.out)) : gb303 ≠ gb310)); have n9_ := Aside0.mk n8_.out.symm; clear BK302; clear BK303; clear HB; have BK302 := n0_; have BK303 := n1_; have HB := n2_; have BK310 := n3_; have GW310 := n4_; have GE310 := n5_; have NB302_310 := n6_; have NB310_302 := n7_; have NB303_310 := n8_; have NB310_303 := n9_; clear n0_ n1_ n2_ n3_ n4_ n5_ n6_ n7_ n8_ n9_; clear hb hbox hg; have hnb24 := NB310_302.out; have hnc24 := NB302_310.out; have hnb25 := NB310_303.out; have hnc25 := NB303_310.out; have hcz26_0 : w23.cell? ⟨gb310, 0, none⟩ = some (.int .i64 0) := (kC BK310.out 0).trans rfl; have hcz26_1 : w23.cell? ⟨gb310, 1, none⟩ = some (.int .i64 0) := (kC BK310.out 1).trans rfl; have hfz26_0 := blk_frozen BK310.out 0; have hfz26_1 := blk_frozen BK310.out 1) | ((with_reducible refine gate_callee (f := 21) rfl ?_); refine goesL_ (some 39) rfl rfl Tryd.func21 (by kernel_rfl) rfl #[.int .i64 a2, .int .i64 a3] rfl (by (try simp only [List.map_toArray, List.map_cons, List.map_nil]); first | done | rfl | (simp only [List.length_drop, List.length_take]; rfl)) ?_; (with_reducible refine (cohousingref01_Make.calls kj5 a2 a3 t311 t312 t313 _ A20.out).mono ?_); rintro e w27 ⟨rfl, hb⟩; refine ⟨_, rfl, ?_⟩; have n0_ := Aside0.mk (kB (g := gb302) (o := .cells #[.int .i64 a0_0, .int .i64 a0_1] 24 (0, 0)) (by (with_reducible repeat (first | refine kN ?_ _ | refine kD ?_ | refine kA ?_ _)); refine kF ?_ NB302_310.out _; (with_reducible repeat (first | refine kN ?_ _ | refine kD ?_ | refine kA ?_ _)); refine kF ?_ NB302_310.out _; (with_reducible repeat (first | refine kN ?_ _ | refine kD ?_ | refine kA ?_ _)); exact BK302.out) hb); have n1_ := Aside0.mk (kB (g := gb303) (o := .cells #[.int .i64 a1_0, .int .i64 a1_1] 24 (0, 0)) (by (with_reducible repeat (first | refine kN ?_ _ | refine kD ?_ | refine kA ?_ _)); refine kF ?_ NB303_310.out _; (with_reducible repeat (first | refine kN ?_ _ | refine kD ?_ | refine kA ?_ _)); refine kF ?_ NB303_310.out _; (with_reducible repeat (first | refine kN ?_ _ | refine kD ?_ | refine kA ?_ _)); exact BK303.out) hb); have n2_ := Aside0.mk (kB (g := gb310) (o := .cells #[.int .i64 t307, .int .i64 t308] 24 (0, 0)) (by (with_reducible repeat (first | refine kN ?_ _ | refine kD ?_ | refine kA ?_ _)); refine blk_put (cs := #[.int .i64 t307, .int .i64 0]) ?_ 1 _ rfl; (with_reducible repeat (first | refine kN ?_ _ | refine kD ?_ | refine kA ?_ _)); refine blk_put (cs := #[.int .i64 0, .int .i64 0]) ?_ 0 _ rfl; (with_reducible repeat (first | refine kN ?_ _ | refine kD ?_ | refine kA ?_ _)); exact BK310.out) hb); have n3_ := Aside0.mk (bT (by repeat (first | (with_reducible first | exact HB.out | apply bA | apply bN | apply b1 | refine bS ?_ GE302.out | refine bS ?_ GE303.out | refine bS ?_ GE310.out) | exact HB.out)) hb); clear BK302; clear BK303; clear BK310; clear HB; have BK302 := n0_; have BK303 := n1_; have BK310 := n2_; have HB := n3_; clear n0_ n1_ n2_ n3_; (try clear hb); (try clear hb2); (try clear hk); (try clear hi)) | ((with_reducible refine gate_dst (N := 14) rfl ?_); refine box_event ?hg (N := 14) ?hd (cs := #[.int .i64 0, .int .i64 0]) (t := 24) ?hr ?_; (case hd => rfl); (case hg => rfl); (case hr => first | (go_simp; done) | (go_simp; rfl)); intro gb314 hg w28 hbox hb; have n0_ := Aside0.mk (kB (g := gb302) (o := .cells #[.int .i64 a0_0, .int .i64 a0_1] 24 (0, 0)) (by (with_reducible repeat (first | refine kN ?_ _ | refine kD ?_ | refine kA ?_ _)); exact BK302.out) hb); have n1_ := Aside0.mk (kB (g := gb303) (o := .cells #[.int .i64 a1_0, .int .i64 a1_1] 24 (0, 0)) (by (with_reducible repeat (first | refine kN ?_ _ | refine kD ?_ | refine kA ?_ _)); exact BK303.out) hb); have n2_ := Aside0.mk (kB (g := gb310) (o := .cells #[.int .i64 t307, .int .i64 t308] 24 (0, 0)) (by (with_reducible repeat (first | refine kN ?_ _ | refine kD ?_ | refine kA ?_ _)); exact BK310.out) hb); have n3_ := Aside0.mk (bT (by repeat (first | (with_reducible first | exact HB.out | apply bA | apply bN | apply b1 | refine bS ?_ GE302.out | refine bS ?_ GE303.out | refine bS ?_ GE310.out) | exact HB.out)) hb); have n4_ := Aside0.mk (hbox); have n5_ := Aside0.mk ((by rw [hg]; exact (bZ (by repeat (first | (with_reducible first | exact HB.out | apply bA | apply bN | apply b1 | refine bS ?_ GE302.out | refine bS ?_ GE303.out | refine bS ?_ GE310.out) | exact HB.out))) : w.heap.size ≤ gb314)); have n6_ := n5_; have n7_ := Aside0.mk ((by rw [hg]; exact Nat.ne_of_lt (blk_lt (g := gb302) (o := .cells #[.int .i64 a0_0, .int .i64 a0_1] 24 (0, 0)) (by (with_reducible repeat (first | refine kN ?_ _ | refine kD ?_ | refine kA ?_ _)); exact BK302.out)) : gb302 ≠ gb314)); have n8_ := Aside0.mk n7_.out.symm; have n9_ := Aside0.mk ((by rw [hg]; exact Nat.ne_of_lt (blk_lt (g := gb303) (o := .cells #[.int .i64 a1_0, .int .i64 a1_1] 24 (0, 0)) (by (with_reducible repeat (first | refine kN ?_ _ | refine kD ?_ | refine kA ?_ _)); exact BK303.out)) : gb303 ≠ gb314)); have n10_ := Aside0.mk n9_.out.symm; have n11_ := Aside0.mk ((by rw [hg]; exact Nat.ne_of_lt (blk_lt (g := gb310) (o := .cells #[.int .i64 t307, .int .i64 t308] 24 (0, 0)) (by (with_reducible repeat (first | refine kN ?_ _ | refine kD ?_ | refine kA ?_ _)); exact BK310.out)) : gb310 ≠ gb314)); have n12_ := Aside0.mk n11_.out.symm; clear BK302; clear BK303; clear BK310; clear HB; have BK302 := n0_; have BK303 := n1_; have BK310 := n2_; have HB := n3_; have BK314 := n4_; have GW314 := n5_; have GE314 := n6_; have NB302_314 := n7_; have NB314_302 := n8_; have NB303_314 := n9_; have NB314_303 := n10_; have NB310_314 := n11_; have NB314_310 := n12_; clear n0_ n1_ n2_ n3_ n4_ n5_ n6_ n7_ n8_ n9_ n10_ n11_ n12_; clear hb hbox hg; have hnb29 := NB314_302.out; have hnc29 := NB302_314.out; have hnb30 := NB314_303.out; have hnc30 := NB303_314.out; have hnb31 := NB314_310.out; have hnc31 := NB310_314.out; have hcz32_0 : w28.cell? ⟨gb314, 0, none⟩ = some (.int .i64 0) := (kC BK314.out 0).trans rfl; have hcz32_1 : w28.cell? ⟨gb314, 1, none⟩ = some (.int .i64 0) := (kC BK314.out 1).trans rfl; have hfz32_0 := blk_frozen BK314.out 0; have hfz32_1 := blk_frozen BK314.out 1))
   (try simp only [Act.put, List.setIfInBounds_toArray, List.set_cons_zero, List.set_cons_succ])
   go_cut [11] (fun v11 wc => ∃ (kq : Nat) (x11_20 : Bool), v11 = .bool x11_20 ∧ Aside0 (cohousinglaw01_RationalMatchesReference.j1 kq a4 x11_20 a0_0 a0_1 a1_0 a1_1 = some r) ∧ Aside0 (kq ≤ kj5) ∧ Aside0 (wc.heap[gb302]? = some (.cells #[.int .i64 a0_0, .int .i64 a0_1] 24 (0, 0))) ∧ Aside0 (wc.heap[gb303]? = some (.cells #[.int .i64 a1_0, .int .i64 a1_1] 24 (0, 0))) ∧ Aside0 (wc.heap[gb310]? = some (.cells #[.int .i64 t307, .int .i64 t308] 24 (0, 0))) ∧ Aside0 (wc.heap[gb314]? = some (.cells #[.int .i64 t311, .int .i64 t312] 24 (0, 0))) ∧ Aside0 (Below w.heap.size w wc))
   case first =>
    have H := HC21.out
    clear HC21
    by_cases c33 : x11_5 = true
    ·subst c33
     have H1 : (if (t307 == t311 && (t308 == t312)) = true then (cohousinglaw01_RationalMatchesReference.j1 kj5 a4 (t309 == t313) a0_0 a0_1 a1_0 a1_1) else (cohousinglaw01_RationalMatchesReference.j1 kj5 a4 false a0_0 a0_1 a1_0 a1_1)) = some r := by rw [if_pos rfl] at H; exact H
     clear H
     have H := H1
     clear H1
     by_cases c34 : (t307 == t311 && (t308 == t312)) = true
     ·rw [if_pos c34] at H
      have c34b0 : (t307 == t311 && (t308 == t312)) = true := c34
      (try (have c34b1 : decide (t307 = t311 && (t308 == t312)) = true := by simpa using c34))
      (try (have c34b2 : (t307 == t311 && (t308 == t312)) = true := by simpa using c34))
      clear c34
      (first | rw [c34b0] | (simp only [i64_w, i32_w]; rw [c34b0]) | skip)
      as_aux_lemma =>
       have H' := Aside0.mk H
       clear H
       have hnb35 := NB310_302.out
       have hnc35 := NB302_310.out
       have hnb36 := NB310_303.out
       have hnc36 := NB303_310.out
       have hnb37 := NB310_314.out
       have hnc37 := NB314_310.out
       have hcz38_0 : w28.cell? ⟨gb310, 0, none⟩ = some (.int .i64 t307) := (kC BK310.out 0).trans rfl
       have hcz38_1 : w28.cell? ⟨gb310, 1, none⟩ = some (.int .i64 t308) := (kC BK310.out 1).trans rfl
       have hfz38_0 := blk_frozen BK310.out 0
       have hfz38_1 := blk_frozen BK310.out 1
       have hnb39 := NB314_302.out
       have hnc39 := NB302_314.out
       have hnb40 := NB314_303.out
       have hnc40 := NB303_314.out
       have hcz41_0 : w28.cell? ⟨gb314, 0, none⟩ = some (.int .i64 0) := (kC BK314.out 0).trans rfl
       have hcz41_1 : w28.cell? ⟨gb314, 1, none⟩ = some (.int .i64 0) := (kC BK314.out 1).trans rfl
       have hfz41_0 := blk_frozen BK314.out 0
       have hfz41_1 := blk_frozen BK314.out 1
       go_wp2
       go_meet
       case rel => exact ⟨_, ((t309 == t313)), (by first | rfl | (simp; done) | (simp [*]; done)), H', ⟨by have := HJ5.out; first | omega | exact Nat.le_refl _⟩, ⟨by (with_reducible repeat (first | refine kN ?_ _ | refine kD ?_ | refine kA ?_ _)); refine kF ?_ NB302_314.out _; (with_reducible repeat (first | refine kN ?_ _ | refine kD ?_ | refine kA ?_ _)); refine kF ?_ NB302_314.out _; (with_reducible repeat (first | refine kN ?_ _ | refine kD ?_ | refine kA ?_ _)); exact BK302.out⟩, ⟨by (with_reducible repeat (first | refine kN ?_ _ | refine kD ?_ | refine kA ?_ _)); refine kF ?_ NB303_314.out _; (with_reducible repeat (first | refine kN ?_ _ | refine kD ?_ | refine kA ?_ _)); refine kF ?_ NB303_314.out _; (with_reducible repeat (first | refine kN ?_ _ | refine kD ?_ | refine kA ?_ _)); exact BK303.out⟩, ⟨by (with_reducible repeat (first | refine kN ?_ _ | refine kD ?_ | refine kA ?_ _)); refine kF ?_ NB310_314.out _; (with_reducible repeat (first | refine kN ?_ _ | refine kD ?_ | refine kA ?_ _)); refine kF ?_ NB310_314.out _; (with_reducible repeat (first | refine kN ?_ _ | refine kD ?_ | refine kA ?_ _)); exact BK310.out⟩, ⟨by (with_reducible repeat (first | refine kN ?_ _ | refine kD ?_ | refine kA ?_ _)); refine blk_put (cs := #[.int .i64 t311, .int .i64 0]) ?_ 1 _ rfl; (with_reducible repeat (first | refine kN ?_ _ | refine kD ?_ | refine kA ?_ _)); refine blk_put (cs := #[.int .i64 0, .int .i64 0]) ?_ 0 _ rfl; (with_reducible repeat (first | refine kN ?_ _ | refine kD ?_ | refine kA ?_ _)); exact BK314.out⟩, ⟨by repeat (first | (with_reducible first | exact HB.out | apply bA | apply bN | apply b1 | refine bS ?_ GE302.out | refine bS ?_ GE303.out | refine bS ?_ GE310.out | refine bS ?_ GE314.out) | exact HB.out)⟩⟩
     ·rw [if_neg c34] at H
      have c34b0 : (t307 == t311 && (t308 == t312)) = false := by simpa using c34
      (try (have c34b1 : decide (t307 = t311 && (t308 == t312)) = false := by simpa using c34))
      (try (have c34b2 : (t307 == t311 && (t308 == t312)) = false := by simpa using c34))
      (try (have c34b3 : ¬ (t307 = t311 && (t308 == t312)) := by simpa using c34))
      clear c34
      (first | rw [c34b0] | (simp only [i64_w, i32_w]; rw [c34b0]) | skip)
      as_aux_lemma =>
       have H' := Aside0.mk H
       clear H
       have hnb42 := NB310_302.out
       have hnc42 := NB302_310.out
       have hnb43 := NB310_303.out
       have hnc43 := NB303_310.out
       have hnb44 := NB310_314.out
       have hnc44 := NB314_310.out
       have hcz45_0 : w28.cell? ⟨gb310, 0, none⟩ = some (.int .i64 t307) := (kC BK310.out 0).trans rfl
       have hcz45_1 : w28.cell? ⟨gb310, 1, none⟩ = some (.int .i64 t308) := (kC BK310.out 1).trans rfl
       have hfz45_0 := blk_frozen BK310.out 0
       have hfz45_1 := blk_frozen BK310.out 1
       have hnb46 := NB314_302.out
       have hnc46 := NB302_314.out
       have hnb47 := NB314_303.out
       have hnc47 := NB303_314.out
       have hcz48_0 : w28.cell? ⟨gb314, 0, none⟩ = some (.int .i64 0) := (kC BK314.out 0).trans rfl
       have hcz48_1 : w28.cell? ⟨gb314, 1, none⟩ = some (.int .i64 0) := (kC BK314.out 1).trans rfl
       have hfz48_0 := blk_frozen BK314.out 0
       have hfz48_1 := blk_frozen BK314.out 1
       go_wp2
       go_meet
       case rel => exact ⟨_, (false), (by first | rfl | (simp; done) | (simp [*]; done)), H', ⟨by have := HJ5.out; first | omega | exact Nat.le_refl _⟩, ⟨by (with_reducible repeat (first | refine kN ?_ _ | refine kD ?_ | refine kA ?_ _)); refine kF ?_ NB302_314.out _; (with_reducible repeat (first | refine kN ?_ _ | refine kD ?_ | refine kA ?_ _)); refine kF ?_ NB302_314.out _; (with_reducible repeat (first | refine kN ?_ _ | refine kD ?_ | refine kA ?_ _)); exact BK302.out⟩, ⟨by (with_reducible repeat (first | refine kN ?_ _ | refine kD ?_ | refine kA ?_ _)); refine kF ?_ NB303_314.out _; (with_reducible repeat (first | refine kN ?_ _ | refine kD ?_ | refine kA ?_ _)); refine kF ?_ NB303_314.out _; (with_reducible repeat (first | refine kN ?_ _ | refine kD ?_ | refine kA ?_ _)); exact BK303.out⟩, ⟨by (with_reducible repeat (first | refine kN ?_ _ | refine kD ?_ | refine kA ?_ _)); refine kF ?_ NB310_314.out _; (with_reducible repeat (first | refine kN ?_ _ | refine kD ?_ | refine kA ?_ _)); refine kF ?_ NB310_314.out _; (with_reducible repeat (first | refine kN ?_ _ | refine kD ?_ | refine kA ?_ _)); exact BK310.out⟩, ⟨by (with_reducible repeat (first | refine kN ?_ _ | refine kD ?_ | refine kA ?_ _)); refine blk_put (cs := #[.int .i64 t311, .int .i64 0]) ?_ 1 _ rfl; (with_reducible repeat (first | refine kN ?_ _ | refine kD ?_ | refine kA ?_ _)); refine blk_put (cs := #[.int .i64 0, .int .i64 0]) ?_ 0 _ rfl; (with_reducible repeat (first | refine kN ?_ _ | refine kD ?_ | refine kA ?_ _)); exact BK314.out⟩, ⟨by repeat (first | (with_reducible first | exact HB.out | apply bA | apply bN | apply b1 | refine bS ?_ GE302.out | refine bS ?_ GE303.out | refine bS ?_ GE310.out | refine bS ?_ GE314.out) | exact HB.out)⟩⟩
    ·replace c33 := Bool.eq_false_iff.mpr c33
     subst c33
     have H1 : (cohousinglaw01_RationalMatchesReference.j1 kj5 a4 false a0_0 a0_1 a1_0 a1_1) = some r := by rw [if_neg (show ¬ (false = true) by decide)] at H; exact H
     clear H
     have H := H1
     clear H1
     as_aux_lemma =>
      have H' := Aside0.mk H
      clear H
      go_wp2
      go_meet
      case rel => exact ⟨_, (false), (by first | rfl | (simp; done) | (simp [*]; done)), H', ⟨by have := HJ5.out; first | omega | exact Nat.le_refl _⟩, ⟨by (with_reducible repeat (first | refine kN ?_ _ | refine kD ?_ | refine kA ?_ _)); refine kF ?_ NB302_314.out _; (with_reducible repeat (first | refine kN ?_ _ | refine kD ?_ | refine kA ?_ _)); refine kF ?_ NB302_314.out _; (with_reducible repeat (first | refine kN ?_ _ | refine kD ?_ | refine kA ?_ _)); exact BK302.out⟩, ⟨by (with_reducible repeat (first | refine kN ?_ _ | refine kD ?_ | refine kA ?_ _)); refine kF ?_ NB303_314.out _; (with_reducible repeat (first | refine kN ?_ _ | refine kD ?_ | refine kA ?_ _)); refine kF ?_ NB303_314.out _; (with_reducible repeat (first | refine kN ?_ _ | refine kD ?_ | refine kA ?_ _)); exact BK303.out⟩, ⟨by (with_reducible repeat (first | refine kN ?_ _ | refine kD ?_ | refine kA ?_ _)); refine kF ?_ NB310_314.out _; (with_reducible repeat (first | refine kN ?_ _ | refine kD ?_ | refine kA ?_ _)); refine kF ?_ NB310_314.out _; (with_reducible repeat (first | refine kN ?_ _ | refine kD ?_ | refine kA ?_ _)); exact BK310.out⟩, ⟨by (with_reducible repeat (first | refine kN ?_ _ | refine kD ?_ | refine kA ?_ _)); refine blk_put (cs := #[.int .i64 t311, .int .i64 0]) ?_ 1 _ rfl; (with_reducible repeat (first | refine kN ?_ _ | refine kD ?_ | refine kA ?_ _)); refine blk_put (cs := #[.int .i64 0, .int .i64 0]) ?_ 0 _ rfl; (with_reducible repeat (first | refine kN ?_ _ | refine kD ?_ | refine kA ?_ _)); exact BK314.out⟩, ⟨by repeat (first | (with_reducible first | exact HB.out | apply bA | apply bN | apply b1 | refine bS ?_ GE302.out | refine bS ?_ GE303.out | refine bS ?_ GE310.out | refine bS ?_ GE314.out) | exact HB.out)⟩⟩
   case rest =>
    clear HC21
    try clear c1
    try clear c2
    try clear p2
    try clear c3
    try clear c4
    try clear c6
    try clear c10
    try clear c11
    try clear c12
    try clear c20
    try clear c21
    try clear c24
    try clear c25
    try clear c29
    try clear c30
    try clear c31
    try clear c33
    try clear c34
    try clear c34b0
    try clear c34b1
    try clear c34b2
    try clear c35
    try clear c36
    try clear c37
    try clear c39
    try clear c40
    try clear c42
    try clear c43
    try clear c44
    try clear c46
    try clear c47
    try clear hcz26_0
    try clear hcz26_1
    try clear hcz32_0
    try clear hcz32_1
    try clear hcz38_0
    try clear hcz38_1
    try clear hcz41_0
    try clear hcz41_1
    try clear hcz45_0
    try clear hcz45_1
    try clear hcz48_0
    try clear hcz48_1
    try clear hfz26_0
    try clear hfz26_1
    try clear hfz32_0
    try clear hfz32_1
    try clear hfz38_0
    try clear hfz38_1
    try clear hfz41_0
    try clear hfz41_1
    try clear hfz45_0
    try clear hfz45_1
    try clear hfz48_0
    try clear hfz48_1
    try clear p2
    obtain ⟨kq, x11_20, rfl, HA, HJ20, BK302, BK303, BK310, BK314, HB⟩ := hcut
    cases kq with
    | zero => exact absurd HA.out (by simp [cohousinglaw01_RationalMatchesReference.j1])
    | succ kj20 =>
     have H := HA.out
     clear HA
     simp only [cohousinglaw01_RationalMatchesReference.j1] at H
     replace H := Option.bind_eq_some_iff.mp H
     obtain ⟨⟨t315, t316, t317⟩, A490, H⟩ := H
     replace H : ((cohousingref01_Add.f kj20 a0_0 a0_1 a1_0 a1_1).bind fun bt318 => (if x11_20 = true then (if (t315 == bt318.1 && (t316 == bt318.2.1)) = true then (cohousinglaw01_RationalMatchesReference.j2 kj20 a4 (t317 == bt318.2.2) a0_0 a0_1 a1_0 a1_1) else (cohousinglaw01_RationalMatchesReference.j2 kj20 a4 false a0_0 a0_1 a1_0 a1_1)) else (cohousinglaw01_RationalMatchesReference.j2 kj20 a4 false a0_0 a0_1 a1_0 a1_1))) = some r := H
     have A49 := Aside0.mk A490
     clear A490
     replace H := Option.bind_eq_some_iff.mp H
     obtain ⟨⟨t318, t319, t320⟩, A500, H⟩ := H
     replace H : (if x11_20 = true then (if (t315 == t318 && (t316 == t319)) = true then (cohousinglaw01_RationalMatchesReference.j2 kj20 a4 (t317 == t320) a0_0 a0_1 a1_0 a1_1) else (cohousinglaw01_RationalMatchesReference.j2 kj20 a4 false a0_0 a0_1 a1_0 a1_1)) else (cohousinglaw01_RationalMatchesReference.j2 kj20 a4 false a0_0 a0_1 a1_0 a1_1)) = some r := H
     have A50 := Aside0.mk A500
     clear A500
     have HC51 := Aside0.mk H
     clear H
     have hnb52 := NB302_303.out
     have hnc52 := NB303_302.out
     have hnb53 := NB302_310.out
     have hnc53 := NB310_302.out
     have hnb54 := NB302_314.out
     have hnc54 := NB314_302.out
     have hcz55_0 : wc.cell? ⟨gb302, 0, none⟩ = some (.int .i64 a0_0) := (kC BK302.out 0).trans rfl
     have hcz55_1 : wc.cell? ⟨gb302, 1, none⟩ = some (.int .i64 a0_1) := (kC BK302.out 1).trans rfl
     have hfz55_0 := blk_frozen BK302.out 0
     have hfz55_1 := blk_frozen BK302.out 1
     have hnb56 := NB303_310.out
     have hnc56 := NB310_303.out
     have hnb57 := NB303_314.out
     have hnc57 := NB314_303.out
     have hcz58_0 : wc.cell? ⟨gb303, 0, none⟩ = some (.int .i64 a1_0) := (kC BK303.out 0).trans rfl
     have hcz58_1 : wc.cell? ⟨gb303, 1, none⟩ = some (.int .i64 a1_1) := (kC BK303.out 1).trans rfl
     have hfz58_0 := blk_frozen BK303.out 0
     have hfz58_1 := blk_frozen BK303.out 1
     go_upto_region 7 with (first | ((with_reducible refine gate_callee (f := 17) rfl ?_); refine goesL_ (some 56) rfl rfl Tryd.func17 (by kernel_rfl) rfl #[.agg #[.int .i64 a0_0, .int .i64 a0_1], .agg #[.int .i64 a1_0, .int .i64 a1_1]] rfl (by (try simp only [List.map_toArray, List.map_cons, List.map_nil]); first | done | rfl | (simp only [List.length_drop, List.length_take]; rfl)) ?_; (with_reducible refine (rational_Add.calls a0_0 a0_1 a1_0 a1_1 t315 t316 t317 _ A49.out).mono ?_); rintro e w59 ⟨rfl, hb⟩; refine ⟨_, rfl, ?_⟩; have n0_ := Aside0.mk (kB (g := gb302) (o := .cells #[.int .i64 a0_0, .int .i64 a0_1] 24 (0, 0)) (by (with_reducible repeat (first | refine kN ?_ _ | refine kD ?_ | refine kA ?_ _)); exact BK302.out) hb); have n1_ := Aside0.mk (kB (g := gb303) (o := .cells #[.int .i64 a1_0, .int .i64 a1_1] 24 (0, 0)) (by (with_reducible repeat (first | refine kN ?_ _ | refine kD ?_ | refine kA ?_ _)); exact BK303.out) hb); have n2_ := Aside0.mk (kB (g := gb310) (o := .cells #[.int .i64 t307, .int .i64 t308] 24 (0, 0)) (by (with_reducible repeat (first | refine kN ?_ _ | refine kD ?_ | refine kA ?_ _)); exact BK310.out) hb); have n3_ := Aside0.mk (kB (g := gb314) (o := .cells #[.int .i64 t311, .int .i64 t312] 24 (0, 0)) (by (with_reducible repeat (first | refine kN ?_ _ | refine kD ?_ | refine kA ?_ _)); exact BK314.out) hb); have n4_ := Aside0.mk (bT (by repeat (first | (with_reducible first | exact HB.out | apply bA | apply bN | apply b1 | refine bS ?_ GE302.out | refine bS ?_ GE303.out | refine bS ?_ GE310.out | refine bS ?_ GE314.out) | exact HB.out)) hb); clear BK302; clear BK303; clear BK310; clear BK314; clear HB; have BK302 := n0_; have BK303 := n1_; have BK310 := n2_; have BK314 := n3_; have HB := n4_; clear n0_ n1_ n2_ n3_ n4_; (try clear hb); (try clear hb2); (try clear hk); (try clear hi); have hnb60 := NB310_314.out; have hnc60 := NB314_310.out; have hcz61_0 : w59.cell? ⟨gb310, 0, none⟩ = some (.int .i64 t307) := (kC BK310.out 0).trans rfl; have hcz61_1 : w59.cell? ⟨gb310, 1, none⟩ = some (.int .i64 t308) := (kC BK310.out 1).trans rfl; have hfz61_0 := blk_frozen BK310.out 0; have hfz61_1 := blk_frozen BK310.out 1; have hcz62_0 : w59.cell? ⟨gb302, 0, none⟩ = some (.int .i64 a0_0) := (kC BK302.out 0).trans rfl; have hcz62_1 : w59.cell? ⟨gb302, 1, none⟩ = some (.int .i64 a0_1) := (kC BK302.out 1).trans rfl; have hfz62_0 := blk_frozen BK302.out 0; have hfz62_1 := blk_frozen BK302.out 1; have hcz63_0 : w59.cell? ⟨gb303, 0, none⟩ = some (.int .i64 a1_0) := (kC BK303.out 0).trans rfl; have hcz63_1 : w59.cell? ⟨gb303, 1, none⟩ = some (.int .i64 a1_1) := (kC BK303.out 1).trans rfl; have hfz63_0 := blk_frozen BK303.out 0; have hfz63_1 := blk_frozen BK303.out 1) | ((with_reducible refine gate_callee (f := 22) rfl ?_); refine goesL_ (some 62) rfl rfl Tryd.func22 (by kernel_rfl) rfl #[.agg #[.int .i64 a0_0, .int .i64 a0_1], .agg #[.int .i64 a1_0, .int .i64 a1_1]] rfl (by (try simp only [List.map_toArray, List.map_cons, List.map_nil]); first | done | rfl | (simp only [List.length_drop, List.length_take]; rfl)) ?_; (with_reducible refine (cohousingref01_Add.calls kj20 a0_0 a0_1 a1_0 a1_1 t318 t319 t320 _ A50.out).mono ?_); rintro e w64 ⟨rfl, hb⟩; refine ⟨_, rfl, ?_⟩; have n0_ := Aside0.mk (kB (g := gb302) (o := .cells #[.int .i64 a0_0, .int .i64 a0_1] 24 (0, 0)) (by (with_reducible repeat (first | refine kN ?_ _ | refine kD ?_ | refine kA ?_ _)); refine kF ?_ NB302_310.out _; (with_reducible repeat (first | refine kN ?_ _ | refine kD ?_ | refine kA ?_ _)); refine kF ?_ NB302_310.out _; (with_reducible repeat (first | refine kN ?_ _ | refine kD ?_ | refine kA ?_ _)); exact BK302.out) hb); have n1_ := Aside0.mk (kB (g := gb303) (o := .cells #[.int .i64 a1_0, .int .i64 a1_1] 24 (0, 0)) (by (with_reducible repeat (first | refine kN ?_ _ | refine kD ?_ | refine kA ?_ _)); refine kF ?_ NB303_310.out _; (with_reducible repeat (first | refine kN ?_ _ | refine kD ?_ | refine kA ?_ _)); refine kF ?_ NB303_310.out _; (with_reducible repeat (first | refine kN ?_ _ | refine kD ?_ | refine kA ?_ _)); exact BK303.out) hb); have n2_ := Aside0.mk (kB (g := gb310) (o := .cells #[.int .i64 t315, .int .i64 t316] 24 (0, 0)) (by (with_reducible repeat (first | refine kN ?_ _ | refine kD ?_ | refine kA ?_ _)); refine blk_put (cs := #[.int .i64 t315, .int .i64 t308]) ?_ 1 _ rfl; (with_reducible repeat (first | refine kN ?_ _ | refine kD ?_ | refine kA ?_ _)); refine blk_put (cs := #[.int .i64 t307, .int .i64 t308]) ?_ 0 _ rfl; (with_reducible repeat (first | refine kN ?_ _ | refine kD ?_ | refine kA ?_ _)); exact BK310.out) hb); have n3_ := Aside0.mk (kB (g := gb314) (o := .cells #[.int .i64 t311, .int .i64 t312] 24 (0, 0)) (by (with_reducible repeat (first | refine kN ?_ _ | refine kD ?_ | refine kA ?_ _)); refine kF ?_ NB314_310.out _; (with_reducible repeat (first | refine kN ?_ _ | refine kD ?_ | refine kA ?_ _)); refine kF ?_ NB314_310.out _; (with_reducible repeat (first | refine kN ?_ _ | refine kD ?_ | refine kA ?_ _)); exact BK314.out) hb); have n4_ := Aside0.mk (bT (by repeat (first | (with_reducible first | exact HB.out | apply bA | apply bN | apply b1 | refine bS ?_ GE302.out | refine bS ?_ GE303.out | refine bS ?_ GE310.out | refine bS ?_ GE314.out) | exact HB.out)) hb); clear BK302; clear BK303; clear BK310; clear BK314; clear HB; have BK302 := n0_; have BK303 := n1_; have BK310 := n2_; have BK314 := n3_; have HB := n4_; clear n0_ n1_ n2_ n3_ n4_; (try clear hb); (try clear hb2); (try clear hk); (try clear hi); have hcz65_0 : w64.cell? ⟨gb314, 0, none⟩ = some (.int .i64 t311) := (kC BK314.out 0).trans rfl; have hcz65_1 : w64.cell? ⟨gb314, 1, none⟩ = some (.int .i64 t312) := (kC BK314.out 1).trans rfl; have hfz65_0 := blk_frozen BK314.out 0; have hfz65_1 := blk_frozen BK314.out 1))
     (try simp only [Act.put, List.setIfInBounds_toArray, List.set_cons_zero, List.set_cons_succ])
     go_cut [11] (fun v11 wc => ∃ (kq : Nat) (x11_50 : Bool), v11 = .bool x11_50 ∧ Aside0 (cohousinglaw01_RationalMatchesReference.j2 kq a4 x11_50 a0_0 a0_1 a1_0 a1_1 = some r) ∧ Aside0 (kq ≤ kj20) ∧ Aside0 (wc.heap[gb302]? = some (.cells #[.int .i64 a0_0, .int .i64 a0_1] 24 (0, 0))) ∧ Aside0 (wc.heap[gb303]? = some (.cells #[.int .i64 a1_0, .int .i64 a1_1] 24 (0, 0))) ∧ Aside0 (wc.heap[gb310]? = some (.cells #[.int .i64 t315, .int .i64 t316] 24 (0, 0))) ∧ Aside0 (wc.heap[gb314]? = some (.cells #[.int .i64 t318, .int .i64 t319] 24 (0, 0))) ∧ Aside0 (Below w.heap.size w wc))
     case first =>
      have H := HC51.out
      clear HC51
      by_cases c66 : x11_20 = true
      ·subst c66
       have H1 : (if (t315 == t318 && (t316 == t319)) = true then (cohousinglaw01_RationalMatchesReference.j2 kj20 a4 (t317 == t320) a0_0 a0_1 a1_0 a1_1) else (cohousinglaw01_RationalMatchesReference.j2 kj20 a4 false a0_0 a0_1 a1_0 a1_1)) = some r := by rw [if_pos rfl] at H; exact H
       clear H
       have H := H1
       clear H1
       by_cases c67 : (t315 == t318 && (t316 == t319)) = true
       ·rw [if_pos c67] at H
        have c67b0 : (t315 == t318 && (t316 == t319)) = true := c67
        (try (have c67b1 : decide (t315 = t318 && (t316 == t319)) = true := by simpa using c67))
        (try (have c67b2 : (t315 == t318 && (t316 == t319)) = true := by simpa using c67))
        clear c67
        (first | rw [c67b0] | (simp only [i64_w, i32_w]; rw [c67b0]) | skip)
        as_aux_lemma =>
         have H' := Aside0.mk H
         clear H
         have hnb68 := NB310_302.out
         have hnc68 := NB302_310.out
         have hnb69 := NB310_303.out
         have hnc69 := NB303_310.out
         have hnb70 := NB310_314.out
         have hnc70 := NB314_310.out
         have hcz71_0 : w64.cell? ⟨gb310, 0, none⟩ = some (.int .i64 t315) := (kC BK310.out 0).trans rfl
         have hcz71_1 : w64.cell? ⟨gb310, 1, none⟩ = some (.int .i64 t316) := (kC BK310.out 1).trans rfl
         have hfz71_0 := blk_frozen BK310.out 0
         have hfz71_1 := blk_frozen BK310.out 1
         have hnb72 := NB314_302.out
         have hnc72 := NB302_314.out
         have hnb73 := NB314_303.out
         have hnc73 := NB303_314.out
         have hcz74_0 : w64.cell? ⟨gb314, 0, none⟩ = some (.int .i64 t311) := (kC BK314.out 0).trans rfl
         have hcz74_1 : w64.cell? ⟨gb314, 1, none⟩ = some (.int .i64 t312) := (kC BK314.out 1).trans rfl
         have hfz74_0 := blk_frozen BK314.out 0
         have hfz74_1 := blk_frozen BK314.out 1
         go_wp2
         go_meet
         case rel => exact ⟨_, ((t317 == t320)), (by first | rfl | (simp; done) | (simp [*]; done)), H', ⟨by have := HJ5.out; have := HJ20.out; first | omega | exact Nat.le_refl _⟩, ⟨by (with_reducible repeat (first | refine kN ?_ _ | refine kD ?_ | refine kA ?_ _)); refine kF ?_ NB302_314.out _; (with_reducible repeat (first | refine kN ?_ _ | refine kD ?_ | refine kA ?_ _)); refine kF ?_ NB302_314.out _; (with_reducible repeat (first | refine kN ?_ _ | refine kD ?_ | refine kA ?_ _)); exact BK302.out⟩, ⟨by (with_reducible repeat (first | refine kN ?_ _ | refine kD ?_ | refine kA ?_ _)); refine kF ?_ NB303_314.out _; (with_reducible repeat (first | refine kN ?_ _ | refine kD ?_ | refine kA ?_ _)); refine kF ?_ NB303_314.out _; (with_reducible repeat (first | refine kN ?_ _ | refine kD ?_ | refine kA ?_ _)); exact BK303.out⟩, ⟨by (with_reducible repeat (first | refine kN ?_ _ | refine kD ?_ | refine kA ?_ _)); refine kF ?_ NB310_314.out _; (with_reducible repeat (first | refine kN ?_ _ | refine kD ?_ | refine kA ?_ _)); refine kF ?_ NB310_314.out _; (with_reducible repeat (first | refine kN ?_ _ | refine kD ?_ | refine kA ?_ _)); exact BK310.out⟩, ⟨by (with_reducible repeat (first | refine kN ?_ _ | refine kD ?_ | refine kA ?_ _)); refine blk_put (cs := #[.int .i64 t318, .int .i64 t312]) ?_ 1 _ rfl; (with_reducible repeat (first | refine kN ?_ _ | refine kD ?_ | refine kA ?_ _)); refine blk_put (cs := #[.int .i64 t311, .int .i64 t312]) ?_ 0 _ rfl; (with_reducible repeat (first | refine kN ?_ _ | refine kD ?_ | refine kA ?_ _)); exact BK314.out⟩, ⟨by repeat (first | (with_reducible first | exact HB.out | apply bA | apply bN | apply b1 | refine bS ?_ GE302.out | refine bS ?_ GE303.out | refine bS ?_ GE310.out | refine bS ?_ GE314.out) | exact HB.out)⟩⟩
       ·rw [if_neg c67] at H
        have c67b0 : (t315 == t318 && (t316 == t319)) = false := by simpa using c67
        (try (have c67b1 : decide (t315 = t318 && (t316 == t319)) = false := by simpa using c67))
        (try (have c67b2 : (t315 == t318 && (t316 == t319)) = false := by simpa using c67))
        (try (have c67b3 : ¬ (t315 = t318 && (t316 == t319)) := by simpa using c67))
        clear c67
        (first | rw [c67b0] | (simp only [i64_w, i32_w]; rw [c67b0]) | skip)
        as_aux_lemma =>
         have H' := Aside0.mk H
         clear H
         have hnb75 := NB310_302.out
         have hnc75 := NB302_310.out
         have hnb76 := NB310_303.out
         have hnc76 := NB303_310.out
         have hnb77 := NB310_314.out
         have hnc77 := NB314_310.out
         have hcz78_0 : w64.cell? ⟨gb310, 0, none⟩ = some (.int .i64 t315) := (kC BK310.out 0).trans rfl
         have hcz78_1 : w64.cell? ⟨gb310, 1, none⟩ = some (.int .i64 t316) := (kC BK310.out 1).trans rfl
         have hfz78_0 := blk_frozen BK310.out 0
         have hfz78_1 := blk_frozen BK310.out 1
         have hnb79 := NB314_302.out
         have hnc79 := NB302_314.out
         have hnb80 := NB314_303.out
         have hnc80 := NB303_314.out
         have hcz81_0 : w64.cell? ⟨gb314, 0, none⟩ = some (.int .i64 t311) := (kC BK314.out 0).trans rfl
         have hcz81_1 : w64.cell? ⟨gb314, 1, none⟩ = some (.int .i64 t312) := (kC BK314.out 1).trans rfl
         have hfz81_0 := blk_frozen BK314.out 0
         have hfz81_1 := blk_frozen BK314.out 1
         go_wp2
         go_meet
         case rel => exact ⟨_, (false), (by first | rfl | (simp; done) | (simp [*]; done)), H', ⟨by have := HJ5.out; have := HJ20.out; first | omega | exact Nat.le_refl _⟩, ⟨by (with_reducible repeat (first | refine kN ?_ _ | refine kD ?_ | refine kA ?_ _)); refine kF ?_ NB302_314.out _; (with_reducible repeat (first | refine kN ?_ _ | refine kD ?_ | refine kA ?_ _)); refine kF ?_ NB302_314.out _; (with_reducible repeat (first | refine kN ?_ _ | refine kD ?_ | refine kA ?_ _)); exact BK302.out⟩, ⟨by (with_reducible repeat (first | refine kN ?_ _ | refine kD ?_ | refine kA ?_ _)); refine kF ?_ NB303_314.out _; (with_reducible repeat (first | refine kN ?_ _ | refine kD ?_ | refine kA ?_ _)); refine kF ?_ NB303_314.out _; (with_reducible repeat (first | refine kN ?_ _ | refine kD ?_ | refine kA ?_ _)); exact BK303.out⟩, ⟨by (with_reducible repeat (first | refine kN ?_ _ | refine kD ?_ | refine kA ?_ _)); refine kF ?_ NB310_314.out _; (with_reducible repeat (first | refine kN ?_ _ | refine kD ?_ | refine kA ?_ _)); refine kF ?_ NB310_314.out _; (with_reducible repeat (first | refine kN ?_ _ | refine kD ?_ | refine kA ?_ _)); exact BK310.out⟩, ⟨by (with_reducible repeat (first | refine kN ?_ _ | refine kD ?_ | refine kA ?_ _)); refine blk_put (cs := #[.int .i64 t318, .int .i64 t312]) ?_ 1 _ rfl; (with_reducible repeat (first | refine kN ?_ _ | refine kD ?_ | refine kA ?_ _)); refine blk_put (cs := #[.int .i64 t311, .int .i64 t312]) ?_ 0 _ rfl; (with_reducible repeat (first | refine kN ?_ _ | refine kD ?_ | refine kA ?_ _)); exact BK314.out⟩, ⟨by repeat (first | (with_reducible first | exact HB.out | apply bA | apply bN | apply b1 | refine bS ?_ GE302.out | refine bS ?_ GE303.out | refine bS ?_ GE310.out | refine bS ?_ GE314.out) | exact HB.out)⟩⟩
      ·replace c66 := Bool.eq_false_iff.mpr c66
       subst c66
       have H1 : (cohousinglaw01_RationalMatchesReference.j2 kj20 a4 false a0_0 a0_1 a1_0 a1_1) = some r := by rw [if_neg (show ¬ (false = true) by decide)] at H; exact H
       clear H
       have H := H1
       clear H1
       as_aux_lemma =>
        have H' := Aside0.mk H
        clear H
        go_wp2
        go_meet
        case rel => exact ⟨_, (false), (by first | rfl | (simp; done) | (simp [*]; done)), H', ⟨by have := HJ5.out; have := HJ20.out; first | omega | exact Nat.le_refl _⟩, ⟨by (with_reducible repeat (first | refine kN ?_ _ | refine kD ?_ | refine kA ?_ _)); refine kF ?_ NB302_314.out _; (with_reducible repeat (first | refine kN ?_ _ | refine kD ?_ | refine kA ?_ _)); refine kF ?_ NB302_314.out _; (with_reducible repeat (first | refine kN ?_ _ | refine kD ?_ | refine kA ?_ _)); exact BK302.out⟩, ⟨by (with_reducible repeat (first | refine kN ?_ _ | refine kD ?_ | refine kA ?_ _)); refine kF ?_ NB303_314.out _; (with_reducible repeat (first | refine kN ?_ _ | refine kD ?_ | refine kA ?_ _)); refine kF ?_ NB303_314.out _; (with_reducible repeat (first | refine kN ?_ _ | refine kD ?_ | refine kA ?_ _)); exact BK303.out⟩, ⟨by (with_reducible repeat (first | refine kN ?_ _ | refine kD ?_ | refine kA ?_ _)); refine kF ?_ NB310_314.out _; (with_reducible repeat (first | refine kN ?_ _ | refine kD ?_ | refine kA ?_ _)); refine kF ?_ NB310_314.out _; (with_reducible repeat (first | refine kN ?_ _ | refine kD ?_ | refine kA ?_ _)); exact BK310.out⟩, ⟨by (with_reducible repeat (first | refine kN ?_ _ | refine kD ?_ | refine kA ?_ _)); refine blk_put (cs := #[.int .i64 t318, .int .i64 t312]) ?_ 1 _ rfl; (with_reducible repeat (first | refine kN ?_ _ | refine kD ?_ | refine kA ?_ _)); refine blk_put (cs := #[.int .i64 t311, .int .i64 t312]) ?_ 0 _ rfl; (with_reducible repeat (first | refine kN ?_ _ | refine kD ?_ | refine kA ?_ _)); exact BK314.out⟩, ⟨by repeat (first | (with_reducible first | exact HB.out | apply bA | apply bN | apply b1 | refine bS ?_ GE302.out | refine bS ?_ GE303.out | refine bS ?_ GE310.out | refine bS ?_ GE314.out) | exact HB.out)⟩⟩
     case rest =>
      clear HC51
      try clear c1
      try clear c2
      try clear p2
      try clear c3
      try clear c4
      try clear c5
      try clear c6
      try clear c7
      try clear c8
      try clear c10
      try clear c11
      try clear c12
      try clear c17
      try clear c20
      try clear c21
      try clear c22
      try clear c24
      try clear c25
      try clear c29
      try clear c30
      try clear c31
      try clear c33
      try clear c34
      try clear c34b0
      try clear c34b1
      try clear c34b2
      try clear c35
      try clear c36
      try clear c37
      try clear c39
      try clear c40
      try clear c42
      try clear c43
      try clear c44
      try clear c46
      try clear c47
      try clear c52
      try clear c53
      try clear c54
      try clear c56
      try clear c57
      try clear c60
      try clear c66
      try clear c67
      try clear c67b0
      try clear c67b1
      try clear c67b2
      try clear c68
      try clear c69
      try clear c70
      try clear c72
      try clear c73
      try clear c75
      try clear c76
      try clear c77
      try clear c79
      try clear c80
      try clear hcz26_0
      try clear hcz26_1
      try clear hcz32_0
      try clear hcz32_1
      try clear hcz38_0
      try clear hcz38_1
      try clear hcz41_0
      try clear hcz41_1
      try clear hcz45_0
      try clear hcz45_1
      try clear hcz48_0
      try clear hcz48_1
      try clear hcz55_0
      try clear hcz55_1
      try clear hcz58_0
      try clear hcz58_1
      try clear hcz61_0
      try clear hcz61_1
      try clear hcz62_0
      try clear hcz62_1
      try clear hcz63_0
      try clear hcz63_1
      try clear hcz65_0
      try clear hcz65_1
      try clear hcz71_0
      try clear hcz71_1
      try clear hcz74_0
      try clear hcz74_1
      try clear hcz78_0
      try clear hcz78_1
      try clear hcz81_0
      try clear hcz81_1
      try clear hfz26_0
      try clear hfz26_1
      try clear hfz32_0
      try clear hfz32_1
      try clear hfz38_0
      try clear hfz38_1
      try clear hfz41_0
      try clear hfz41_1
      try clear hfz45_0
      try clear hfz45_1
      try clear hfz48_0
      try clear hfz48_1
      try clear hfz55_0
      try clear hfz55_1
      try clear hfz58_0
      try clear hfz58_1
      try clear hfz61_0
      try clear hfz61_1
      try clear hfz62_0
      try clear hfz62_1
      try clear hfz63_0
      try clear hfz63_1
      try clear hfz65_0
      try clear hfz65_1
      try clear hfz71_0
      try clear hfz71_1
      try clear hfz74_0
      try clear hfz74_1
      try clear hfz78_0
      try clear hfz78_1
      try clear hfz81_0
      try clear hfz81_1
      try clear p2
      obtain ⟨kq, x11_50, rfl, HA, HJ50, BK302, BK303, BK310, BK314, HB⟩ := hcut
      cases kq with
      | zero => exact absurd HA.out (by simp [cohousinglaw01_RationalMatchesReference.j2])
      | succ kj50 =>
       have H := HA.out
       clear HA
       simp only [cohousinglaw01_RationalMatchesReference.j2] at H
       replace H := Option.bind_eq_some_iff.mp H
       obtain ⟨⟨t321, t322, t323⟩, A820, H⟩ := H
       replace H : ((cohousingref01_Sub.f kj50 a0_0 a0_1 a1_0 a1_1).bind fun bt324 => (if x11_50 = true then (if (t321 == bt324.1 && (t322 == bt324.2.1)) = true then (cohousinglaw01_RationalMatchesReference.j3 kj50 a4 (t323 == bt324.2.2) a0_0 a0_1 a1_0 a1_1) else (cohousinglaw01_RationalMatchesReference.j3 kj50 a4 false a0_0 a0_1 a1_0 a1_1)) else (cohousinglaw01_RationalMatchesReference.j3 kj50 a4 false a0_0 a0_1 a1_0 a1_1))) = some r := H
       have A82 := Aside0.mk A820
       clear A820
       replace H := Option.bind_eq_some_iff.mp H
       obtain ⟨⟨t324, t325, t326⟩, A830, H⟩ := H
       replace H : (if x11_50 = true then (if (t321 == t324 && (t322 == t325)) = true then (cohousinglaw01_RationalMatchesReference.j3 kj50 a4 (t323 == t326) a0_0 a0_1 a1_0 a1_1) else (cohousinglaw01_RationalMatchesReference.j3 kj50 a4 false a0_0 a0_1 a1_0 a1_1)) else (cohousinglaw01_RationalMatchesReference.j3 kj50 a4 false a0_0 a0_1 a1_0 a1_1)) = some r := H
       have A83 := Aside0.mk A830
       clear A830
       have HC84 := Aside0.mk H
       clear H
       have hnb85 := NB302_303.out
       have hnc85 := NB303_302.out
       have hnb86 := NB302_310.out
       have hnc86 := NB310_302.out
       have hnb87 := NB302_314.out
       have hnc87 := NB314_302.out
       have hcz88_0 : wc.cell? ⟨gb302, 0, none⟩ = some (.int .i64 a0_0) := (kC BK302.out 0).trans rfl
       have hcz88_1 : wc.cell? ⟨gb302, 1, none⟩ = some (.int .i64 a0_1) := (kC BK302.out 1).trans rfl
       have hfz88_0 := blk_frozen BK302.out 0
       have hfz88_1 := blk_frozen BK302.out 1
       have hnb89 := NB303_310.out
       have hnc89 := NB310_303.out
       have hnb90 := NB303_314.out
       have hnc90 := NB314_303.out
       have hcz91_0 : wc.cell? ⟨gb303, 0, none⟩ = some (.int .i64 a1_0) := (kC BK303.out 0).trans rfl
       have hcz91_1 : wc.cell? ⟨gb303, 1, none⟩ = some (.int .i64 a1_1) := (kC BK303.out 1).trans rfl
       have hfz91_0 := blk_frozen BK303.out 0
       have hfz91_1 := blk_frozen BK303.out 1
       go_upto_region 10 with (first | ((with_reducible refine gate_callee (f := 23) rfl ?_); refine goesL_ (some 79) rfl rfl Tryd.func23 (by kernel_rfl) rfl #[.agg #[.int .i64 a0_0, .int .i64 a0_1], .agg #[.int .i64 a1_0, .int .i64 a1_1]] rfl (by (try simp only [List.map_toArray, List.map_cons, List.map_nil]); first | done | rfl | (simp only [List.length_drop, List.length_take]; rfl)) ?_; (with_reducible refine (rational_Sub.calls a0_0 a0_1 a1_0 a1_1 t321 t322 t323 _ A82.out).mono ?_); rintro e w92 ⟨rfl, hb⟩; refine ⟨_, rfl, ?_⟩; have n0_ := Aside0.mk (kB (g := gb302) (o := .cells #[.int .i64 a0_0, .int .i64 a0_1] 24 (0, 0)) (by (with_reducible repeat (first | refine kN ?_ _ | refine kD ?_ | refine kA ?_ _)); exact BK302.out) hb); have n1_ := Aside0.mk (kB (g := gb303) (o := .cells #[.int .i64 a1_0, .int .i64 a1_1] 24 (0, 0)) (by (with_reducible repeat (first | refine kN ?_ _ | refine kD ?_ | refine kA ?_ _)); exact BK303.out) hb); have n2_ := Aside0.mk (kB (g := gb310) (o := .cells #[.int .i64 t315, .int .i64 t316] 24 (0, 0)) (by (with_reducible repeat (first | refine kN ?_ _ | refine kD ?_ | refine kA ?_ _)); exact BK310.out) hb); have n3_ := Aside0.mk (kB (g := gb314) (o := .cells #[.int .i64 t318, .int .i64 t319] 24 (0, 0)) (by (with_reducible repeat (first | refine kN ?_ _ | refine kD ?_ | refine kA ?_ _)); exact BK314.out) hb); have n4_ := Aside0.mk (bT (by repeat (first | (with_reducible first | exact HB.out | apply bA | apply bN | apply b1 | refine bS ?_ GE302.out | refine bS ?_ GE303.out | refine bS ?_ GE310.out | refine bS ?_ GE314.out) | exact HB.out)) hb); clear BK302; clear BK303; clear BK310; clear BK314; clear HB; have BK302 := n0_; have BK303 := n1_; have BK310 := n2_; have BK314 := n3_; have HB := n4_; clear n0_ n1_ n2_ n3_ n4_; (try clear hb); (try clear hb2); (try clear hk); (try clear hi); have hnb93 := NB310_314.out; have hnc93 := NB314_310.out; have hcz94_0 : w92.cell? ⟨gb310, 0, none⟩ = some (.int .i64 t315) := (kC BK310.out 0).trans rfl; have hcz94_1 : w92.cell? ⟨gb310, 1, none⟩ = some (.int .i64 t316) := (kC BK310.out 1).trans rfl; have hfz94_0 := blk_frozen BK310.out 0; have hfz94_1 := blk_frozen BK310.out 1; have hcz95_0 : w92.cell? ⟨gb302, 0, none⟩ = some (.int .i64 a0_0) := (kC BK302.out 0).trans rfl; have hcz95_1 : w92.cell? ⟨gb302, 1, none⟩ = some (.int .i64 a0_1) := (kC BK302.out 1).trans rfl; have hfz95_0 := blk_frozen BK302.out 0; have hfz95_1 := blk_frozen BK302.out 1; have hcz96_0 : w92.cell? ⟨gb303, 0, none⟩ = some (.int .i64 a1_0) := (kC BK303.out 0).trans rfl; have hcz96_1 : w92.cell? ⟨gb303, 1, none⟩ = some (.int .i64 a1_1) := (kC BK303.out 1).trans rfl; have hfz96_0 := blk_frozen BK303.out 0; have hfz96_1 := blk_frozen BK303.out 1) | ((with_reducible refine gate_callee (f := 24) rfl ?_); refine goesL_ (some 85) rfl rfl Tryd.func24 (by kernel_rfl) rfl #[.agg #[.int .i64 a0_0, .int .i64 a0_1], .agg #[.int .i64 a1_0, .int .i64 a1_1]] rfl (by (try simp only [List.map_toArray, List.map_cons, List.map_nil]); first | done | rfl | (simp only [List.length_drop, List.length_take]; rfl)) ?_; (with_reducible refine (cohousingref01_Sub.calls kj50 a0_0 a0_1 a1_0 a1_1 t324 t325 t326 _ A83.out).mono ?_); rintro e w97 ⟨rfl, hb⟩; refine ⟨_, rfl, ?_⟩; have n0_ := Aside0.mk (kB (g := gb302) (o := .cells #[.int .i64 a0_0, .int .i64 a0_1] 24 (0, 0)) (by (with_reducible repeat (first | refine kN ?_ _ | refine kD ?_ | refine kA ?_ _)); refine kF ?_ NB302_310.out _; (with_reducible repeat (first | refine kN ?_ _ | refine kD ?_ | refine kA ?_ _)); refine kF ?_ NB302_310.out _; (with_reducible repeat (first | refine kN ?_ _ | refine kD ?_ | refine kA ?_ _)); exact BK302.out) hb); have n1_ := Aside0.mk (kB (g := gb303) (o := .cells #[.int .i64 a1_0, .int .i64 a1_1] 24 (0, 0)) (by (with_reducible repeat (first | refine kN ?_ _ | refine kD ?_ | refine kA ?_ _)); refine kF ?_ NB303_310.out _; (with_reducible repeat (first | refine kN ?_ _ | refine kD ?_ | refine kA ?_ _)); refine kF ?_ NB303_310.out _; (with_reducible repeat (first | refine kN ?_ _ | refine kD ?_ | refine kA ?_ _)); exact BK303.out) hb); have n2_ := Aside0.mk (kB (g := gb310) (o := .cells #[.int .i64 t321, .int .i64 t322] 24 (0, 0)) (by (with_reducible repeat (first | refine kN ?_ _ | refine kD ?_ | refine kA ?_ _)); refine blk_put (cs := #[.int .i64 t321, .int .i64 t316]) ?_ 1 _ rfl; (with_reducible repeat (first | refine kN ?_ _ | refine kD ?_ | refine kA ?_ _)); refine blk_put (cs := #[.int .i64 t315, .int .i64 t316]) ?_ 0 _ rfl; (with_reducible repeat (first | refine kN ?_ _ | refine kD ?_ | refine kA ?_ _)); exact BK310.out) hb); have n3_ := Aside0.mk (kB (g := gb314) (o := .cells #[.int .i64 t318, .int .i64 t319] 24 (0, 0)) (by (with_reducible repeat (first | refine kN ?_ _ | refine kD ?_ | refine kA ?_ _)); refine kF ?_ NB314_310.out _; (with_reducible repeat (first | refine kN ?_ _ | refine kD ?_ | refine kA ?_ _)); refine kF ?_ NB314_310.out _; (with_reducible repeat (first | refine kN ?_ _ | refine kD ?_ | refine kA ?_ _)); exact BK314.out) hb); have n4_ := Aside0.mk (bT (by repeat (first | (with_reducible first | exact HB.out | apply bA | apply bN | apply b1 | refine bS ?_ GE302.out | refine bS ?_ GE303.out | refine bS ?_ GE310.out | refine bS ?_ GE314.out) | exact HB.out)) hb); clear BK302; clear BK303; clear BK310; clear BK314; clear HB; have BK302 := n0_; have BK303 := n1_; have BK310 := n2_; have BK314 := n3_; have HB := n4_; clear n0_ n1_ n2_ n3_ n4_; (try clear hb); (try clear hb2); (try clear hk); (try clear hi); have hcz98_0 : w97.cell? ⟨gb314, 0, none⟩ = some (.int .i64 t318) := (kC BK314.out 0).trans rfl; have hcz98_1 : w97.cell? ⟨gb314, 1, none⟩ = some (.int .i64 t319) := (kC BK314.out 1).trans rfl; have hfz98_0 := blk_frozen BK314.out 0; have hfz98_1 := blk_frozen BK314.out 1))
       (try simp only [Act.put, List.setIfInBounds_toArray, List.set_cons_zero, List.set_cons_succ])
       go_cut [11] (fun v11 wc => ∃ (kq : Nat) (x11_83 : Bool), v11 = .bool x11_83 ∧ Aside0 (cohousinglaw01_RationalMatchesReference.j3 kq a4 x11_83 a0_0 a0_1 a1_0 a1_1 = some r) ∧ Aside0 (kq ≤ kj50) ∧ Aside0 (wc.heap[gb302]? = some (.cells #[.int .i64 a0_0, .int .i64 a0_1] 24 (0, 0))) ∧ Aside0 (wc.heap[gb303]? = some (.cells #[.int .i64 a1_0, .int .i64 a1_1] 24 (0, 0))) ∧ Aside0 (wc.heap[gb310]? = some (.cells #[.int .i64 t321, .int .i64 t322] 24 (0, 0))) ∧ Aside0 (wc.heap[gb314]? = some (.cells #[.int .i64 t324, .int .i64 t325] 24 (0, 0))) ∧ Aside0 (Below w.heap.size w wc))
       case first =>
        have H := HC84.out
        clear HC84
        by_cases c99 : x11_50 = true
        ·subst c99
         have H1 : (if (t321 == t324 && (t322 == t325)) = true then (cohousinglaw01_RationalMatchesReference.j3 kj50 a4 (t323 == t326) a0_0 a0_1 a1_0 a1_1) else (cohousinglaw01_RationalMatchesReference.j3 kj50 a4 false a0_0 a0_1 a1_0 a1_1)) = some r := by rw [if_pos rfl] at H; exact H
         clear H
         have H := H1
         clear H1
         by_cases c100 : (t321 == t324 && (t322 == t325)) = true
         ·rw [if_pos c100] at H
          have c100b0 : (t321 == t324 && (t322 == t325)) = true := c100
          (try (have c100b1 : decide (t321 = t324 && (t322 == t325)) = true := by simpa using c100))
          (try (have c100b2 : (t321 == t324 && (t322 == t325)) = true := by simpa using c100))
          clear c100
          (first | rw [c100b0] | (simp only [i64_w, i32_w]; rw [c100b0]) | skip)
          as_aux_lemma =>
           have H' := Aside0.mk H
           clear H
           have hnb101 := NB310_302.out
           have hnc101 := NB302_310.out
           have hnb102 := NB310_303.out
           have hnc102 := NB303_310.out
           have hnb103 := NB310_314.out
           have hnc103 := NB314_310.out
           have hcz104_0 : w97.cell? ⟨gb310, 0, none⟩ = some (.int .i64 t321) := (kC BK310.out 0).trans rfl
           have hcz104_1 : w97.cell? ⟨gb310, 1, none⟩ = some (.int .i64 t322) := (kC BK310.out 1).trans rfl
           have hfz104_0 := blk_frozen BK310.out 0
           have hfz104_1 := blk_frozen BK310.out 1
           have hnb105 := NB314_302.out
           have hnc105 := NB302_314.out
           have hnb106 := NB314_303.out
           have hnc106 := NB303_314.out
           have hcz107_0 : w97.cell? ⟨gb314, 0, none⟩ = some (.int .i64 t318) := (kC BK314.out 0).trans rfl
           have hcz107_1 : w97.cell? ⟨gb314, 1, none⟩ = some (.int .i64 t319) := (kC BK314.out 1).trans rfl
           have hfz107_0 := blk_frozen BK314.out 0
           have hfz107_1 := blk_frozen BK314.out 1
           go_wp2
           go_meet
           case rel => exact ⟨_, ((t323 == t326)), (by first | rfl | (simp; done) | (simp [*]; done)), H', ⟨by have := HJ5.out; have := HJ20.out; have := HJ50.out; first | omega | exact Nat.le_refl _⟩, ⟨by (with_reducible repeat (first | refine kN ?_ _ | refine kD ?_ | refine kA ?_ _)); refine kF ?_ NB302_314.out _; (with_reducible repeat (first | refine kN ?_ _ | refine kD ?_ | refine kA ?_ _)); refine kF ?_ NB302_314.out _; (with_reducible repeat (first | refine kN ?_ _ | refine kD ?_ | refine kA ?_ _)); exact BK302.out⟩, ⟨by (with_reducible repeat (first | refine kN ?_ _ | refine kD ?_ | refine kA ?_ _)); refine kF ?_ NB303_314.out _; (with_reducible repeat (first | refine kN ?_ _ | refine kD ?_ | refine kA ?_ _)); refine kF ?_ NB303_314.out _; (with_reducible repeat (first | refine kN ?_ _ | refine kD ?_ | refine kA ?_ _)); exact BK303.out⟩, ⟨by (with_reducible repeat (first | refine kN ?_ _ | refine kD ?_ | refine kA ?_ _)); refine kF ?_ NB310_314.out _; (with_reducible repeat (first | refine kN ?_ _ | refine kD ?_ | refine kA ?_ _)); refine kF ?_ NB310_314.out _; (with_reducible repeat (first | refine kN ?_ _ | refine kD ?_ | refine kA ?_ _)); exact BK310.out⟩, ⟨by (with_reducible repeat (first | refine kN ?_ _ | refine kD ?_ | refine kA ?_ _)); refine blk_put (cs := #[.int .i64 t324, .int .i64 t319]) ?_ 1 _ rfl; (with_reducible repeat (first | refine kN ?_ _ | refine kD ?_ | refine kA ?_ _)); refine blk_put (cs := #[.int .i64 t318, .int .i64 t319]) ?_ 0 _ rfl; (with_reducible repeat (first | refine kN ?_ _ | refine kD ?_ | refine kA ?_ _)); exact BK314.out⟩, ⟨by repeat (first | (with_reducible first | exact HB.out | apply bA | apply bN | apply b1 | refine bS ?_ GE302.out | refine bS ?_ GE303.out | refine bS ?_ GE310.out | refine bS ?_ GE314.out) | exact HB.out)⟩⟩
         ·rw [if_neg c100] at H
          have c100b0 : (t321 == t324 && (t322 == t325)) = false := by simpa using c100
          (try (have c100b1 : decide (t321 = t324 && (t322 == t325)) = false := by simpa using c100))
          (try (have c100b2 : (t321 == t324 && (t322 == t325)) = false := by simpa using c100))
          (try (have c100b3 : ¬ (t321 = t324 && (t322 == t325)) := by simpa using c100))
          clear c100
          (first | rw [c100b0] | (simp only [i64_w, i32_w]; rw [c100b0]) | skip)
          as_aux_lemma =>
           have H' := Aside0.mk H
           clear H
           have hnb108 := NB310_302.out
           have hnc108 := NB302_310.out
           have hnb109 := NB310_303.out
           have hnc109 := NB303_310.out
           have hnb110 := NB310_314.out
           have hnc110 := NB314_310.out
           have hcz111_0 : w97.cell? ⟨gb310, 0, none⟩ = some (.int .i64 t321) := (kC BK310.out 0).trans rfl
           have hcz111_1 : w97.cell? ⟨gb310, 1, none⟩ = some (.int .i64 t322) := (kC BK310.out 1).trans rfl
           have hfz111_0 := blk_frozen BK310.out 0
           have hfz111_1 := blk_frozen BK310.out 1
           have hnb112 := NB314_302.out
           have hnc112 := NB302_314.out
           have hnb113 := NB314_303.out
           have hnc113 := NB303_314.out
           have hcz114_0 : w97.cell? ⟨gb314, 0, none⟩ = some (.int .i64 t318) := (kC BK314.out 0).trans rfl
           have hcz114_1 : w97.cell? ⟨gb314, 1, none⟩ = some (.int .i64 t319) := (kC BK314.out 1).trans rfl
           have hfz114_0 := blk_frozen BK314.out 0
           have hfz114_1 := blk_frozen BK314.out 1
           go_wp2
           go_meet
           case rel => exact ⟨_, (false), (by first | rfl | (simp; done) | (simp [*]; done)), H', ⟨by have := HJ5.out; have := HJ20.out; have := HJ50.out; first | omega | exact Nat.le_refl _⟩, ⟨by (with_reducible repeat (first | refine kN ?_ _ | refine kD ?_ | refine kA ?_ _)); refine kF ?_ NB302_314.out _; (with_reducible repeat (first | refine kN ?_ _ | refine kD ?_ | refine kA ?_ _)); refine kF ?_ NB302_314.out _; (with_reducible repeat (first | refine kN ?_ _ | refine kD ?_ | refine kA ?_ _)); exact BK302.out⟩, ⟨by (with_reducible repeat (first | refine kN ?_ _ | refine kD ?_ | refine kA ?_ _)); refine kF ?_ NB303_314.out _; (with_reducible repeat (first | refine kN ?_ _ | refine kD ?_ | refine kA ?_ _)); refine kF ?_ NB303_314.out _; (with_reducible repeat (first | refine kN ?_ _ | refine kD ?_ | refine kA ?_ _)); exact BK303.out⟩, ⟨by (with_reducible repeat (first | refine kN ?_ _ | refine kD ?_ | refine kA ?_ _)); refine kF ?_ NB310_314.out _; (with_reducible repeat (first | refine kN ?_ _ | refine kD ?_ | refine kA ?_ _)); refine kF ?_ NB310_314.out _; (with_reducible repeat (first | refine kN ?_ _ | refine kD ?_ | refine kA ?_ _)); exact BK310.out⟩, ⟨by (with_reducible repeat (first | refine kN ?_ _ | refine kD ?_ | refine kA ?_ _)); refine blk_put (cs := #[.int .i64 t324, .int .i64 t319]) ?_ 1 _ rfl; (with_reducible repeat (first | refine kN ?_ _ | refine kD ?_ | refine kA ?_ _)); refine blk_put (cs := #[.int .i64 t318, .int .i64 t319]) ?_ 0 _ rfl; (with_reducible repeat (first | refine kN ?_ _ | refine kD ?_ | refine kA ?_ _)); exact BK314.out⟩, ⟨by repeat (first | (with_reducible first | exact HB.out | apply bA | apply bN | apply b1 | refine bS ?_ GE302.out | refine bS ?_ GE303.out | refine bS ?_ GE310.out | refine bS ?_ GE314.out) | exact HB.out)⟩⟩
        ·replace c99 := Bool.eq_false_iff.mpr c99
         subst c99
         have H1 : (cohousinglaw01_RationalMatchesReference.j3 kj50 a4 false a0_0 a0_1 a1_0 a1_1) = some r := by rw [if_neg (show ¬ (false = true) by decide)] at H; exact H
         clear H
         have H := H1
         clear H1
         as_aux_lemma =>
          have H' := Aside0.mk H
          clear H
          go_wp2
          go_meet
          case rel => exact ⟨_, (false), (by first | rfl | (simp; done) | (simp [*]; done)), H', ⟨by have := HJ5.out; have := HJ20.out; have := HJ50.out; first | omega | exact Nat.le_refl _⟩, ⟨by (with_reducible repeat (first | refine kN ?_ _ | refine kD ?_ | refine kA ?_ _)); refine kF ?_ NB302_314.out _; (with_reducible repeat (first | refine kN ?_ _ | refine kD ?_ | refine kA ?_ _)); refine kF ?_ NB302_314.out _; (with_reducible repeat (first | refine kN ?_ _ | refine kD ?_ | refine kA ?_ _)); exact BK302.out⟩, ⟨by (with_reducible repeat (first | refine kN ?_ _ | refine kD ?_ | refine kA ?_ _)); refine kF ?_ NB303_314.out _; (with_reducible repeat (first | refine kN ?_ _ | refine kD ?_ | refine kA ?_ _)); refine kF ?_ NB303_314.out _; (with_reducible repeat (first | refine kN ?_ _ | refine kD ?_ | refine kA ?_ _)); exact BK303.out⟩, ⟨by (with_reducible repeat (first | refine kN ?_ _ | refine kD ?_ | refine kA ?_ _)); refine kF ?_ NB310_314.out _; (with_reducible repeat (first | refine kN ?_ _ | refine kD ?_ | refine kA ?_ _)); refine kF ?_ NB310_314.out _; (with_reducible repeat (first | refine kN ?_ _ | refine kD ?_ | refine kA ?_ _)); exact BK310.out⟩, ⟨by (with_reducible repeat (first | refine kN ?_ _ | refine kD ?_ | refine kA ?_ _)); refine blk_put (cs := #[.int .i64 t324, .int .i64 t319]) ?_ 1 _ rfl; (with_reducible repeat (first | refine kN ?_ _ | refine kD ?_ | refine kA ?_ _)); refine blk_put (cs := #[.int .i64 t318, .int .i64 t319]) ?_ 0 _ rfl; (with_reducible repeat (first | refine kN ?_ _ | refine kD ?_ | refine kA ?_ _)); exact BK314.out⟩, ⟨by repeat (first | (with_reducible first | exact HB.out | apply bA | apply bN | apply b1 | refine bS ?_ GE302.out | refine bS ?_ GE303.out | refine bS ?_ GE310.out | refine bS ?_ GE314.out) | exact HB.out)⟩⟩
       case rest =>
        clear HC84
        try clear c1
        try clear c2
        try clear p2
        try clear c3
        try clear c4
        try clear c5
        try clear c6
        try clear c7
        try clear c8
        try clear c9
        try clear c10
        try clear c11
        try clear c12
        try clear c17
        try clear c20
        try clear c21
        try clear c22
        try clear c23
        try clear c24
        try clear c25
        try clear c29
        try clear c30
        try clear c31
        try clear c33
        try clear c34
        try clear c34b0
        try clear c34b1
        try clear c34b2
        try clear c35
        try clear c36
        try clear c37
        try clear c39
        try clear c40
        try clear c42
        try clear c43
        try clear c44
        try clear c46
        try clear c47
        try clear c52
        try clear c53
        try clear c54
        try clear c56
        try clear c57
        try clear c60
        try clear c66
        try clear c67
        try clear c67b0
        try clear c67b1
        try clear c67b2
        try clear c68
        try clear c69
        try clear c70
        try clear c72
        try clear c73
        try clear c75
        try clear c76
        try clear c77
        try clear c79
        try clear c80
        try clear c85
        try clear c86
        try clear c87
        try clear c89
        try clear c90
        try clear c93
        try clear c99
        try clear c100
        try clear c100b0
        try clear c100b1
        try clear c100b2
        try clear c101
        try clear c102
        try clear c103
        try clear c105
        try clear c106
        try clear c108
        try clear c109
        try clear c110
        try clear c112
        try clear c113
        try clear hcz104_0
        try clear hcz104_1
        try clear hcz107_0
        try clear hcz107_1
        try clear hcz111_0
        try clear hcz111_1
        try clear hcz114_0
        try clear hcz114_1
        try clear hcz26_0
        try clear hcz26_1
        try clear hcz32_0
        try clear hcz32_1
        try clear hcz38_0
        try clear hcz38_1
        try clear hcz41_0
        try clear hcz41_1
        try clear hcz45_0
        try clear hcz45_1
        try clear hcz48_0
        try clear hcz48_1
        try clear hcz55_0
        try clear hcz55_1
        try clear hcz58_0
        try clear hcz58_1
        try clear hcz61_0
        try clear hcz61_1
        try clear hcz62_0
        try clear hcz62_1
        try clear hcz63_0
        try clear hcz63_1
        try clear hcz65_0
        try clear hcz65_1
        try clear hcz71_0
        try clear hcz71_1
        try clear hcz74_0
        try clear hcz74_1
        try clear hcz78_0
        try clear hcz78_1
        try clear hcz81_0
        try clear hcz81_1
        try clear hcz88_0
        try clear hcz88_1
        try clear hcz91_0
        try clear hcz91_1
        try clear hcz94_0
        try clear hcz94_1
        try clear hcz95_0
        try clear hcz95_1
        try clear hcz96_0
        try clear hcz96_1
        try clear hcz98_0
        try clear hcz98_1
        try clear hfz104_0
        try clear hfz104_1
        try clear hfz107_0
        try clear hfz107_1
        try clear hfz111_0
        try clear hfz111_1
        try clear hfz114_0
        try clear hfz114_1
        try clear hfz26_0
        try clear hfz26_1
        try clear hfz32_0
        try clear hfz32_1
        try clear hfz38_0
        try clear hfz38_1
        try clear hfz41_0
        try clear hfz41_1
        try clear hfz45_0
        try clear hfz45_1
        try clear hfz48_0
        try clear hfz48_1
        try clear hfz55_0
        try clear hfz55_1
        try clear hfz58_0
        try clear hfz58_1
        try clear hfz61_0
        try clear hfz61_1
        try clear hfz62_0
        try clear hfz62_1
        try clear hfz63_0
        try clear hfz63_1
        try clear hfz65_0
        try clear hfz65_1
        try clear hfz71_0
        try clear hfz71_1
        try clear hfz74_0
        try clear hfz74_1
        try clear hfz78_0
        try clear hfz78_1
        try clear hfz81_0
        try clear hfz81_1
        try clear hfz88_0
        try clear hfz88_1
        try clear hfz91_0
        try clear hfz91_1
        try clear hfz94_0
        try clear hfz94_1
        try clear hfz95_0
        try clear hfz95_1
        try clear hfz96_0
        try clear hfz96_1
        try clear hfz98_0
        try clear hfz98_1
        try clear p2
        obtain ⟨kq, x11_83, rfl, HA, HJ83, BK302, BK303, BK310, BK314, HB⟩ := hcut
        cases kq with
        | zero => exact absurd HA.out (by simp [cohousinglaw01_RationalMatchesReference.j3])
        | succ kj83 =>
         have H := HA.out
         clear HA
         simp only [cohousinglaw01_RationalMatchesReference.j3] at H
         replace H := Option.bind_eq_some_iff.mp H
         obtain ⟨⟨t327, t328, t329⟩, A1150, H⟩ := H
         replace H : ((cohousingref01_Mul.f kj83 a0_0 a0_1 a1_0 a1_1).bind fun bt330 => (if x11_83 = true then (if (t327 == bt330.1 && (t328 == bt330.2.1)) = true then (cohousinglaw01_RationalMatchesReference.j4 kj83 a4 (t329 == bt330.2.2) a0_0 a0_1 a1_0 a1_1) else (cohousinglaw01_RationalMatchesReference.j4 kj83 a4 false a0_0 a0_1 a1_0 a1_1)) else (cohousinglaw01_RationalMatchesReference.j4 kj83 a4 false a0_0 a0_1 a1_0 a1_1))) = some r := H
         have A115 := Aside0.mk A1150
         clear A1150
         replace H := Option.bind_eq_some_iff.mp H
         obtain ⟨⟨t330, t331, t332⟩, A1160, H⟩ := H
         replace H : (if x11_83 = true then (if (t327 == t330 && (t328 == t331)) = true then (cohousinglaw01_RationalMatchesReference.j4 kj83 a4 (t329 == t332) a0_0 a0_1 a1_0 a1_1) else (cohousinglaw01_RationalMatchesReference.j4 kj83 a4 false a0_0 a0_1 a1_0 a1_1)) else (cohousinglaw01_RationalMatchesReference.j4 kj83 a4 false a0_0 a0_1 a1_0 a1_1)) = some r := H
         have A116 := Aside0.mk A1160
         clear A1160
         have HC117 := Aside0.mk H
         clear H
         have hnb118 := NB302_303.out
         have hnc118 := NB303_302.out
         have hnb119 := NB302_310.out
         have hnc119 := NB310_302.out
         have hnb120 := NB302_314.out
         have hnc120 := NB314_302.out
         have hcz121_0 : wc.cell? ⟨gb302, 0, none⟩ = some (.int .i64 a0_0) := (kC BK302.out 0).trans rfl
         have hcz121_1 : wc.cell? ⟨gb302, 1, none⟩ = some (.int .i64 a0_1) := (kC BK302.out 1).trans rfl
         have hfz121_0 := blk_frozen BK302.out 0
         have hfz121_1 := blk_frozen BK302.out 1
         have hnb122 := NB303_310.out
         have hnc122 := NB310_303.out
         have hnb123 := NB303_314.out
         have hnc123 := NB314_303.out
         have hcz124_0 : wc.cell? ⟨gb303, 0, none⟩ = some (.int .i64 a1_0) := (kC BK303.out 0).trans rfl
         have hcz124_1 : wc.cell? ⟨gb303, 1, none⟩ = some (.int .i64 a1_1) := (kC BK303.out 1).trans rfl
         have hfz124_0 := blk_frozen BK303.out 0
         have hfz124_1 := blk_frozen BK303.out 1
         go_upto_region 13 with (first | ((with_reducible refine gate_callee (f := 15) rfl ?_); refine goesL_ (some 102) rfl rfl Tryd.func15 (by kernel_rfl) rfl #[.agg #[.int .i64 a0_0, .int .i64 a0_1], .agg #[.int .i64 a1_0, .int .i64 a1_1]] rfl (by (try simp only [List.map_toArray, List.map_cons, List.map_nil]); first | done | rfl | (simp only [List.length_drop, List.length_take]; rfl)) ?_; (with_reducible refine (rational_Mul.calls a0_0 a0_1 a1_0 a1_1 t327 t328 t329 _ A115.out).mono ?_); rintro e w125 ⟨rfl, hb⟩; refine ⟨_, rfl, ?_⟩; have n0_ := Aside0.mk (kB (g := gb302) (o := .cells #[.int .i64 a0_0, .int .i64 a0_1] 24 (0, 0)) (by (with_reducible repeat (first | refine kN ?_ _ | refine kD ?_ | refine kA ?_ _)); exact BK302.out) hb); have n1_ := Aside0.mk (kB (g := gb303) (o := .cells #[.int .i64 a1_0, .int .i64 a1_1] 24 (0, 0)) (by (with_reducible repeat (first | refine kN ?_ _ | refine kD ?_ | refine kA ?_ _)); exact BK303.out) hb); have n2_ := Aside0.mk (kB (g := gb310) (o := .cells #[.int .i64 t321, .int .i64 t322] 24 (0, 0)) (by (with_reducible repeat (first | refine kN ?_ _ | refine kD ?_ | refine kA ?_ _)); exact BK310.out) hb); have n3_ := Aside0.mk (kB (g := gb314) (o := .cells #[.int .i64 t324, .int .i64 t325] 24 (0, 0)) (by (with_reducible repeat (first | refine kN ?_ _ | refine kD ?_ | refine kA ?_ _)); exact BK314.out) hb); have n4_ := Aside0.mk (bT (by repeat (first | (with_reducible first | exact HB.out | apply bA | apply bN | apply b1 | refine bS ?_ GE302.out | refine bS ?_ GE303.out | refine bS ?_ GE310.out | refine bS ?_ GE314.out) | exact HB.out)) hb); clear BK302; clear BK303; clear BK310; clear BK314; clear HB; have BK302 := n0_; have BK303 := n1_; have BK310 := n2_; have BK314 := n3_; have HB := n4_; clear n0_ n1_ n2_ n3_ n4_; (try clear hb); (try clear hb2); (try clear hk); (try clear hi); have hnb126 := NB310_314.out; have hnc126 := NB314_310.out; have hcz127_0 : w125.cell? ⟨gb310, 0, none⟩ = some (.int .i64 t321) := (kC BK310.out 0).trans rfl; have hcz127_1 : w125.cell? ⟨gb310, 1, none⟩ = some (.int .i64 t322) := (kC BK310.out 1).trans rfl; have hfz127_0 := blk_frozen BK310.out 0; have hfz127_1 := blk_frozen BK310.out 1; have hcz128_0 : w125.cell? ⟨gb302, 0, none⟩ = some (.int .i64 a0_0) := (kC BK302.out 0).trans rfl; have hcz128_1 : w125.cell? ⟨gb302, 1, none⟩ = some (.int .i64 a0_1) := (kC BK302.out 1).trans rfl; have hfz128_0 := blk_frozen BK302.out 0; have hfz128_1 := blk_frozen BK302.out 1; have hcz129_0 : w125.cell? ⟨gb303, 0, none⟩ = some (.int .i64 a1_0) := (kC BK303.out 0).trans rfl; have hcz129_1 : w125.cell? ⟨gb303, 1, none⟩ = some (.int .i64 a1_1) := (kC BK303.out 1).trans rfl; have hfz129_0 := blk_frozen BK303.out 0; have hfz129_1 := blk_frozen BK303.out 1) | ((with_reducible refine gate_callee (f := 25) rfl ?_); refine goesL_ (some 108) rfl rfl Tryd.func25 (by kernel_rfl) rfl #[.agg #[.int .i64 a0_0, .int .i64 a0_1], .agg #[.int .i64 a1_0, .int .i64 a1_1]] rfl (by (try simp only [List.map_toArray, List.map_cons, List.map_nil]); first | done | rfl | (simp only [List.length_drop, List.length_take]; rfl)) ?_; (with_reducible refine (cohousingref01_Mul.calls kj83 a0_0 a0_1 a1_0 a1_1 t330 t331 t332 _ A116.out).mono ?_); rintro e w130 ⟨rfl, hb⟩; refine ⟨_, rfl, ?_⟩; have n0_ := Aside0.mk (kB (g := gb302) (o := .cells #[.int .i64 a0_0, .int .i64 a0_1] 24 (0, 0)) (by (with_reducible repeat (first | refine kN ?_ _ | refine kD ?_ | refine kA ?_ _)); refine kF ?_ NB302_310.out _; (with_reducible repeat (first | refine kN ?_ _ | refine kD ?_ | refine kA ?_ _)); refine kF ?_ NB302_310.out _; (with_reducible repeat (first | refine kN ?_ _ | refine kD ?_ | refine kA ?_ _)); exact BK302.out) hb); have n1_ := Aside0.mk (kB (g := gb303) (o := .cells #[.int .i64 a1_0, .int .i64 a1_1] 24 (0, 0)) (by (with_reducible repeat (first | refine kN ?_ _ | refine kD ?_ | refine kA ?_ _)); refine kF ?_ NB303_310.out _; (with_reducible repeat (first | refine kN ?_ _ | refine kD ?_ | refine kA ?_ _)); refine kF ?_ NB303_310.out _; (with_reducible repeat (first | refine kN ?_ _ | refine kD ?_ | refine kA ?_ _)); exact BK303.out) hb); have n2_ := Aside0.mk (kB (g := gb310) (o := .cells #[.int .i64 t327, .int .i64 t328] 24 (0, 0)) (by (with_reducible repeat (first | refine kN ?_ _ | refine kD ?_ | refine kA ?_ _)); refine blk_put (cs := #[.int .i64 t327, .int .i64 t322]) ?_ 1 _ rfl; (with_reducible repeat (first | refine kN ?_ _ | refine kD ?_ | refine kA ?_ _)); refine blk_put (cs := #[.int .i64 t321, .int .i64 t322]) ?_ 0 _ rfl; (with_reducible repeat (first | refine kN ?_ _ | refine kD ?_ | refine kA ?_ _)); exact BK310.out) hb); have n3_ := Aside0.mk (kB (g := gb314) (o := .cells #[.int .i64 t324, .int .i64 t325] 24 (0, 0)) (by (with_reducible repeat (first | refine kN ?_ _ | refine kD ?_ | refine kA ?_ _)); refine kF ?_ NB314_310.out _; (with_reducible repeat (first | refine kN ?_ _ | refine kD ?_ | refine kA ?_ _)); refine kF ?_ NB314_310.out _; (with_reducible repeat (first | refine kN ?_ _ | refine kD ?_ | refine kA ?_ _)); exact BK314.out) hb); have n4_ := Aside0.mk (bT (by repeat (first | (with_reducible first | exact HB.out | apply bA | apply bN | apply b1 | refine bS ?_ GE302.out | refine bS ?_ GE303.out | refine bS ?_ GE310.out | refine bS ?_ GE314.out) | exact HB.out)) hb); clear BK302; clear BK303; clear BK310; clear BK314; clear HB; have BK302 := n0_; have BK303 := n1_; have BK310 := n2_; have BK314 := n3_; have HB := n4_; clear n0_ n1_ n2_ n3_ n4_; (try clear hb); (try clear hb2); (try clear hk); (try clear hi); have hcz131_0 : w130.cell? ⟨gb314, 0, none⟩ = some (.int .i64 t324) := (kC BK314.out 0).trans rfl; have hcz131_1 : w130.cell? ⟨gb314, 1, none⟩ = some (.int .i64 t325) := (kC BK314.out 1).trans rfl; have hfz131_0 := blk_frozen BK314.out 0; have hfz131_1 := blk_frozen BK314.out 1))
         (try simp only [Act.put, List.setIfInBounds_toArray, List.set_cons_zero, List.set_cons_succ])
         go_cut [11] (fun v11 wc => ∃ (kq : Nat) (x11_116 : Bool), v11 = .bool x11_116 ∧ Aside0 (cohousinglaw01_RationalMatchesReference.j4 kq a4 x11_116 a0_0 a0_1 a1_0 a1_1 = some r) ∧ Aside0 (kq ≤ kj83) ∧ Aside0 (wc.heap[gb302]? = some (.cells #[.int .i64 a0_0, .int .i64 a0_1] 24 (0, 0))) ∧ Aside0 (wc.heap[gb303]? = some (.cells #[.int .i64 a1_0, .int .i64 a1_1] 24 (0, 0))) ∧ Aside0 (wc.heap[gb310]? = some (.cells #[.int .i64 t327, .int .i64 t328] 24 (0, 0))) ∧ Aside0 (wc.heap[gb314]? = some (.cells #[.int .i64 t330, .int .i64 t331] 24 (0, 0))) ∧ Aside0 (Below w.heap.size w wc))
         case first =>
          have H := HC117.out
          clear HC117
          by_cases c132 : x11_83 = true
          ·subst c132
           have H1 : (if (t327 == t330 && (t328 == t331)) = true then (cohousinglaw01_RationalMatchesReference.j4 kj83 a4 (t329 == t332) a0_0 a0_1 a1_0 a1_1) else (cohousinglaw01_RationalMatchesReference.j4 kj83 a4 false a0_0 a0_1 a1_0 a1_1)) = some r := by rw [if_pos rfl] at H; exact H
           clear H
           have H := H1
           clear H1
           by_cases c133 : (t327 == t330 && (t328 == t331)) = true
           ·rw [if_pos c133] at H
            have c133b0 : (t327 == t330 && (t328 == t331)) = true := c133
            (try (have c133b1 : decide (t327 = t330 && (t328 == t331)) = true := by simpa using c133))
            (try (have c133b2 : (t327 == t330 && (t328 == t331)) = true := by simpa using c133))
            clear c133
            (first | rw [c133b0] | (simp only [i64_w, i32_w]; rw [c133b0]) | skip)
            as_aux_lemma =>
             have H' := Aside0.mk H
             clear H
             have hnb134 := NB310_302.out
             have hnc134 := NB302_310.out
             have hnb135 := NB310_303.out
             have hnc135 := NB303_310.out
             have hnb136 := NB310_314.out
             have hnc136 := NB314_310.out
             have hcz137_0 : w130.cell? ⟨gb310, 0, none⟩ = some (.int .i64 t327) := (kC BK310.out 0).trans rfl
             have hcz137_1 : w130.cell? ⟨gb310, 1, none⟩ = some (.int .i64 t328) := (kC BK310.out 1).trans rfl
             have hfz137_0 := blk_frozen BK310.out 0
             have hfz137_1 := blk_frozen BK310.out 1
             have hnb138 := NB314_302.out
             have hnc138 := NB302_314.out
             have hnb139 := NB314_303.out
             have hnc139 := NB303_314.out
             have hcz140_0 : w130.cell? ⟨gb314, 0, none⟩ = some (.int .i64 t324) := (kC BK314.out 0).trans rfl
             have hcz140_1 : w130.cell? ⟨gb314, 1, none⟩ = some (.int .i64 t325) := (kC BK314.out 1).trans rfl
             have hfz140_0 := blk_frozen BK314.out 0
             have hfz140_1 := blk_frozen BK314.out 1
             go_wp2
             go_meet
             case rel => exact ⟨_, ((t329 == t332)), (by first | rfl | (simp; done) | (simp [*]; done)), H', ⟨by have := HJ5.out; have := HJ20.out; have := HJ50.out; have := HJ83.out; first | omega | exact Nat.le_refl _⟩, ⟨by (with_reducible repeat (first | refine kN ?_ _ | refine kD ?_ | refine kA ?_ _)); refine kF ?_ NB302_314.out _; (with_reducible repeat (first | refine kN ?_ _ | refine kD ?_ | refine kA ?_ _)); refine kF ?_ NB302_314.out _; (with_reducible repeat (first | refine kN ?_ _ | refine kD ?_ | refine kA ?_ _)); exact BK302.out⟩, ⟨by (with_reducible repeat (first | refine kN ?_ _ | refine kD ?_ | refine kA ?_ _)); refine kF ?_ NB303_314.out _; (with_reducible repeat (first | refine kN ?_ _ | refine kD ?_ | refine kA ?_ _)); refine kF ?_ NB303_314.out _; (with_reducible repeat (first | refine kN ?_ _ | refine kD ?_ | refine kA ?_ _)); exact BK303.out⟩, ⟨by (with_reducible repeat (first | refine kN ?_ _ | refine kD ?_ | refine kA ?_ _)); refine kF ?_ NB310_314.out _; (with_reducible repeat (first | refine kN ?_ _ | refine kD ?_ | refine kA ?_ _)); refine kF ?_ NB310_314.out _; (with_reducible repeat (first | refine kN ?_ _ | refine kD ?_ | refine kA ?_ _)); exact BK310.out⟩, ⟨by (with_reducible repeat (first | refine kN ?_ _ | refine kD ?_ | refine kA ?_ _)); refine blk_put (cs := #[.int .i64 t330, .int .i64 t325]) ?_ 1 _ rfl; (with_reducible repeat (first | refine kN ?_ _ | refine kD ?_ | refine kA ?_ _)); refine blk_put (cs := #[.int .i64 t324, .int .i64 t325]) ?_ 0 _ rfl; (with_reducible repeat (first | refine kN ?_ _ | refine kD ?_ | refine kA ?_ _)); exact BK314.out⟩, ⟨by repeat (first | (with_reducible first | exact HB.out | apply bA | apply bN | apply b1 | refine bS ?_ GE302.out | refine bS ?_ GE303.out | refine bS ?_ GE310.out | refine bS ?_ GE314.out) | exact HB.out)⟩⟩
           ·rw [if_neg c133] at H
            have c133b0 : (t327 == t330 && (t328 == t331)) = false := by simpa using c133
            (try (have c133b1 : decide (t327 = t330 && (t328 == t331)) = false := by simpa using c133))
            (try (have c133b2 : (t327 == t330 && (t328 == t331)) = false := by simpa using c133))
            (try (have c133b3 : ¬ (t327 = t330 && (t328 == t331)) := by simpa using c133))
            clear c133
            (first | rw [c133b0] | (simp only [i64_w, i32_w]; rw [c133b0]) | skip)
            as_aux_lemma =>
             have H' := Aside0.mk H
             clear H
             have hnb141 := NB310_302.out
             have hnc141 := NB302_310.out
             have hnb142 := NB310_303.out
             have hnc142 := NB303_310.out
             have hnb143 := NB310_314.out
             have hnc143 := NB314_310.out
             have hcz144_0 : w130.cell? ⟨gb310, 0, none⟩ = some (.int .i64 t327) := (kC BK310.out 0).trans rfl
             have hcz144_1 : w130.cell? ⟨gb310, 1, none⟩ = some (.int .i64 t328) := (kC BK310.out 1).trans rfl
             have hfz144_0 := blk_frozen BK310.out 0
             have hfz144_1 := blk_frozen BK310.out 1
             have hnb145 := NB314_302.out
             have hnc145 := NB302_314.out
             have hnb146 := NB314_303.out
             have hnc146 := NB303_314.out
             have hcz147_0 : w130.cell? ⟨gb314, 0, none⟩ = some (.int .i64 t324) := (kC BK314.out 0).trans rfl
             have hcz147_1 : w130.cell? ⟨gb314, 1, none⟩ = some (.int .i64 t325) := (kC BK314.out 1).trans rfl
             have hfz147_0 := blk_frozen BK314.out 0
             have hfz147_1 := blk_frozen BK314.out 1
             go_wp2
             go_meet
             case rel => exact ⟨_, (false), (by first | rfl | (simp; done) | (simp [*]; done)), H', ⟨by have := HJ5.out; have := HJ20.out; have := HJ50.out; have := HJ83.out; first | omega | exact Nat.le_refl _⟩, ⟨by (with_reducible repeat (first | refine kN ?_ _ | refine kD ?_ | refine kA ?_ _)); refine kF ?_ NB302_314.out _; (with_reducible repeat (first | refine kN ?_ _ | refine kD ?_ | refine kA ?_ _)); refine kF ?_ NB302_314.out _; (with_reducible repeat (first | refine kN ?_ _ | refine kD ?_ | refine kA ?_ _)); exact BK302.out⟩, ⟨by (with_reducible repeat (first | refine kN ?_ _ | refine kD ?_ | refine kA ?_ _)); refine kF ?_ NB303_314.out _; (with_reducible repeat (first | refine kN ?_ _ | refine kD ?_ | refine kA ?_ _)); refine kF ?_ NB303_314.out _; (with_reducible repeat (first | refine kN ?_ _ | refine kD ?_ | refine kA ?_ _)); exact BK303.out⟩, ⟨by (with_reducible repeat (first | refine kN ?_ _ | refine kD ?_ | refine kA ?_ _)); refine kF ?_ NB310_314.out _; (with_reducible repeat (first | refine kN ?_ _ | refine kD ?_ | refine kA ?_ _)); refine kF ?_ NB310_314.out _; (with_reducible repeat (first | refine kN ?_ _ | refine kD ?_ | refine kA ?_ _)); exact BK310.out⟩, ⟨by (with_reducible repeat (first | refine kN ?_ _ | refine kD ?_ | refine kA ?_ _)); refine blk_put (cs := #[.int .i64 t330, .int .i64 t325]) ?_ 1 _ rfl; (with_reducible repeat (first | refine kN ?_ _ | refine kD ?_ | refine kA ?_ _)); refine blk_put (cs := #[.int .i64 t324, .int .i64 t325]) ?_ 0 _ rfl; (with_reducible repeat (first | refine kN ?_ _ | refine kD ?_ | refine kA ?_ _)); exact BK314.out⟩, ⟨by repeat (first | (with_reducible first | exact HB.out | apply bA | apply bN | apply b1 | refine bS ?_ GE302.out | refine bS ?_ GE303.out | refine bS ?_ GE310.out | refine bS ?_ GE314.out) | exact HB.out)⟩⟩
          ·replace c132 := Bool.eq_false_iff.mpr c132
           subst c132
           have H1 : (cohousinglaw01_RationalMatchesReference.j4 kj83 a4 false a0_0 a0_1 a1_0 a1_1) = some r := by rw [if_neg (show ¬ (false = true) by decide)] at H; exact H
           clear H
           have H := H1
           clear H1
           as_aux_lemma =>
            have H' := Aside0.mk H
            clear H
            go_wp2
            go_meet
            case rel => exact ⟨_, (false), (by first | rfl | (simp; done) | (simp [*]; done)), H', ⟨by have := HJ5.out; have := HJ20.out; have := HJ50.out; have := HJ83.out; first | omega | exact Nat.le_refl _⟩, ⟨by (with_reducible repeat (first | refine kN ?_ _ | refine kD ?_ | refine kA ?_ _)); refine kF ?_ NB302_314.out _; (with_reducible repeat (first | refine kN ?_ _ | refine kD ?_ | refine kA ?_ _)); refine kF ?_ NB302_314.out _; (with_reducible repeat (first | refine kN ?_ _ | refine kD ?_ | refine kA ?_ _)); exact BK302.out⟩, ⟨by (with_reducible repeat (first | refine kN ?_ _ | refine kD ?_ | refine kA ?_ _)); refine kF ?_ NB303_314.out _; (with_reducible repeat (first | refine kN ?_ _ | refine kD ?_ | refine kA ?_ _)); refine kF ?_ NB303_314.out _; (with_reducible repeat (first | refine kN ?_ _ | refine kD ?_ | refine kA ?_ _)); exact BK303.out⟩, ⟨by (with_reducible repeat (first | refine kN ?_ _ | refine kD ?_ | refine kA ?_ _)); refine kF ?_ NB310_314.out _; (with_reducible repeat (first | refine kN ?_ _ | refine kD ?_ | refine kA ?_ _)); refine kF ?_ NB310_314.out _; (with_reducible repeat (first | refine kN ?_ _ | refine kD ?_ | refine kA ?_ _)); exact BK310.out⟩, ⟨by (with_reducible repeat (first | refine kN ?_ _ | refine kD ?_ | refine kA ?_ _)); refine blk_put (cs := #[.int .i64 t330, .int .i64 t325]) ?_ 1 _ rfl; (with_reducible repeat (first | refine kN ?_ _ | refine kD ?_ | refine kA ?_ _)); refine blk_put (cs := #[.int .i64 t324, .int .i64 t325]) ?_ 0 _ rfl; (with_reducible repeat (first | refine kN ?_ _ | refine kD ?_ | refine kA ?_ _)); exact BK314.out⟩, ⟨by repeat (first | (with_reducible first | exact HB.out | apply bA | apply bN | apply b1 | refine bS ?_ GE302.out | refine bS ?_ GE303.out | refine bS ?_ GE310.out | refine bS ?_ GE314.out) | exact HB.out)⟩⟩
         case rest =>
          clear HC117
          try clear c1
          try clear c2
          try clear p2
          try clear c3
          try clear c4
          try clear c5
          try clear c6
          try clear c7
          try clear c8
          try clear c9
          try clear c10
          try clear c11
          try clear c12
          try clear c13
          try clear c14
          try clear c15
          try clear c17
          try clear c20
          try clear c21
          try clear c22
          try clear c23
          try clear c24
          try clear c25
          try clear c29
          try clear c30
          try clear c31
          try clear c33
          try clear c34
          try clear c34b0
          try clear c34b1
          try clear c34b2
          try clear c35
          try clear c36
          try clear c37
          try clear c39
          try clear c40
          try clear c42
          try clear c43
          try clear c44
          try clear c46
          try clear c47
          try clear c52
          try clear c53
          try clear c54
          try clear c56
          try clear c57
          try clear c60
          try clear c66
          try clear c67
          try clear c67b0
          try clear c67b1
          try clear c67b2
          try clear c68
          try clear c69
          try clear c70
          try clear c72
          try clear c73
          try clear c75
          try clear c76
          try clear c77
          try clear c79
          try clear c80
          try clear c85
          try clear c86
          try clear c87
          try clear c89
          try clear c90
          try clear c93
          try clear c99
          try clear c100
          try clear c100b0
          try clear c100b1
          try clear c100b2
          try clear c101
          try clear c102
          try clear c103
          try clear c105
          try clear c106
          try clear c108
          try clear c109
          try clear c110
          try clear c112
          try clear c113
          try clear c118
          try clear c119
          try clear c120
          try clear c122
          try clear c123
          try clear c126
          try clear c132
          try clear c133
          try clear c133b0
          try clear c133b1
          try clear c133b2
          try clear c134
          try clear c135
          try clear c136
          try clear c138
          try clear c139
          try clear c141
          try clear c142
          try clear c143
          try clear c145
          try clear c146
          try clear hcz104_0
          try clear hcz104_1
          try clear hcz107_0
          try clear hcz107_1
          try clear hcz111_0
          try clear hcz111_1
          try clear hcz114_0
          try clear hcz114_1
          try clear hcz121_0
          try clear hcz121_1
          try clear hcz124_0
          try clear hcz124_1
          try clear hcz127_0
          try clear hcz127_1
          try clear hcz128_0
          try clear hcz128_1
          try clear hcz129_0
          try clear hcz129_1
          try clear hcz131_0
          try clear hcz131_1
          try clear hcz137_0
          try clear hcz137_1
          try clear hcz140_0
          try clear hcz140_1
          try clear hcz144_0
          try clear hcz144_1
          try clear hcz147_0
          try clear hcz147_1
          try clear hcz26_0
          try clear hcz26_1
          try clear hcz32_0
          try clear hcz32_1
          try clear hcz38_0
          try clear hcz38_1
          try clear hcz41_0
          try clear hcz41_1
          try clear hcz45_0
          try clear hcz45_1
          try clear hcz48_0
          try clear hcz48_1
          try clear hcz55_0
          try clear hcz55_1
          try clear hcz58_0
          try clear hcz58_1
          try clear hcz61_0
          try clear hcz61_1
          try clear hcz62_0
          try clear hcz62_1
          try clear hcz63_0
          try clear hcz63_1
          try clear hcz65_0
          try clear hcz65_1
          try clear hcz71_0
          try clear hcz71_1
          try clear hcz74_0
          try clear hcz74_1
          try clear hcz78_0
          try clear hcz78_1
          try clear hcz81_0
          try clear hcz81_1
          try clear hcz88_0
          try clear hcz88_1
          try clear hcz91_0
          try clear hcz91_1
          try clear hcz94_0
          try clear hcz94_1
          try clear hcz95_0
          try clear hcz95_1
          try clear hcz96_0
          try clear hcz96_1
          try clear hcz98_0
          try clear hcz98_1
          try clear hfz104_0
          try clear hfz104_1
          try clear hfz107_0
          try clear hfz107_1
          try clear hfz111_0
          try clear hfz111_1
          try clear hfz114_0
          try clear hfz114_1
          try clear hfz121_0
          try clear hfz121_1
          try clear hfz124_0
          try clear hfz124_1
          try clear hfz127_0
          try clear hfz127_1
          try clear hfz128_0
          try clear hfz128_1
          try clear hfz129_0
          try clear hfz129_1
          try clear hfz131_0
          try clear hfz131_1
          try clear hfz137_0
          try clear hfz137_1
          try clear hfz140_0
          try clear hfz140_1
          try clear hfz144_0
          try clear hfz144_1
          try clear hfz147_0
          try clear hfz147_1
          try clear hfz26_0
          try clear hfz26_1
          try clear hfz32_0
          try clear hfz32_1
          try clear hfz38_0
          try clear hfz38_1
          try clear hfz41_0
          try clear hfz41_1
          try clear hfz45_0
          try clear hfz45_1
          try clear hfz48_0
          try clear hfz48_1
          try clear hfz55_0
          try clear hfz55_1
          try clear hfz58_0
          try clear hfz58_1
          try clear hfz61_0
          try clear hfz61_1
          try clear hfz62_0
          try clear hfz62_1
          try clear hfz63_0
          try clear hfz63_1
          try clear hfz65_0
          try clear hfz65_1
          try clear hfz71_0
          try clear hfz71_1
          try clear hfz74_0
          try clear hfz74_1
          try clear hfz78_0
          try clear hfz78_1
          try clear hfz81_0
          try clear hfz81_1
          try clear hfz88_0
          try clear hfz88_1
          try clear hfz91_0
          try clear hfz91_1
          try clear hfz94_0
          try clear hfz94_1
          try clear hfz95_0
          try clear hfz95_1
          try clear hfz96_0
          try clear hfz96_1
          try clear hfz98_0
          try clear hfz98_1
          try clear p2
          obtain ⟨kq, x11_116, rfl, HA, HJ116, BK302, BK303, BK310, BK314, HB⟩ := hcut
          cases kq with
          | zero => exact absurd HA.out (by simp [cohousinglaw01_RationalMatchesReference.j4])
          | succ kj116 =>
           have H := HA.out
           clear HA
           simp only [cohousinglaw01_RationalMatchesReference.j4] at H
           replace H := Option.bind_eq_some_iff.mp H
           obtain ⟨⟨t333, t334, t335⟩, A1480, H⟩ := H
           replace H : ((cohousingref01_Div.f kj116 a0_0 a0_1 a1_0 a1_1).bind fun bt336 => (if x11_116 = true then (if (t333 == bt336.1 && (t334 == bt336.2.1)) = true then (cohousinglaw01_RationalMatchesReference.j5 kj116 a4 (t335 == bt336.2.2) a0_0 a0_1 a1_0 a1_1) else (cohousinglaw01_RationalMatchesReference.j5 kj116 a4 false a0_0 a0_1 a1_0 a1_1)) else (cohousinglaw01_RationalMatchesReference.j5 kj116 a4 false a0_0 a0_1 a1_0 a1_1))) = some r := H
           have A148 := Aside0.mk A1480
           clear A1480
           replace H := Option.bind_eq_some_iff.mp H
           obtain ⟨⟨t336, t337, t338⟩, A1490, H⟩ := H
           replace H : (if x11_116 = true then (if (t333 == t336 && (t334 == t337)) = true then (cohousinglaw01_RationalMatchesReference.j5 kj116 a4 (t335 == t338) a0_0 a0_1 a1_0 a1_1) else (cohousinglaw01_RationalMatchesReference.j5 kj116 a4 false a0_0 a0_1 a1_0 a1_1)) else (cohousinglaw01_RationalMatchesReference.j5 kj116 a4 false a0_0 a0_1 a1_0 a1_1)) = some r := H
           have A149 := Aside0.mk A1490
           clear A1490
           have HC150 := Aside0.mk H
           clear H
           have hnb151 := NB302_303.out
           have hnc151 := NB303_302.out
           have hnb152 := NB302_310.out
           have hnc152 := NB310_302.out
           have hnb153 := NB302_314.out
           have hnc153 := NB314_302.out
           have hcz154_0 : wc.cell? ⟨gb302, 0, none⟩ = some (.int .i64 a0_0) := (kC BK302.out 0).trans rfl
           have hcz154_1 : wc.cell? ⟨gb302, 1, none⟩ = some (.int .i64 a0_1) := (kC BK302.out 1).trans rfl
           have hfz154_0 := blk_frozen BK302.out 0
           have hfz154_1 := blk_frozen BK302.out 1
           have hnb155 := NB303_310.out
           have hnc155 := NB310_303.out
           have hnb156 := NB303_314.out
           have hnc156 := NB314_303.out
           have hcz157_0 : wc.cell? ⟨gb303, 0, none⟩ = some (.int .i64 a1_0) := (kC BK303.out 0).trans rfl
           have hcz157_1 : wc.cell? ⟨gb303, 1, none⟩ = some (.int .i64 a1_1) := (kC BK303.out 1).trans rfl
           have hfz157_0 := blk_frozen BK303.out 0
           have hfz157_1 := blk_frozen BK303.out 1
           go_upto_region 16 with (first | ((with_reducible refine gate_callee (f := 16) rfl ?_); refine goesL_ (some 125) rfl rfl Tryd.func16 (by kernel_rfl) rfl #[.agg #[.int .i64 a0_0, .int .i64 a0_1], .agg #[.int .i64 a1_0, .int .i64 a1_1]] rfl (by (try simp only [List.map_toArray, List.map_cons, List.map_nil]); first | done | rfl | (simp only [List.length_drop, List.length_take]; rfl)) ?_; (with_reducible refine (rational_Div.calls a0_0 a0_1 a1_0 a1_1 t333 t334 t335 _ A148.out).mono ?_); rintro e w158 ⟨rfl, hb⟩; refine ⟨_, rfl, ?_⟩; have n0_ := Aside0.mk (kB (g := gb302) (o := .cells #[.int .i64 a0_0, .int .i64 a0_1] 24 (0, 0)) (by (with_reducible repeat (first | refine kN ?_ _ | refine kD ?_ | refine kA ?_ _)); exact BK302.out) hb); have n1_ := Aside0.mk (kB (g := gb303) (o := .cells #[.int .i64 a1_0, .int .i64 a1_1] 24 (0, 0)) (by (with_reducible repeat (first | refine kN ?_ _ | refine kD ?_ | refine kA ?_ _)); exact BK303.out) hb); have n2_ := Aside0.mk (kB (g := gb310) (o := .cells #[.int .i64 t327, .int .i64 t328] 24 (0, 0)) (by (with_reducible repeat (first | refine kN ?_ _ | refine kD ?_ | refine kA ?_ _)); exact BK310.out) hb); have n3_ := Aside0.mk (kB (g := gb314) (o := .cells #[.int .i64 t330, .int .i64 t331] 24 (0, 0)) (by (with_reducible repeat (first | refine kN ?_ _ | refine kD ?_ | refine kA ?_ _)); exact BK314.out) hb); have n4_ := Aside0.mk (bT (by repeat (first | (with_reducible first | exact HB.out | apply bA | apply bN | apply b1 | refine bS ?_ GE302.out | refine bS ?_ GE303.out | refine bS ?_ GE310.out | refine bS ?_ GE314.out) | exact HB.out)) hb); clear BK302; clear BK303; clear BK310; clear BK314; clear HB; have BK302 := n0_; have BK303 := n1_; have BK310 := n2_; have BK314 := n3_; have HB := n4_; clear n0_ n1_ n2_ n3_ n4_; (try clear hb); (try clear hb2); (try clear hk); (try clear hi); have hnb159 := NB310_314.out; have hnc159 := NB314_310.out; have hcz160_0 : w158.cell? ⟨gb310, 0, none⟩ = some (.int .i64 t327) := (kC BK310.out 0).trans rfl; have hcz160_1 : w158.cell? ⟨gb310, 1, none⟩ = some (.int .i64 t328) := (kC BK310.out 1).trans rfl; have hfz160_0 := blk_frozen BK310.out 0; have hfz160_1 := blk_frozen BK310.out 1; have hcz161_0 : w158.cell? ⟨gb302, 0, none⟩ = some (.int .i64 a0_0) := (kC BK302.out 0).trans rfl; have hcz161_1 : w158.cell? ⟨gb302, 1, none⟩ = some (.int .i64 a0_1) := (kC BK302.out 1).trans rfl; have hfz161_0 := blk_frozen BK302.out 0; have hfz161_1 := blk_frozen BK302.out 1; have hcz162_0 : w158.cell? ⟨gb303, 0, none⟩ = some (.int .i64 a1_0) := (kC BK303.out 0).trans rfl; have hcz162_1 : w158.cell? ⟨gb303, 1, none⟩ = some (.int .i64 a1_1) := (kC BK303.out 1).trans rfl; have hfz162_0 := blk_frozen BK303.out 0; have hfz162_1 := blk_frozen BK303.out 1) | ((with_reducible refine gate_callee (f := 26) rfl ?_); refine goesL_ (some 131) rfl rfl Tryd.func26 (by kernel_rfl) rfl #[.agg #[.int .i64 a0_0, .int .i64 a0_1], .agg #[.int .i64 a1_0, .int .i64 a1_1]] rfl (by (try simp only [List.map_toArray, List.map_cons, List.map_nil]); first | done | rfl | (simp only [List.length_drop, List.length_take]; rfl)) ?_; (with_reducible refine (cohousingref01_Div.calls kj116 a0_0 a0_1 a1_0 a1_1 t336 t337 t338 _ A149.out).mono ?_); rintro e w163 ⟨rfl, hb⟩; refine ⟨_, rfl, ?_⟩; have n0_ := Aside0.mk (kB (g := gb302) (o := .cells #[.int .i64 a0_0, .int .i64 a0_1] 24 (0, 0)) (by (with_reducible repeat (first | refine kN ?_ _ | refine kD ?_ | refine kA ?_ _)); refine kF ?_ NB302_310.out _; (with_reducible repeat (first | refine kN ?_ _ | refine kD ?_ | refine kA ?_ _)); refine kF ?_ NB302_310.out _; (with_reducible repeat (first | refine kN ?_ _ | refine kD ?_ | refine kA ?_ _)); exact BK302.out) hb); have n1_ := Aside0.mk (kB (g := gb303) (o := .cells #[.int .i64 a1_0, .int .i64 a1_1] 24 (0, 0)) (by (with_reducible repeat (first | refine kN ?_ _ | refine kD ?_ | refine kA ?_ _)); refine kF ?_ NB303_310.out _; (with_reducible repeat (first | refine kN ?_ _ | refine kD ?_ | refine kA ?_ _)); refine kF ?_ NB303_310.out _; (with_reducible repeat (first | refine kN ?_ _ | refine kD ?_ | refine kA ?_ _)); exact BK303.out) hb); have n2_ := Aside0.mk (kB (g := gb310) (o := .cells #[.int .i64 t333, .int .i64 t334] 24 (0, 0)) (by (with_reducible repeat (first | refine kN ?_ _ | refine kD ?_ | refine kA ?_ _)); refine blk_put (cs := #[.int .i64 t333, .int .i64 t328]) ?_ 1 _ rfl; (with_reducible repeat (first | refine kN ?_ _ | refine kD ?_ | refine kA ?_ _)); refine blk_put (cs := #[.int .i64 t327, .int .i64 t328]) ?_ 0 _ rfl; (with_reducible repeat (first | refine kN ?_ _ | refine kD ?_ | refine kA ?_ _)); exact BK310.out) hb); have n3_ := Aside0.mk (kB (g := gb314) (o := .cells #[.int .i64 t330, .int .i64 t331] 24 (0, 0)) (by (with_reducible repeat (first | refine kN ?_ _ | refine kD ?_ | refine kA ?_ _)); refine kF ?_ NB314_310.out _; (with_reducible repeat (first | refine kN ?_ _ | refine kD ?_ | refine kA ?_ _)); refine kF ?_ NB314_310.out _; (with_reducible repeat (first | refine kN ?_ _ | refine kD ?_ | refine kA ?_ _)); exact BK314.out) hb); have n4_ := Aside0.mk (bT (by repeat (first | (with_reducible first | exact HB.out | apply bA | apply bN | apply b1 | refine bS ?_ GE302.out | refine bS ?_ GE303.out | refine bS ?_ GE310.out | refine bS ?_ GE314.out) | exact HB.out)) hb); clear BK302; clear BK303; clear BK310; clear BK314; clear HB; have BK302 := n0_; have BK303 := n1_; have BK310 := n2_; have BK314 := n3_; have HB := n4_; clear n0_ n1_ n2_ n3_ n4_; (try clear hb); (try clear hb2); (try clear hk); (try clear hi); have hcz164_0 : w163.cell? ⟨gb314, 0, none⟩ = some (.int .i64 t330) := (kC BK314.out 0).trans rfl; have hcz164_1 : w163.cell? ⟨gb314, 1, none⟩ = some (.int .i64 t331) := (kC BK314.out 1).trans rfl; have hfz164_0 := blk_frozen BK314.out 0; have hfz164_1 := blk_frozen BK314.out 1))
           (try simp only [Act.put, List.setIfInBounds_toArray, List.set_cons_zero, List.set_cons_succ])
           go_cut [11] (fun v11 wc => ∃ (kq : Nat) (x11_149 : Bool), v11 = .bool x11_149 ∧ Aside0 (cohousinglaw01_RationalMatchesReference.j5 kq a4 x11_149 a0_0 a0_1 a1_0 a1_1 = some r) ∧ Aside0 (kq ≤ kj116) ∧ Aside0 (wc.heap[gb302]? = some (.cells #[.int .i64 a0_0, .int .i64 a0_1] 24 (0, 0))) ∧ Aside0 (wc.heap[gb303]? = some (.cells #[.int .i64 a1_0, .int .i64 a1_1] 24 (0, 0))) ∧ Aside0 (wc.heap[gb310]? = some (.cells #[.int .i64 t333, .int .i64 t334] 24 (0, 0))) ∧ Aside0 (wc.heap[gb314]? = some (.cells #[.int .i64 t336, .int .i64 t337] 24 (0, 0))) ∧ Aside0 (Below w.heap.size w wc))
           case first =>
            have H := HC150.out
            clear HC150
            by_cases c165 : x11_116 = true
            ·subst c165
             have H1 : (if (t333 == t336 && (t334 == t337)) = true then (cohousinglaw01_RationalMatchesReference.j5 kj116 a4 (t335 == t338) a0_0 a0_1 a1_0 a1_1) else (cohousinglaw01_RationalMatchesReference.j5 kj116 a4 false a0_0 a0_1 a1_0 a1_1)) = some r := by rw [if_pos rfl] at H; exact H
             clear H
             have H := H1
             clear H1
             by_cases c166 : (t333 == t336 && (t334 == t337)) = true
             ·rw [if_pos c166] at H
              have c166b0 : (t333 == t336 && (t334 == t337)) = true := c166
              (try (have c166b1 : decide (t333 = t336 && (t334 == t337)) = true := by simpa using c166))
              (try (have c166b2 : (t333 == t336 && (t334 == t337)) = true := by simpa using c166))
              clear c166
              (first | rw [c166b0] | (simp only [i64_w, i32_w]; rw [c166b0]) | skip)
              as_aux_lemma =>
               have H' := Aside0.mk H
               clear H
               have hnb167 := NB310_302.out
               have hnc167 := NB302_310.out
               have hnb168 := NB310_303.out
               have hnc168 := NB303_310.out
               have hnb169 := NB310_314.out
               have hnc169 := NB314_310.out
               have hcz170_0 : w163.cell? ⟨gb310, 0, none⟩ = some (.int .i64 t333) := (kC BK310.out 0).trans rfl
               have hcz170_1 : w163.cell? ⟨gb310, 1, none⟩ = some (.int .i64 t334) := (kC BK310.out 1).trans rfl
               have hfz170_0 := blk_frozen BK310.out 0
               have hfz170_1 := blk_frozen BK310.out 1
               have hnb171 := NB314_302.out
               have hnc171 := NB302_314.out
               have hnb172 := NB314_303.out
               have hnc172 := NB303_314.out
               have hcz173_0 : w163.cell? ⟨gb314, 0, none⟩ = some (.int .i64 t330) := (kC BK314.out 0).trans rfl
               have hcz173_1 : w163.cell? ⟨gb314, 1, none⟩ = some (.int .i64 t331) := (kC BK314.out 1).trans rfl
               have hfz173_0 := blk_frozen BK314.out 0
               have hfz173_1 := blk_frozen BK314.out 1
               go_wp2
               go_meet
               case rel => exact ⟨_, ((t335 == t338)), (by first | rfl | (simp; done) | (simp [*]; done)), H', ⟨by have := HJ5.out; have := HJ20.out; have := HJ50.out; have := HJ83.out; have := HJ116.out; first | omega | exact Nat.le_refl _⟩, ⟨by (with_reducible repeat (first | refine kN ?_ _ | refine kD ?_ | refine kA ?_ _)); refine kF ?_ NB302_314.out _; (with_reducible repeat (first | refine kN ?_ _ | refine kD ?_ | refine kA ?_ _)); refine kF ?_ NB302_314.out _; (with_reducible repeat (first | refine kN ?_ _ | refine kD ?_ | refine kA ?_ _)); exact BK302.out⟩, ⟨by (with_reducible repeat (first | refine kN ?_ _ | refine kD ?_ | refine kA ?_ _)); refine kF ?_ NB303_314.out _; (with_reducible repeat (first | refine kN ?_ _ | refine kD ?_ | refine kA ?_ _)); refine kF ?_ NB303_314.out _; (with_reducible repeat (first | refine kN ?_ _ | refine kD ?_ | refine kA ?_ _)); exact BK303.out⟩, ⟨by (with_reducible repeat (first | refine kN ?_ _ | refine kD ?_ | refine kA ?_ _)); refine kF ?_ NB310_314.out _; (with_reducible repeat (first | refine kN ?_ _ | refine kD ?_ | refine kA ?_ _)); refine kF ?_ NB310_314.out _; (with_reducible repeat (first | refine kN ?_ _ | refine kD ?_ | refine kA ?_ _)); exact BK310.out⟩, ⟨by (with_reducible repeat (first | refine kN ?_ _ | refine kD ?_ | refine kA ?_ _)); refine blk_put (cs := #[.int .i64 t336, .int .i64 t331]) ?_ 1 _ rfl; (with_reducible repeat (first | refine kN ?_ _ | refine kD ?_ | refine kA ?_ _)); refine blk_put (cs := #[.int .i64 t330, .int .i64 t331]) ?_ 0 _ rfl; (with_reducible repeat (first | refine kN ?_ _ | refine kD ?_ | refine kA ?_ _)); exact BK314.out⟩, ⟨by repeat (first | (with_reducible first | exact HB.out | apply bA | apply bN | apply b1 | refine bS ?_ GE302.out | refine bS ?_ GE303.out | refine bS ?_ GE310.out | refine bS ?_ GE314.out) | exact HB.out)⟩⟩
             ·rw [if_neg c166] at H
              have c166b0 : (t333 == t336 && (t334 == t337)) = false := by simpa using c166
              (try (have c166b1 : decide (t333 = t336 && (t334 == t337)) = false := by simpa using c166))
              (try (have c166b2 : (t333 == t336 && (t334 == t337)) = false := by simpa using c166))
              (try (have c166b3 : ¬ (t333 = t336 && (t334 == t337)) := by simpa using c166))
              clear c166
              (first | rw [c166b0] | (simp only [i64_w, i32_w]; rw [c166b0]) | skip)
              as_aux_lemma =>
               have H' := Aside0.mk H
               clear H
               have hnb174 := NB310_302.out
               have hnc174 := NB302_310.out
               have hnb175 := NB310_303.out
               have hnc175 := NB303_310.out
               have hnb176 := NB310_314.out
               have hnc176 := NB314_310.out
               have hcz177_0 : w163.cell? ⟨gb310, 0, none⟩ = some (.int .i64 t333) := (kC BK310.out 0).trans rfl
               have hcz177_1 : w163.cell? ⟨gb310, 1, none⟩ = some (.int .i64 t334) := (kC BK310.out 1).trans rfl
               have hfz177_0 := blk_frozen BK310.out 0
               have hfz177_1 := blk_frozen BK310.out 1
               have hnb178 := NB314_302.out
               have hnc178 := NB302_314.out
               have hnb179 := NB314_303.out
               have hnc179 := NB303_314.out
               have hcz180_0 : w163.cell? ⟨gb314, 0, none⟩ = some (.int .i64 t330) := (kC BK314.out 0).trans rfl
               have hcz180_1 : w163.cell? ⟨gb314, 1, none⟩ = some (.int .i64 t331) := (kC BK314.out 1).trans rfl
               have hfz180_0 := blk_frozen BK314.out 0
               have hfz180_1 := blk_frozen BK314.out 1
               go_wp2
               go_meet
               case rel => exact ⟨_, (false), (by first | rfl | (simp; done) | (simp [*]; done)), H', ⟨by have := HJ5.out; have := HJ20.out; have := HJ50.out; have := HJ83.out; have := HJ116.out; first | omega | exact Nat.le_refl _⟩, ⟨by (with_reducible repeat (first | refine kN ?_ _ | refine kD ?_ | refine kA ?_ _)); refine kF ?_ NB302_314.out _; (with_reducible repeat (first | refine kN ?_ _ | refine kD ?_ | refine kA ?_ _)); refine kF ?_ NB302_314.out _; (with_reducible repeat (first | refine kN ?_ _ | refine kD ?_ | refine kA ?_ _)); exact BK302.out⟩, ⟨by (with_reducible repeat (first | refine kN ?_ _ | refine kD ?_ | refine kA ?_ _)); refine kF ?_ NB303_314.out _; (with_reducible repeat (first | refine kN ?_ _ | refine kD ?_ | refine kA ?_ _)); refine kF ?_ NB303_314.out _; (with_reducible repeat (first | refine kN ?_ _ | refine kD ?_ | refine kA ?_ _)); exact BK303.out⟩, ⟨by (with_reducible repeat (first | refine kN ?_ _ | refine kD ?_ | refine kA ?_ _)); refine kF ?_ NB310_314.out _; (with_reducible repeat (first | refine kN ?_ _ | refine kD ?_ | refine kA ?_ _)); refine kF ?_ NB310_314.out _; (with_reducible repeat (first | refine kN ?_ _ | refine kD ?_ | refine kA ?_ _)); exact BK310.out⟩, ⟨by (with_reducible repeat (first | refine kN ?_ _ | refine kD ?_ | refine kA ?_ _)); refine blk_put (cs := #[.int .i64 t336, .int .i64 t331]) ?_ 1 _ rfl; (with_reducible repeat (first | refine kN ?_ _ | refine kD ?_ | refine kA ?_ _)); refine blk_put (cs := #[.int .i64 t330, .int .i64 t331]) ?_ 0 _ rfl; (with_reducible repeat (first | refine kN ?_ _ | refine kD ?_ | refine kA ?_ _)); exact BK314.out⟩, ⟨by repeat (first | (with_reducible first | exact HB.out | apply bA | apply bN | apply b1 | refine bS ?_ GE302.out | refine bS ?_ GE303.out | refine bS ?_ GE310.out | refine bS ?_ GE314.out) | exact HB.out)⟩⟩
            ·replace c165 := Bool.eq_false_iff.mpr c165
             subst c165
             have H1 : (cohousinglaw01_RationalMatchesReference.j5 kj116 a4 false a0_0 a0_1 a1_0 a1_1) = some r := by rw [if_neg (show ¬ (false = true) by decide)] at H; exact H
             clear H
             have H := H1
             clear H1
             as_aux_lemma =>
              have H' := Aside0.mk H
              clear H
              go_wp2
              go_meet
              case rel => exact ⟨_, (false), (by first | rfl | (simp; done) | (simp [*]; done)), H', ⟨by have := HJ5.out; have := HJ20.out; have := HJ50.out; have := HJ83.out; have := HJ116.out; first | omega | exact Nat.le_refl _⟩, ⟨by (with_reducible repeat (first | refine kN ?_ _ | refine kD ?_ | refine kA ?_ _)); refine kF ?_ NB302_314.out _; (with_reducible repeat (first | refine kN ?_ _ | refine kD ?_ | refine kA ?_ _)); refine kF ?_ NB302_314.out _; (with_reducible repeat (first | refine kN ?_ _ | refine kD ?_ | refine kA ?_ _)); exact BK302.out⟩, ⟨by (with_reducible repeat (first | refine kN ?_ _ | refine kD ?_ | refine kA ?_ _)); refine kF ?_ NB303_314.out _; (with_reducible repeat (first | refine kN ?_ _ | refine kD ?_ | refine kA ?_ _)); refine kF ?_ NB303_314.out _; (with_reducible repeat (first | refine kN ?_ _ | refine kD ?_ | refine kA ?_ _)); exact BK303.out⟩, ⟨by (with_reducible repeat (first | refine kN ?_ _ | refine kD ?_ | refine kA ?_ _)); refine kF ?_ NB310_314.out _; (with_reducible repeat (first | refine kN ?_ _ | refine kD ?_ | refine kA ?_ _)); refine kF ?_ NB310_314.out _; (with_reducible repeat (first | refine kN ?_ _ | refine kD ?_ | refine kA ?_ _)); exact BK310.out⟩, ⟨by (with_reducible repeat (first | refine kN ?_ _ | refine kD ?_ | refine kA ?_ _)); refine blk_put (cs := #[.int .i64 t336, .int .i64 t331]) ?_ 1 _ rfl; (with_reducible repeat (first | refine kN ?_ _ | refine kD ?_ | refine kA ?_ _)); refine blk_put (cs := #[.int .i64 t330, .int .i64 t331]) ?_ 0 _ rfl; (with_reducible repeat (first | refine kN ?_ _ | refine kD ?_ | refine kA ?_ _)); exact BK314.out⟩, ⟨by repeat (first | (with_reducible first | exact HB.out | apply bA | apply bN | apply b1 | refine bS ?_ GE302.out | refine bS ?_ GE303.out | refine bS ?_ GE310.out | refine bS ?_ GE314.out) | exact HB.out)⟩⟩
           case rest =>
            clear HC150
            try clear c1
            try clear c2
            try clear p2
            try clear c3
            try clear c4
            try clear c5
            try clear c6
            try clear c7
            try clear c8
            try clear c9
            try clear c10
            try clear c11
            try clear c12
            try clear c13
            try clear c14
            try clear c15
            try clear c16
            try clear c17
            try clear c20
            try clear c21
            try clear c22
            try clear c23
            try clear c24
            try clear c25
            try clear c26
            try clear c29
            try clear c30
            try clear c31
            try clear c33
            try clear c34
            try clear c34b0
            try clear c34b1
            try clear c34b2
            try clear c35
            try clear c36
            try clear c37
            try clear c39
            try clear c40
            try clear c42
            try clear c43
            try clear c44
            try clear c46
            try clear c47
            try clear c52
            try clear c53
            try clear c54
            try clear c56
            try clear c57
            try clear c60
            try clear c66
            try clear c67
            try clear c67b0
            try clear c67b1
            try clear c67b2
            try clear c68
            try clear c69
            try clear c70
            try clear c72
            try clear c73
            try clear c75
            try clear c76
            try clear c77
            try clear c79
            try clear c80
            try clear c85
            try clear c86
            try clear c87
            try clear c89
            try clear c90
            try clear c93
            try clear c99
            try clear c100
            try clear c100b0
            try clear c100b1
            try clear c100b2
            try clear c101
            try clear c102
            try clear c103
            try clear c105
            try clear c106
            try clear c108
            try clear c109
            try clear c110
            try clear c112
            try clear c113
            try clear c118
            try clear c119
            try clear c120
            try clear c122
            try clear c123
            try clear c126
            try clear c132
            try clear c133
            try clear c133b0
            try clear c133b1
            try clear c133b2
            try clear c134
            try clear c135
            try clear c136
            try clear c138
            try clear c139
            try clear c141
            try clear c142
            try clear c143
            try clear c145
            try clear c146
            try clear c151
            try clear c152
            try clear c153
            try clear c155
            try clear c156
            try clear c159
            try clear c165
            try clear c166
            try clear c166b0
            try clear c166b1
            try clear c166b2
            try clear c167
            try clear c168
            try clear c169
            try clear c171
            try clear c172
            try clear c174
            try clear c175
            try clear c176
            try clear c178
            try clear c179
            try clear hcz104_0
            try clear hcz104_1
            try clear hcz107_0
            try clear hcz107_1
            try clear hcz111_0
            try clear hcz111_1
            try clear hcz114_0
            try clear hcz114_1
            try clear hcz121_0
            try clear hcz121_1
            try clear hcz124_0
            try clear hcz124_1
            try clear hcz127_0
            try clear hcz127_1
            try clear hcz128_0
            try clear hcz128_1
            try clear hcz129_0
            try clear hcz129_1
            try clear hcz131_0
            try clear hcz131_1
            try clear hcz137_0
            try clear hcz137_1
            try clear hcz140_0
            try clear hcz140_1
            try clear hcz144_0
            try clear hcz144_1
            try clear hcz147_0
            try clear hcz147_1
            try clear hcz154_0
            try clear hcz154_1
            try clear hcz157_0
            try clear hcz157_1
            try clear hcz160_0
            try clear hcz160_1
            try clear hcz161_0
            try clear hcz161_1
            try clear hcz162_0
            try clear hcz162_1
            try clear hcz164_0
            try clear hcz164_1
            try clear hcz170_0
            try clear hcz170_1
            try clear hcz173_0
            try clear hcz173_1
            try clear hcz177_0
            try clear hcz177_1
            try clear hcz180_0
            try clear hcz180_1
            try clear hcz26_0
            try clear hcz26_1
            try clear hcz32_0
            try clear hcz32_1
            try clear hcz38_0
            try clear hcz38_1
            try clear hcz41_0
            try clear hcz41_1
            try clear hcz45_0
            try clear hcz45_1
            try clear hcz48_0
            try clear hcz48_1
            try clear hcz55_0
            try clear hcz55_1
            try clear hcz58_0
            try clear hcz58_1
            try clear hcz61_0
            try clear hcz61_1
            try clear hcz62_0
            try clear hcz62_1
            try clear hcz63_0
            try clear hcz63_1
            try clear hcz65_0
            try clear hcz65_1
            try clear hcz71_0
            try clear hcz71_1
            try clear hcz74_0
            try clear hcz74_1
            try clear hcz78_0
            try clear hcz78_1
            try clear hcz81_0
            try clear hcz81_1
            try clear hcz88_0
            try clear hcz88_1
            try clear hcz91_0
            try clear hcz91_1
            try clear hcz94_0
            try clear hcz94_1
            try clear hcz95_0
            try clear hcz95_1
            try clear hcz96_0
            try clear hcz96_1
            try clear hcz98_0
            try clear hcz98_1
            try clear hfz104_0
            try clear hfz104_1
            try clear hfz107_0
            try clear hfz107_1
            try clear hfz111_0
            try clear hfz111_1
            try clear hfz114_0
            try clear hfz114_1
            try clear hfz121_0
            try clear hfz121_1
            try clear hfz124_0
            try clear hfz124_1
            try clear hfz127_0
            try clear hfz127_1
            try clear hfz128_0
            try clear hfz128_1
            try clear hfz129_0
            try clear hfz129_1
            try clear hfz131_0
            try clear hfz131_1
            try clear hfz137_0
            try clear hfz137_1
            try clear hfz140_0
            try clear hfz140_1
            try clear hfz144_0
            try clear hfz144_1
            try clear hfz147_0
            try clear hfz147_1
            try clear hfz154_0
            try clear hfz154_1
            try clear hfz157_0
            try clear hfz157_1
            try clear hfz160_0
            try clear hfz160_1
            try clear hfz161_0
            try clear hfz161_1
            try clear hfz162_0
            try clear hfz162_1
            try clear hfz164_0
            try clear hfz164_1
            try clear hfz170_0
            try clear hfz170_1
            try clear hfz173_0
            try clear hfz173_1
            try clear hfz177_0
            try clear hfz177_1
            try clear hfz180_0
            try clear hfz180_1
            try clear hfz26_0
            try clear hfz26_1
            try clear hfz32_0
            try clear hfz32_1
            try clear hfz38_0
            try clear hfz38_1
            try clear hfz41_0
            try clear hfz41_1
            try clear hfz45_0
            try clear hfz45_1
            try clear hfz48_0
            try clear hfz48_1
            try clear hfz55_0
            try clear hfz55_1
            try clear hfz58_0
            try clear hfz58_1
            try clear hfz61_0
            try clear hfz61_1
            try clear hfz62_0
            try clear hfz62_1
            try clear hfz63_0
            try clear hfz63_1
            try clear hfz65_0
            try clear hfz65_1
            try clear hfz71_0
            try clear hfz71_1
            try clear hfz74_0
            try clear hfz74_1
            try clear hfz78_0
            try clear hfz78_1
            try clear hfz81_0
            try clear hfz81_1
            try clear hfz88_0
            try clear hfz88_1
            try clear hfz91_0
            try clear hfz91_1
            try clear hfz94_0
            try clear hfz94_1
            try clear hfz95_0
            try clear hfz95_1
            try clear hfz96_0
            try clear hfz96_1
            try clear hfz98_0
            try clear hfz98_1
            try clear p2
            obtain ⟨kq, x11_149, rfl, HA, HJ149, BK302, BK303, BK310, BK314, HB⟩ := hcut
            cases kq with
            | zero => exact absurd HA.out (by simp [cohousinglaw01_RationalMatchesReference.j5])
            | succ kj149 =>
             have H := HA.out
             clear HA
             simp only [cohousinglaw01_RationalMatchesReference.j5] at H
             replace H := Option.bind_eq_some_iff.mp H
             obtain ⟨⟨t339, t340⟩, A1810, H⟩ := H
             replace H : ((cohousingref01_Compare.f kj149 a0_0 a0_1 a1_0 a1_1).bind fun bt341 => (if x11_149 = true then (if t339 = bt341.1 then (cohousinglaw01_RationalMatchesReference.j6 kj149 a4 (t340 == bt341.2) a0_0 a0_1) else (cohousinglaw01_RationalMatchesReference.j6 kj149 a4 false a0_0 a0_1)) else (cohousinglaw01_RationalMatchesReference.j6 kj149 a4 false a0_0 a0_1))) = some r := H
             have A181 := Aside0.mk A1810
             clear A1810
             replace H := Option.bind_eq_some_iff.mp H
             obtain ⟨⟨t341, t342⟩, A1820, H⟩ := H
             replace H : (if x11_149 = true then (if t339 = t341 then (cohousinglaw01_RationalMatchesReference.j6 kj149 a4 (t340 == t342) a0_0 a0_1) else (cohousinglaw01_RationalMatchesReference.j6 kj149 a4 false a0_0 a0_1)) else (cohousinglaw01_RationalMatchesReference.j6 kj149 a4 false a0_0 a0_1)) = some r := H
             have A182 := Aside0.mk A1820
             clear A1820
             have HC183 := Aside0.mk H
             clear H
             have hnb184 := NB302_303.out
             have hnc184 := NB303_302.out
             have hnb185 := NB302_310.out
             have hnc185 := NB310_302.out
             have hnb186 := NB302_314.out
             have hnc186 := NB314_302.out
             have hcz187_0 : wc.cell? ⟨gb302, 0, none⟩ = some (.int .i64 a0_0) := (kC BK302.out 0).trans rfl
             have hcz187_1 : wc.cell? ⟨gb302, 1, none⟩ = some (.int .i64 a0_1) := (kC BK302.out 1).trans rfl
             have hfz187_0 := blk_frozen BK302.out 0
             have hfz187_1 := blk_frozen BK302.out 1
             have hnb188 := NB303_310.out
             have hnc188 := NB310_303.out
             have hnb189 := NB303_314.out
             have hnc189 := NB314_303.out
             have hcz190_0 : wc.cell? ⟨gb303, 0, none⟩ = some (.int .i64 a1_0) := (kC BK303.out 0).trans rfl
             have hcz190_1 : wc.cell? ⟨gb303, 1, none⟩ = some (.int .i64 a1_1) := (kC BK303.out 1).trans rfl
             have hfz190_0 := blk_frozen BK303.out 0
             have hfz190_1 := blk_frozen BK303.out 1
             go_upto_region 19 with (first | ((with_reducible refine gate_callee (f := 27) rfl ?_); refine goesL_ (some 148) rfl rfl Tryd.func27 (by kernel_rfl) rfl #[.agg #[.int .i64 a0_0, .int .i64 a0_1], .agg #[.int .i64 a1_0, .int .i64 a1_1]] rfl (by (try simp only [List.map_toArray, List.map_cons, List.map_nil]); first | done | rfl | (simp only [List.length_drop, List.length_take]; rfl)) ?_; (with_reducible refine (rational_Compare.calls kj149 a0_0 a0_1 a1_0 a1_1 t339 t340 _ A181.out).mono ?_); rintro e w191 ⟨rfl, hb⟩; refine ⟨_, rfl, ?_⟩; have n0_ := Aside0.mk (kB (g := gb302) (o := .cells #[.int .i64 a0_0, .int .i64 a0_1] 24 (0, 0)) (by (with_reducible repeat (first | refine kN ?_ _ | refine kD ?_ | refine kA ?_ _)); exact BK302.out) hb); have n1_ := Aside0.mk (kB (g := gb303) (o := .cells #[.int .i64 a1_0, .int .i64 a1_1] 24 (0, 0)) (by (with_reducible repeat (first | refine kN ?_ _ | refine kD ?_ | refine kA ?_ _)); exact BK303.out) hb); have n2_ := Aside0.mk (kB (g := gb310) (o := .cells #[.int .i64 t333, .int .i64 t334] 24 (0, 0)) (by (with_reducible repeat (first | refine kN ?_ _ | refine kD ?_ | refine kA ?_ _)); exact BK310.out) hb); have n3_ := Aside0.mk (kB (g := gb314) (o := .cells #[.int .i64 t336, .int .i64 t337] 24 (0, 0)) (by (with_reducible repeat (first | refine kN ?_ _ | refine kD ?_ | refine kA ?_ _)); exact BK314.out) hb); have n4_ := Aside0.mk (bT (by repeat (first | (with_reducible first | exact HB.out | apply bA | apply bN | apply b1 | refine bS ?_ GE302.out | refine bS ?_ GE303.out | refine bS ?_ GE310.out | refine bS ?_ GE314.out) | exact HB.out)) hb); clear BK302; clear BK303; clear BK310; clear BK314; clear HB; have BK302 := n0_; have BK303 := n1_; have BK310 := n2_; have BK314 := n3_; have HB := n4_; clear n0_ n1_ n2_ n3_ n4_; (try clear hb); (try clear hb2); (try clear hk); (try clear hi); have hcz192_0 : w191.cell? ⟨gb302, 0, none⟩ = some (.int .i64 a0_0) := (kC BK302.out 0).trans rfl; have hcz192_1 : w191.cell? ⟨gb302, 1, none⟩ = some (.int .i64 a0_1) := (kC BK302.out 1).trans rfl; have hfz192_0 := blk_frozen BK302.out 0; have hfz192_1 := blk_frozen BK302.out 1; have hcz193_0 : w191.cell? ⟨gb303, 0, none⟩ = some (.int .i64 a1_0) := (kC BK303.out 0).trans rfl; have hcz193_1 : w191.cell? ⟨gb303, 1, none⟩ = some (.int .i64 a1_1) := (kC BK303.out 1).trans rfl; have hfz193_0 := blk_frozen BK303.out 0; have hfz193_1 := blk_frozen BK303.out 1) | ((with_reducible refine gate_callee (f := 28) rfl ?_); refine goesL_ (some 154) rfl rfl Tryd.func28 (by kernel_rfl) rfl #[.agg #[.int .i64 a0_0, .int .i64 a0_1], .agg #[.int .i64 a1_0, .int .i64 a1_1]] rfl (by (try simp only [List.map_toArray, List.map_cons, List.map_nil]); first | done | rfl | (simp only [List.length_drop, List.length_take]; rfl)) ?_; (with_reducible refine (cohousingref01_Compare.calls kj149 a0_0 a0_1 a1_0 a1_1 t341 t342 _ A182.out).mono ?_); rintro e w194 ⟨rfl, hb⟩; refine ⟨_, rfl, ?_⟩; have n0_ := Aside0.mk (kB (g := gb302) (o := .cells #[.int .i64 a0_0, .int .i64 a0_1] 24 (0, 0)) (by (with_reducible repeat (first | refine kN ?_ _ | refine kD ?_ | refine kA ?_ _)); exact BK302.out) hb); have n1_ := Aside0.mk (kB (g := gb303) (o := .cells #[.int .i64 a1_0, .int .i64 a1_1] 24 (0, 0)) (by (with_reducible repeat (first | refine kN ?_ _ | refine kD ?_ | refine kA ?_ _)); exact BK303.out) hb); have n2_ := Aside0.mk (kB (g := gb310) (o := .cells #[.int .i64 t333, .int .i64 t334] 24 (0, 0)) (by (with_reducible repeat (first | refine kN ?_ _ | refine kD ?_ | refine kA ?_ _)); exact BK310.out) hb); have n3_ := Aside0.mk (kB (g := gb314) (o := .cells #[.int .i64 t336, .int .i64 t337] 24 (0, 0)) (by (with_reducible repeat (first | refine kN ?_ _ | refine kD ?_ | refine kA ?_ _)); exact BK314.out) hb); have n4_ := Aside0.mk (bT (by repeat (first | (with_reducible first | exact HB.out | apply bA | apply bN | apply b1 | refine bS ?_ GE302.out | refine bS ?_ GE303.out | refine bS ?_ GE310.out | refine bS ?_ GE314.out) | exact HB.out)) hb); clear BK302; clear BK303; clear BK310; clear BK314; clear HB; have BK302 := n0_; have BK303 := n1_; have BK310 := n2_; have BK314 := n3_; have HB := n4_; clear n0_ n1_ n2_ n3_ n4_; (try clear hb); (try clear hb2); (try clear hk); (try clear hi)))
             (try simp only [Act.put, List.setIfInBounds_toArray, List.set_cons_zero, List.set_cons_succ])
             go_cut [11] (fun v11 wc => ∃ (kq : Nat) (x11_182 : Bool), v11 = .bool x11_182 ∧ Aside0 (cohousinglaw01_RationalMatchesReference.j6 kq a4 x11_182 a0_0 a0_1 = some r) ∧ Aside0 (kq ≤ kj149) ∧ Aside0 (wc.heap[gb302]? = some (.cells #[.int .i64 a0_0, .int .i64 a0_1] 24 (0, 0))) ∧ Aside0 (wc.heap[gb303]? = some (.cells #[.int .i64 a1_0, .int .i64 a1_1] 24 (0, 0))) ∧ Aside0 (wc.heap[gb310]? = some (.cells #[.int .i64 t333, .int .i64 t334] 24 (0, 0))) ∧ Aside0 (wc.heap[gb314]? = some (.cells #[.int .i64 t336, .int .i64 t337] 24 (0, 0))) ∧ Aside0 (Below w.heap.size w wc))
             case first =>
              have H := HC183.out
              clear HC183
              by_cases c195 : x11_149 = true
              ·subst c195
               have H1 : (if t339 = t341 then (cohousinglaw01_RationalMatchesReference.j6 kj149 a4 (t340 == t342) a0_0 a0_1) else (cohousinglaw01_RationalMatchesReference.j6 kj149 a4 false a0_0 a0_1)) = some r := by rw [if_pos rfl] at H; exact H
               clear H
               have H := H1
               clear H1
               by_cases c196 : t339 = t341
               ·rw [if_pos c196] at H
                have c196b0 : (t339 == t341) = true := beq_iff_eq.mpr c196
                have c196b1 : (t339 != t341) = false := bne_eq_false_iff_eq.mpr c196
                clear c196
                (first | rw [c196b0] | (simp only [i64_w, i32_w]; rw [c196b0]) | skip)
                as_aux_lemma =>
                 have H' := Aside0.mk H
                 clear H
                 go_wp2
                 go_meet
                 case rel => exact ⟨_, ((t340 == t342)), (by first | rfl | (simp; done) | (simp [*]; done)), H', ⟨by have := HJ5.out; have := HJ20.out; have := HJ50.out; have := HJ83.out; have := HJ116.out; have := HJ149.out; first | omega | exact Nat.le_refl _⟩, ⟨by (with_reducible repeat (first | refine kN ?_ _ | refine kD ?_ | refine kA ?_ _)); exact BK302.out⟩, ⟨by (with_reducible repeat (first | refine kN ?_ _ | refine kD ?_ | refine kA ?_ _)); exact BK303.out⟩, ⟨by (with_reducible repeat (first | refine kN ?_ _ | refine kD ?_ | refine kA ?_ _)); exact BK310.out⟩, ⟨by (with_reducible repeat (first | refine kN ?_ _ | refine kD ?_ | refine kA ?_ _)); exact BK314.out⟩, ⟨by repeat (first | (with_reducible first | exact HB.out | apply bA | apply bN | apply b1 | refine bS ?_ GE302.out | refine bS ?_ GE303.out | refine bS ?_ GE310.out | refine bS ?_ GE314.out) | exact HB.out)⟩⟩
               ·rw [if_neg c196] at H
                have c196b0 : (t339 == t341) = false := beq_eq_false_iff_ne.mpr c196
                have c196b1 : (t339 != t341) = true := bne_iff_ne.mpr c196
                (first | rw [c196b0] | (simp only [i64_w, i32_w]; rw [c196b0]) | skip)
                as_aux_lemma =>
                 have H' := Aside0.mk H
                 clear H
                 go_wp2
                 go_meet
                 case rel => exact ⟨_, (false), (by first | rfl | (simp; done) | (simp [*]; done)), H', ⟨by have := HJ5.out; have := HJ20.out; have := HJ50.out; have := HJ83.out; have := HJ116.out; have := HJ149.out; first | omega | exact Nat.le_refl _⟩, ⟨by (with_reducible repeat (first | refine kN ?_ _ | refine kD ?_ | refine kA ?_ _)); exact BK302.out⟩, ⟨by (with_reducible repeat (first | refine kN ?_ _ | refine kD ?_ | refine kA ?_ _)); exact BK303.out⟩, ⟨by (with_reducible repeat (first | refine kN ?_ _ | refine kD ?_ | refine kA ?_ _)); exact BK310.out⟩, ⟨by (with_reducible repeat (first | refine kN ?_ _ | refine kD ?_ | refine kA ?_ _)); exact BK314.out⟩, ⟨by repeat (first | (with_reducible first | exact HB.out | apply bA | apply bN | apply b1 | refine bS ?_ GE302.out | refine bS ?_ GE303.out | refine bS ?_ GE310.out | refine bS ?_ GE314.out) | exact HB.out)⟩⟩
              ·replace c195 := Bool.eq_false_iff.mpr c195
               subst c195
               have H1 : (cohousinglaw01_RationalMatchesReference.j6 kj149 a4 false a0_0 a0_1) = some r := by rw [if_neg (show ¬ (false = true) by decide)] at H; exact H
               clear H
               have H := H1
               clear H1
               as_aux_lemma =>
                have H' := Aside0.mk H
                clear H
                go_wp2
                go_meet
                case rel => exact ⟨_, (false), (by first | rfl | (simp; done) | (simp [*]; done)), H', ⟨by have := HJ5.out; have := HJ20.out; have := HJ50.out; have := HJ83.out; have := HJ116.out; have := HJ149.out; first | omega | exact Nat.le_refl _⟩, ⟨by (with_reducible repeat (first | refine kN ?_ _ | refine kD ?_ | refine kA ?_ _)); exact BK302.out⟩, ⟨by (with_reducible repeat (first | refine kN ?_ _ | refine kD ?_ | refine kA ?_ _)); exact BK303.out⟩, ⟨by (with_reducible repeat (first | refine kN ?_ _ | refine kD ?_ | refine kA ?_ _)); exact BK310.out⟩, ⟨by (with_reducible repeat (first | refine kN ?_ _ | refine kD ?_ | refine kA ?_ _)); exact BK314.out⟩, ⟨by repeat (first | (with_reducible first | exact HB.out | apply bA | apply bN | apply b1 | refine bS ?_ GE302.out | refine bS ?_ GE303.out | refine bS ?_ GE310.out | refine bS ?_ GE314.out) | exact HB.out)⟩⟩
             case rest =>
              clear HC183
              try clear c1
              try clear c2
              try clear p2
              try clear c3
              try clear c4
              try clear c5
              try clear c6
              try clear c7
              try clear c8
              try clear c9
              try clear c10
              try clear c11
              try clear c12
              try clear c13
              try clear c14
              try clear c15
              try clear c16
              try clear c17
              try clear c18
              try clear c19
              try clear c20
              try clear c21
              try clear c22
              try clear c23
              try clear c24
              try clear c25
              try clear c26
              try clear c27
              try clear c28
              try clear c29
              try clear c30
              try clear c31
              try clear c33
              try clear c34
              try clear c34b0
              try clear c34b1
              try clear c34b2
              try clear c35
              try clear c36
              try clear c37
              try clear c39
              try clear c40
              try clear c42
              try clear c43
              try clear c44
              try clear c46
              try clear c47
              try clear c52
              try clear c53
              try clear c54
              try clear c56
              try clear c57
              try clear c60
              try clear c66
              try clear c67
              try clear c67b0
              try clear c67b1
              try clear c67b2
              try clear c68
              try clear c69
              try clear c70
              try clear c72
              try clear c73
              try clear c75
              try clear c76
              try clear c77
              try clear c79
              try clear c80
              try clear c85
              try clear c86
              try clear c87
              try clear c89
              try clear c90
              try clear c93
              try clear c99
              try clear c100
              try clear c100b0
              try clear c100b1
              try clear c100b2
              try clear c101
              try clear c102
              try clear c103
              try clear c105
              try clear c106
              try clear c108
              try clear c109
              try clear c110
              try clear c112
              try clear c113
              try clear c118
              try clear c119
              try clear c120
              try clear c122
              try clear c123
              try clear c126
              try clear c132
              try clear c133
              try clear c133b0
              try clear c133b1
              try clear c133b2
              try clear c134
              try clear c135
              try clear c136
              try clear c138
              try clear c139
              try clear c141
              try clear c142
              try clear c143
              try clear c145
              try clear c146
              try clear c151
              try clear c152
              try clear c153
              try clear c155
              try clear c156
              try clear c159
              try clear c165
              try clear c166
              try clear c166b0
              try clear c166b1
              try clear c166b2
              try clear c167
              try clear c168
              try clear c169
              try clear c171
              try clear c172
              try clear c174
              try clear c175
              try clear c176
              try clear c178
              try clear c179
              try clear c184
              try clear c185
              try clear c186
              try clear c188
              try clear c189
              try clear c195
              try clear c196
              try clear c196b0
              try clear c196b1
              try clear hcz104_0
              try clear hcz104_1
              try clear hcz107_0
              try clear hcz107_1
              try clear hcz111_0
              try clear hcz111_1
              try clear hcz114_0
              try clear hcz114_1
              try clear hcz121_0
              try clear hcz121_1
              try clear hcz124_0
              try clear hcz124_1
              try clear hcz127_0
              try clear hcz127_1
              try clear hcz128_0
              try clear hcz128_1
              try clear hcz129_0
              try clear hcz129_1
              try clear hcz131_0
              try clear hcz131_1
              try clear hcz137_0
              try clear hcz137_1
              try clear hcz140_0
              try clear hcz140_1
              try clear hcz144_0
              try clear hcz144_1
              try clear hcz147_0
              try clear hcz147_1
              try clear hcz154_0
              try clear hcz154_1
              try clear hcz157_0
              try clear hcz157_1
              try clear hcz160_0
              try clear hcz160_1
              try clear hcz161_0
              try clear hcz161_1
              try clear hcz162_0
              try clear hcz162_1
              try clear hcz164_0
              try clear hcz164_1
              try clear hcz170_0
              try clear hcz170_1
              try clear hcz173_0
              try clear hcz173_1
              try clear hcz177_0
              try clear hcz177_1
              try clear hcz180_0
              try clear hcz180_1
              try clear hcz187_0
              try clear hcz187_1
              try clear hcz190_0
              try clear hcz190_1
              try clear hcz192_0
              try clear hcz192_1
              try clear hcz193_0
              try clear hcz193_1
              try clear hcz26_0
              try clear hcz26_1
              try clear hcz32_0
              try clear hcz32_1
              try clear hcz38_0
              try clear hcz38_1
              try clear hcz41_0
              try clear hcz41_1
              try clear hcz45_0
              try clear hcz45_1
              try clear hcz48_0
              try clear hcz48_1
              try clear hcz55_0
              try clear hcz55_1
              try clear hcz58_0
              try clear hcz58_1
              try clear hcz61_0
              try clear hcz61_1
              try clear hcz62_0
              try clear hcz62_1
              try clear hcz63_0
              try clear hcz63_1
              try clear hcz65_0
              try clear hcz65_1
              try clear hcz71_0
              try clear hcz71_1
              try clear hcz74_0
              try clear hcz74_1
              try clear hcz78_0
              try clear hcz78_1
              try clear hcz81_0
              try clear hcz81_1
              try clear hcz88_0
              try clear hcz88_1
              try clear hcz91_0
              try clear hcz91_1
              try clear hcz94_0
              try clear hcz94_1
              try clear hcz95_0
              try clear hcz95_1
              try clear hcz96_0
              try clear hcz96_1
              try clear hcz98_0
              try clear hcz98_1
              try clear hfz104_0
              try clear hfz104_1
              try clear hfz107_0
              try clear hfz107_1
              try clear hfz111_0
              try clear hfz111_1
              try clear hfz114_0
              try clear hfz114_1
              try clear hfz121_0
              try clear hfz121_1
              try clear hfz124_0
              try clear hfz124_1
              try clear hfz127_0
              try clear hfz127_1
              try clear hfz128_0
              try clear hfz128_1
              try clear hfz129_0
              try clear hfz129_1
              try clear hfz131_0
              try clear hfz131_1
              try clear hfz137_0
              try clear hfz137_1
              try clear hfz140_0
              try clear hfz140_1
              try clear hfz144_0
              try clear hfz144_1
              try clear hfz147_0
              try clear hfz147_1
              try clear hfz154_0
              try clear hfz154_1
              try clear hfz157_0
              try clear hfz157_1
              try clear hfz160_0
              try clear hfz160_1
              try clear hfz161_0
              try clear hfz161_1
              try clear hfz162_0
              try clear hfz162_1
              try clear hfz164_0
              try clear hfz164_1
              try clear hfz170_0
              try clear hfz170_1
              try clear hfz173_0
              try clear hfz173_1
              try clear hfz177_0
              try clear hfz177_1
              try clear hfz180_0
              try clear hfz180_1
              try clear hfz187_0
              try clear hfz187_1
              try clear hfz190_0
              try clear hfz190_1
              try clear hfz192_0
              try clear hfz192_1
              try clear hfz193_0
              try clear hfz193_1
              try clear hfz26_0
              try clear hfz26_1
              try clear hfz32_0
              try clear hfz32_1
              try clear hfz38_0
              try clear hfz38_1
              try clear hfz41_0
              try clear hfz41_1
              try clear hfz45_0
              try clear hfz45_1
              try clear hfz48_0
              try clear hfz48_1
              try clear hfz55_0
              try clear hfz55_1
              try clear hfz58_0
              try clear hfz58_1
              try clear hfz61_0
              try clear hfz61_1
              try clear hfz62_0
              try clear hfz62_1
              try clear hfz63_0
              try clear hfz63_1
              try clear hfz65_0
              try clear hfz65_1
              try clear hfz71_0
              try clear hfz71_1
              try clear hfz74_0
              try clear hfz74_1
              try clear hfz78_0
              try clear hfz78_1
              try clear hfz81_0
              try clear hfz81_1
              try clear hfz88_0
              try clear hfz88_1
              try clear hfz91_0
              try clear hfz91_1
              try clear hfz94_0
              try clear hfz94_1
              try clear hfz95_0
              try clear hfz95_1
              try clear hfz96_0
              try clear hfz96_1
              try clear hfz98_0
              try clear hfz98_1
              try clear p2
              obtain ⟨kq, x11_182, rfl, HA, HJ182, BK302, BK303, BK310, BK314, HB⟩ := hcut
              cases kq with
              | zero => exact absurd HA.out (by simp [cohousinglaw01_RationalMatchesReference.j6])
              | succ kj182 =>
               have H := HA.out
               clear HA
               simp only [cohousinglaw01_RationalMatchesReference.j6] at H
               replace H := Option.bind_eq_some_iff.mp H
               obtain ⟨⟨t343, t344⟩, A1970, H⟩ := H
               replace H : ((cohousingref01_Floor.f kj182 a0_0 a0_1).bind fun bt345 => (if x11_182 = true then (if t343 = bt345.1 then (cohousinglaw01_RationalMatchesReference.j7 kj182 a4 (t344 == bt345.2) a0_0 a0_1) else (cohousinglaw01_RationalMatchesReference.j7 kj182 a4 false a0_0 a0_1)) else (cohousinglaw01_RationalMatchesReference.j7 kj182 a4 false a0_0 a0_1))) = some r := H
               have A197 := Aside0.mk A1970
               clear A1970
               replace H := Option.bind_eq_some_iff.mp H
               obtain ⟨⟨t345, t346⟩, A1980, H⟩ := H
               replace H : (if x11_182 = true then (if t343 = t345 then (cohousinglaw01_RationalMatchesReference.j7 kj182 a4 (t344 == t346) a0_0 a0_1) else (cohousinglaw01_RationalMatchesReference.j7 kj182 a4 false a0_0 a0_1)) else (cohousinglaw01_RationalMatchesReference.j7 kj182 a4 false a0_0 a0_1)) = some r := H
               have A198 := Aside0.mk A1980
               clear A1980
               have HC199 := Aside0.mk H
               clear H
               have hnb200 := NB302_303.out
               have hnc200 := NB303_302.out
               have hnb201 := NB302_310.out
               have hnc201 := NB310_302.out
               have hnb202 := NB302_314.out
               have hnc202 := NB314_302.out
               have hcz203_0 : wc.cell? ⟨gb302, 0, none⟩ = some (.int .i64 a0_0) := (kC BK302.out 0).trans rfl
               have hcz203_1 : wc.cell? ⟨gb302, 1, none⟩ = some (.int .i64 a0_1) := (kC BK302.out 1).trans rfl
               have hfz203_0 := blk_frozen BK302.out 0
               have hfz203_1 := blk_frozen BK302.out 1
               go_upto_region 22 with (first | ((with_reducible refine gate_callee (f := 29) rfl ?_); refine goesL_ (some 170) rfl rfl Tryd.func29 (by kernel_rfl) rfl #[.agg #[.int .i64 a0_0, .int .i64 a0_1]] rfl (by (try simp only [List.map_toArray, List.map_cons, List.map_nil]); first | done | rfl | (simp only [List.length_drop, List.length_take]; rfl)) ?_; (with_reducible refine (rational_Floor.calls a0_0 a0_1 t343 t344 _ A197.out).mono ?_); rintro e w204 ⟨rfl, hb⟩; refine ⟨_, rfl, ?_⟩; have n0_ := Aside0.mk (kB (g := gb302) (o := .cells #[.int .i64 a0_0, .int .i64 a0_1] 24 (0, 0)) (by (with_reducible repeat (first | refine kN ?_ _ | refine kD ?_ | refine kA ?_ _)); exact BK302.out) hb); have n1_ := Aside0.mk (kB (g := gb303) (o := .cells #[.int .i64 a1_0, .int .i64 a1_1] 24 (0, 0)) (by (with_reducible repeat (first | refine kN ?_ _ | refine kD ?_ | refine kA ?_ _)); exact BK303.out) hb); have n2_ := Aside0.mk (kB (g := gb310) (o := .cells #[.int .i64 t333, .int .i64 t334] 24 (0, 0)) (by (with_reducible repeat (first | refine kN ?_ _ | refine kD ?_ | refine kA ?_ _)); exact BK310.out) hb); have n3_ := Aside0.mk (kB (g := gb314) (o := .cells #[.int .i64 t336, .int .i64 t337] 24 (0, 0)) (by (with_reducible repeat (first | refine kN ?_ _ | refine kD ?_ | refine kA ?_ _)); exact BK314.out) hb); have n4_ := Aside0.mk (bT (by repeat (first | (with_reducible first | exact HB.out | apply bA | apply bN | apply b1 | refine bS ?_ GE302.out | refine bS ?_ GE303.out | refine bS ?_ GE310.out | refine bS ?_ GE314.out) | exact HB.out)) hb); clear BK302; clear BK303; clear BK310; clear BK314; clear HB; have BK302 := n0_; have BK303 := n1_; have BK310 := n2_; have BK314 := n3_; have HB := n4_; clear n0_ n1_ n2_ n3_ n4_; (try clear hb); (try clear hb2); (try clear hk); (try clear hi); have hcz205_0 : w204.cell? ⟨gb302, 0, none⟩ = some (.int .i64 a0_0) := (kC BK302.out 0).trans rfl; have hcz205_1 : w204.cell? ⟨gb302, 1, none⟩ = some (.int .i64 a0_1) := (kC BK302.out 1).trans rfl; have hfz205_0 := blk_frozen BK302.out 0; have hfz205_1 := blk_frozen BK302.out 1) | ((with_reducible refine gate_callee (f := 30) rfl ?_); refine goesL_ (some 175) rfl rfl Tryd.func30 (by kernel_rfl) rfl #[.agg #[.int .i64 a0_0, .int .i64 a0_1]] rfl (by (try simp only [List.map_toArray, List.map_cons, List.map_nil]); first | done | rfl | (simp only [List.length_drop, List.length_take]; rfl)) ?_; (with_reducible refine (cohousingref01_Floor.calls kj182 a0_0 a0_1 t345 t346 _ A198.out).mono ?_); rintro e w206 ⟨rfl, hb⟩; refine ⟨_, rfl, ?_⟩; have n0_ := Aside0.mk (kB (g := gb302) (o := .cells #[.int .i64 a0_0, .int .i64 a0_1] 24 (0, 0)) (by (with_reducible repeat (first | refine kN ?_ _ | refine kD ?_ | refine kA ?_ _)); exact BK302.out) hb); have n1_ := Aside0.mk (kB (g := gb303) (o := .cells #[.int .i64 a1_0, .int .i64 a1_1] 24 (0, 0)) (by (with_reducible repeat (first | refine kN ?_ _ | refine kD ?_ | refine kA ?_ _)); exact BK303.out) hb); have n2_ := Aside0.mk (kB (g := gb310) (o := .cells #[.int .i64 t333, .int .i64 t334] 24 (0, 0)) (by (with_reducible repeat (first | refine kN ?_ _ | refine kD ?_ | refine kA ?_ _)); exact BK310.out) hb); have n3_ := Aside0.mk (kB (g := gb314) (o := .cells #[.int .i64 t336, .int .i64 t337] 24 (0, 0)) (by (with_reducible repeat (first | refine kN ?_ _ | refine kD ?_ | refine kA ?_ _)); exact BK314.out) hb); have n4_ := Aside0.mk (bT (by repeat (first | (with_reducible first | exact HB.out | apply bA | apply bN | apply b1 | refine bS ?_ GE302.out | refine bS ?_ GE303.out | refine bS ?_ GE310.out | refine bS ?_ GE314.out) | exact HB.out)) hb); clear BK302; clear BK303; clear BK310; clear BK314; clear HB; have BK302 := n0_; have BK303 := n1_; have BK310 := n2_; have BK314 := n3_; have HB := n4_; clear n0_ n1_ n2_ n3_ n4_; (try clear hb); (try clear hb2); (try clear hk); (try clear hi)))
               (try simp only [Act.put, List.setIfInBounds_toArray, List.set_cons_zero, List.set_cons_succ])
               go_cut [11] (fun v11 wc => ∃ (kq : Nat) (x11_198 : Bool), v11 = .bool x11_198 ∧ Aside0 (cohousinglaw01_RationalMatchesReference.j7 kq a4 x11_198 a0_0 a0_1 = some r) ∧ Aside0 (kq ≤ kj182) ∧ Aside0 (wc.heap[gb302]? = some (.cells #[.int .i64 a0_0, .int .i64 a0_1] 24 (0, 0))) ∧ Aside0 (wc.heap[gb303]? = some (.cells #[.int .i64 a1_0, .int .i64 a1_1] 24 (0, 0))) ∧ Aside0 (wc.heap[gb310]? = some (.cells #[.int .i64 t333, .int .i64 t334] 24 (0, 0))) ∧ Aside0 (wc.heap[gb314]? = some (.cells #[.int .i64 t336, .int .i64 t337] 24 (0, 0))) ∧ Aside0 (Below w.heap.size w wc))
               case first =>
                have H := HC199.out
                clear HC199
                by_cases c207 : x11_182 = true
                ·subst c207
                 have H1 : (if t343 = t345 then (cohousinglaw01_RationalMatchesReference.j7 kj182 a4 (t344 == t346) a0_0 a0_1) else (cohousinglaw01_RationalMatchesReference.j7 kj182 a4 false a0_0 a0_1)) = some r := by rw [if_pos rfl] at H; exact H
                 clear H
                 have H := H1
                 clear H1
                 by_cases c208 : t343 = t345
                 ·rw [if_pos c208] at H
                  have c208b0 : (t343 == t345) = true := beq_iff_eq.mpr c208
                  have c208b1 : (t343 != t345) = false := bne_eq_false_iff_eq.mpr c208
                  clear c208
                  (first | rw [c208b0] | (simp only [i64_w, i32_w]; rw [c208b0]) | skip)
                  as_aux_lemma =>
                   have H' := Aside0.mk H
                   clear H
                   go_wp2
                   go_meet
                   case rel => exact ⟨_, ((t344 == t346)), (by first | rfl | (simp; done) | (simp [*]; done)), H', ⟨by have := HJ5.out; have := HJ20.out; have := HJ50.out; have := HJ83.out; have := HJ116.out; have := HJ149.out; have := HJ182.out; first | omega | exact Nat.le_refl _⟩, ⟨by (with_reducible repeat (first | refine kN ?_ _ | refine kD ?_ | refine kA ?_ _)); exact BK302.out⟩, ⟨by (with_reducible repeat (first | refine kN ?_ _ | refine kD ?_ | refine kA ?_ _)); exact BK303.out⟩, ⟨by (with_reducible repeat (first | refine kN ?_ _ | refine kD ?_ | refine kA ?_ _)); exact BK310.out⟩, ⟨by (with_reducible repeat (first | refine kN ?_ _ | refine kD ?_ | refine kA ?_ _)); exact BK314.out⟩, ⟨by repeat (first | (with_reducible first | exact HB.out | apply bA | apply bN | apply b1 | refine bS ?_ GE302.out | refine bS ?_ GE303.out | refine bS ?_ GE310.out | refine bS ?_ GE314.out) | exact HB.out)⟩⟩
                 ·rw [if_neg c208] at H
                  have c208b0 : (t343 == t345) = false := beq_eq_false_iff_ne.mpr c208
                  have c208b1 : (t343 != t345) = true := bne_iff_ne.mpr c208
                  (first | rw [c208b0] | (simp only [i64_w, i32_w]; rw [c208b0]) | skip)
                  as_aux_lemma =>
                   have H' := Aside0.mk H
                   clear H
                   go_wp2
                   go_meet
                   case rel => exact ⟨_, (false), (by first | rfl | (simp; done) | (simp [*]; done)), H', ⟨by have := HJ5.out; have := HJ20.out; have := HJ50.out; have := HJ83.out; have := HJ116.out; have := HJ149.out; have := HJ182.out; first | omega | exact Nat.le_refl _⟩, ⟨by (with_reducible repeat (first | refine kN ?_ _ | refine kD ?_ | refine kA ?_ _)); exact BK302.out⟩, ⟨by (with_reducible repeat (first | refine kN ?_ _ | refine kD ?_ | refine kA ?_ _)); exact BK303.out⟩, ⟨by (with_reducible repeat (first | refine kN ?_ _ | refine kD ?_ | refine kA ?_ _)); exact BK310.out⟩, ⟨by (with_reducible repeat (first | refine kN ?_ _ | refine kD ?_ | refine kA ?_ _)); exact BK314.out⟩, ⟨by repeat (first | (with_reducible first | exact HB.out | apply bA | apply bN | apply b1 | refine bS ?_ GE302.out | refine bS ?_ GE303.out | refine bS ?_ GE310.out | refine bS ?_ GE314.out) | exact HB.out)⟩⟩
                ·replace c207 := Bool.eq_false_iff.mpr c207
                 subst c207
                 have H1 : (cohousinglaw01_RationalMatchesReference.j7 kj182 a4 false a0_0 a0_1) = some r := by rw [if_neg (show ¬ (false = true) by decide)] at H; exact H
                 clear H
                 have H := H1
                 clear H1
                 as_aux_lemma =>
                  have H' := Aside0.mk H
                  clear H
                  go_wp2
                  go_meet
                  case rel => exact ⟨_, (false), (by first | rfl | (simp; done) | (simp [*]; done)), H', ⟨by have := HJ5.out; have := HJ20.out; have := HJ50.out; have := HJ83.out; have := HJ116.out; have := HJ149.out; have := HJ182.out; first | omega | exact Nat.le_refl _⟩, ⟨by (with_reducible repeat (first | refine kN ?_ _ | refine kD ?_ | refine kA ?_ _)); exact BK302.out⟩, ⟨by (with_reducible repeat (first | refine kN ?_ _ | refine kD ?_ | refine kA ?_ _)); exact BK303.out⟩, ⟨by (with_reducible repeat (first | refine kN ?_ _ | refine kD ?_ | refine kA ?_ _)); exact BK310.out⟩, ⟨by (with_reducible repeat (first | refine kN ?_ _ | refine kD ?_ | refine kA ?_ _)); exact BK314.out⟩, ⟨by repeat (first | (with_reducible first | exact HB.out | apply bA | apply bN | apply b1 | refine bS ?_ GE302.out | refine bS ?_ GE303.out | refine bS ?_ GE310.out | refine bS ?_ GE314.out) | exact HB.out)⟩⟩
               case rest =>
                clear HC199
                try clear c1
                try clear c2
                try clear p2
                try clear c3
                try clear c4
                try clear c5
                try clear c6
                try clear c7
                try clear c8
                try clear c9
                try clear c10
                try clear c11
                try clear c12
                try clear c13
                try clear c14
                try clear c15
                try clear c16
                try clear c17
                try clear c18
                try clear c19
                try clear c20
                try clear c21
                try clear c22
                try clear c23
                try clear c24
                try clear c25
                try clear c26
                try clear c27
                try clear c28
                try clear c29
                try clear c30
                try clear c31
                try clear c33
                try clear c34
                try clear c34b0
                try clear c34b1
                try clear c34b2
                try clear c35
                try clear c36
                try clear c37
                try clear c39
                try clear c40
                try clear c42
                try clear c43
                try clear c44
                try clear c46
                try clear c47
                try clear c52
                try clear c53
                try clear c54
                try clear c56
                try clear c57
                try clear c60
                try clear c66
                try clear c67
                try clear c67b0
                try clear c67b1
                try clear c67b2
                try clear c68
                try clear c69
                try clear c70
                try clear c72
                try clear c73
                try clear c75
                try clear c76
                try clear c77
                try clear c79
                try clear c80
                try clear c85
                try clear c86
                try clear c87
                try clear c89
                try clear c90
                try clear c93
                try clear c99
                try clear c100
                try clear c100b0
                try clear c100b1
                try clear c100b2
                try clear c101
                try clear c102
                try clear c103
                try clear c105
                try clear c106
                try clear c108
                try clear c109
                try clear c110
                try clear c112
                try clear c113
                try clear c118
                try clear c119
                try clear c120
                try clear c122
                try clear c123
                try clear c126
                try clear c132
                try clear c133
                try clear c133b0
                try clear c133b1
                try clear c133b2
                try clear c134
                try clear c135
                try clear c136
                try clear c138
                try clear c139
                try clear c141
                try clear c142
                try clear c143
                try clear c145
                try clear c146
                try clear c151
                try clear c152
                try clear c153
                try clear c155
                try clear c156
                try clear c159
                try clear c165
                try clear c166
                try clear c166b0
                try clear c166b1
                try clear c166b2
                try clear c167
                try clear c168
                try clear c169
                try clear c171
                try clear c172
                try clear c174
                try clear c175
                try clear c176
                try clear c178
                try clear c179
                try clear c184
                try clear c185
                try clear c186
                try clear c188
                try clear c189
                try clear c195
                try clear c196
                try clear c196b0
                try clear c196b1
                try clear c200
                try clear c201
                try clear c202
                try clear c207
                try clear c208
                try clear c208b0
                try clear c208b1
                try clear hcz104_0
                try clear hcz104_1
                try clear hcz107_0
                try clear hcz107_1
                try clear hcz111_0
                try clear hcz111_1
                try clear hcz114_0
                try clear hcz114_1
                try clear hcz121_0
                try clear hcz121_1
                try clear hcz124_0
                try clear hcz124_1
                try clear hcz127_0
                try clear hcz127_1
                try clear hcz128_0
                try clear hcz128_1
                try clear hcz129_0
                try clear hcz129_1
                try clear hcz131_0
                try clear hcz131_1
                try clear hcz137_0
                try clear hcz137_1
                try clear hcz140_0
                try clear hcz140_1
                try clear hcz144_0
                try clear hcz144_1
                try clear hcz147_0
                try clear hcz147_1
                try clear hcz154_0
                try clear hcz154_1
                try clear hcz157_0
                try clear hcz157_1
                try clear hcz160_0
                try clear hcz160_1
                try clear hcz161_0
                try clear hcz161_1
                try clear hcz162_0
                try clear hcz162_1
                try clear hcz164_0
                try clear hcz164_1
                try clear hcz170_0
                try clear hcz170_1
                try clear hcz173_0
                try clear hcz173_1
                try clear hcz177_0
                try clear hcz177_1
                try clear hcz180_0
                try clear hcz180_1
                try clear hcz187_0
                try clear hcz187_1
                try clear hcz190_0
                try clear hcz190_1
                try clear hcz192_0
                try clear hcz192_1
                try clear hcz193_0
                try clear hcz193_1
                try clear hcz203_0
                try clear hcz203_1
                try clear hcz205_0
                try clear hcz205_1
                try clear hcz26_0
                try clear hcz26_1
                try clear hcz32_0
                try clear hcz32_1
                try clear hcz38_0
                try clear hcz38_1
                try clear hcz41_0
                try clear hcz41_1
                try clear hcz45_0
                try clear hcz45_1
                try clear hcz48_0
                try clear hcz48_1
                try clear hcz55_0
                try clear hcz55_1
                try clear hcz58_0
                try clear hcz58_1
                try clear hcz61_0
                try clear hcz61_1
                try clear hcz62_0
                try clear hcz62_1
                try clear hcz63_0
                try clear hcz63_1
                try clear hcz65_0
                try clear hcz65_1
                try clear hcz71_0
                try clear hcz71_1
                try clear hcz74_0
                try clear hcz74_1
                try clear hcz78_0
                try clear hcz78_1
                try clear hcz81_0
                try clear hcz81_1
                try clear hcz88_0
                try clear hcz88_1
                try clear hcz91_0
                try clear hcz91_1
                try clear hcz94_0
                try clear hcz94_1
                try clear hcz95_0
                try clear hcz95_1
                try clear hcz96_0
                try clear hcz96_1
                try clear hcz98_0
                try clear hcz98_1
                try clear hfz104_0
                try clear hfz104_1
                try clear hfz107_0
                try clear hfz107_1
                try clear hfz111_0
                try clear hfz111_1
                try clear hfz114_0
                try clear hfz114_1
                try clear hfz121_0
                try clear hfz121_1
                try clear hfz124_0
                try clear hfz124_1
                try clear hfz127_0
                try clear hfz127_1
                try clear hfz128_0
                try clear hfz128_1
                try clear hfz129_0
                try clear hfz129_1
                try clear hfz131_0
                try clear hfz131_1
                try clear hfz137_0
                try clear hfz137_1
                try clear hfz140_0
                try clear hfz140_1
                try clear hfz144_0
                try clear hfz144_1
                try clear hfz147_0
                try clear hfz147_1
                try clear hfz154_0
                try clear hfz154_1
                try clear hfz157_0
                try clear hfz157_1
                try clear hfz160_0
                try clear hfz160_1
                try clear hfz161_0
                try clear hfz161_1
                try clear hfz162_0
                try clear hfz162_1
                try clear hfz164_0
                try clear hfz164_1
                try clear hfz170_0
                try clear hfz170_1
                try clear hfz173_0
                try clear hfz173_1
                try clear hfz177_0
                try clear hfz177_1
                try clear hfz180_0
                try clear hfz180_1
                try clear hfz187_0
                try clear hfz187_1
                try clear hfz190_0
                try clear hfz190_1
                try clear hfz192_0
                try clear hfz192_1
                try clear hfz193_0
                try clear hfz193_1
                try clear hfz203_0
                try clear hfz203_1
                try clear hfz205_0
                try clear hfz205_1
                try clear hfz26_0
                try clear hfz26_1
                try clear hfz32_0
                try clear hfz32_1
                try clear hfz38_0
                try clear hfz38_1
                try clear hfz41_0
                try clear hfz41_1
                try clear hfz45_0
                try clear hfz45_1
                try clear hfz48_0
                try clear hfz48_1
                try clear hfz55_0
                try clear hfz55_1
                try clear hfz58_0
                try clear hfz58_1
                try clear hfz61_0
                try clear hfz61_1
                try clear hfz62_0
                try clear hfz62_1
                try clear hfz63_0
                try clear hfz63_1
                try clear hfz65_0
                try clear hfz65_1
                try clear hfz71_0
                try clear hfz71_1
                try clear hfz74_0
                try clear hfz74_1
                try clear hfz78_0
                try clear hfz78_1
                try clear hfz81_0
                try clear hfz81_1
                try clear hfz88_0
                try clear hfz88_1
                try clear hfz91_0
                try clear hfz91_1
                try clear hfz94_0
                try clear hfz94_1
                try clear hfz95_0
                try clear hfz95_1
                try clear hfz96_0
                try clear hfz96_1
                try clear hfz98_0
                try clear hfz98_1
                try clear p2
                obtain ⟨kq, x11_198, rfl, HA, HJ198, BK302, BK303, BK310, BK314, HB⟩ := hcut
                cases kq with
                | zero => exact absurd HA.out (by simp [cohousinglaw01_RationalMatchesReference.j7])
                | succ kj198 =>
                 have H := HA.out
                 clear HA
                 simp only [cohousinglaw01_RationalMatchesReference.j7] at H
                 replace H := Option.bind_eq_some_iff.mp H
                 obtain ⟨⟨t347, t348⟩, A2090, H⟩ := H
                 replace H : ((cohousingref01_Text.f kj198 a0_0 a0_1).bind fun bt349 => (if x11_198 = true then (if t347.toList = bt349.1.toList then ((rational_Parse.f a4).bind fun bt351 => ((cohousingref01_Parse.f kj198 a4).bind fun bt354 => (if t348 = bt349.2 then (if (bt351.1 == bt354.1 && (bt351.2.1 == bt354.2.1)) = true then (if bt351.2.2 = bt354.2.2 then (some true) else (none)) else (none)) else (none)))) else ((rational_Parse.f a4).bind fun bt357 => ((cohousingref01_Parse.f kj198 a4).bind fun bt360 => (none)))) else ((rational_Parse.f a4).bind fun bt363 => ((cohousingref01_Parse.f kj198 a4).bind fun bt366 => (none))))) = some r := H
                 have A209 := Aside0.mk A2090
                 clear A2090
                 replace H := Option.bind_eq_some_iff.mp H
                 obtain ⟨⟨t349, t350⟩, A2100, H⟩ := H
                 replace H : (if x11_198 = true then (if t347.toList = t349.toList then ((rational_Parse.f a4).bind fun bt351 => ((cohousingref01_Parse.f kj198 a4).bind fun bt354 => (if t348 = t350 then (if (bt351.1 == bt354.1 && (bt351.2.1 == bt354.2.1)) = true then (if bt351.2.2 = bt354.2.2 then (some true) else (none)) else (none)) else (none)))) else ((rational_Parse.f a4).bind fun bt357 => ((cohousingref01_Parse.f kj198 a4).bind fun bt360 => (none)))) else ((rational_Parse.f a4).bind fun bt363 => ((cohousingref01_Parse.f kj198 a4).bind fun bt366 => (none)))) = some r := H
                 have A210 := Aside0.mk A2100
                 clear A2100
                 by_cases c211 : x11_198 = true
                 ·subst c211
                  have H1 : (if t347.toList = t349.toList then ((rational_Parse.f a4).bind fun bt351 => ((cohousingref01_Parse.f kj198 a4).bind fun bt354 => (if t348 = t350 then (if (bt351.1 == bt354.1 && (bt351.2.1 == bt354.2.1)) = true then (if bt351.2.2 = bt354.2.2 then (some true) else (none)) else (none)) else (none)))) else ((rational_Parse.f a4).bind fun bt357 => ((cohousingref01_Parse.f kj198 a4).bind fun bt360 => (none)))) = some r := by rw [if_pos rfl] at H; exact H
                  clear H
                  have H := H1
                  clear H1
                  by_cases c212 : t347.toList = t349.toList
                  ·rw [if_pos c212] at H
                   have c212b0 : (t347.toList == t349.toList) = true := beq_iff_eq.mpr c212
                   have c212b1 : (t347.toList != t349.toList) = false := bne_eq_false_iff_eq.mpr c212
                   clear c212
                   replace H := Option.bind_eq_some_iff.mp H
                   obtain ⟨⟨t351, t352, t353⟩, A2130, H⟩ := H
                   replace H : ((cohousingref01_Parse.f kj198 a4).bind fun bt354 => (if t348 = t350 then (if (t351 == bt354.1 && (t352 == bt354.2.1)) = true then (if t353 = bt354.2.2 then (some true) else (none)) else (none)) else (none))) = some r := H
                   have A213 := Aside0.mk A2130
                   clear A2130
                   replace H := Option.bind_eq_some_iff.mp H
                   obtain ⟨⟨t354, t355, t356⟩, A2140, H⟩ := H
                   replace H : (if t348 = t350 then (if (t351 == t354 && (t352 == t355)) = true then (if t353 = t356 then (some true) else (none)) else (none)) else (none)) = some r := H
                   have A214 := Aside0.mk A2140
                   clear A2140
                   by_cases c215 : t348 = t350
                   ·rw [if_pos c215] at H
                    have c215b0 : (t348 == t350) = true := beq_iff_eq.mpr c215
                    have c215b1 : (t348 != t350) = false := bne_eq_false_iff_eq.mpr c215
                    clear c215
                    by_cases c216 : (t351 == t354 && (t352 == t355)) = true
                    ·rw [if_pos c216] at H
                     have c216b0 : (t351 == t354 && (t352 == t355)) = true := c216
                     (try (have c216b1 : decide (t351 = t354 && (t352 == t355)) = true := by simpa using c216))
                     (try (have c216b2 : (t351 == t354 && (t352 == t355)) = true := by simpa using c216))
                     clear c216
                     by_cases c217 : t353 = t356
                     ·rw [if_pos c217] at H
                      have c217b0 : (t353 == t356) = true := beq_iff_eq.mpr c217
                      have c217b1 : (t353 != t356) = false := bne_eq_false_iff_eq.mpr c217
                      clear c217
                      as_aux_lemma =>
                       obtain rfl := Option.some.inj H
                       have hnb218 := NB302_303.out
                       have hnc218 := NB303_302.out
                       have hnb219 := NB302_310.out
                       have hnc219 := NB310_302.out
                       have hnb220 := NB302_314.out
                       have hnc220 := NB314_302.out
                       have hcz221_0 : wc.cell? ⟨gb302, 0, none⟩ = some (.int .i64 a0_0) := (kC BK302.out 0).trans rfl
                       have hcz221_1 : wc.cell? ⟨gb302, 1, none⟩ = some (.int .i64 a0_1) := (kC BK302.out 1).trans rfl
                       have hfz221_0 := blk_frozen BK302.out 0
                       have hfz221_1 := blk_frozen BK302.out 1
                       go_wp2_with (first | ((with_reducible refine gate_callee (f := 18) rfl ?_); refine goesL_ (some 191) rfl rfl Tryd.func18 (by kernel_rfl) rfl #[.agg #[.int .i64 a0_0, .int .i64 a0_1]] rfl (by (try simp only [List.map_toArray, List.map_cons, List.map_nil]); first | done | rfl | (simp only [List.length_drop, List.length_take]; rfl)) ?_; (with_reducible refine (rational_Text.calls a0_0 a0_1 t347 t348 _ ?side1 A209.out).mono ?_); (case side1 => exact GL.below HG.out (by repeat (first | (with_reducible first | exact HB.out | apply bA | apply bN | apply b1 | refine bS ?_ GE302.out | refine bS ?_ GE303.out | refine bS ?_ GE310.out | refine bS ?_ GE314.out) | exact HB.out))); rintro e w222 ⟨rfl, hb⟩; refine ⟨_, rfl, ?_⟩; have n0_ := Aside0.mk (kB (g := gb302) (o := .cells #[.int .i64 a0_0, .int .i64 a0_1] 24 (0, 0)) (by (with_reducible repeat (first | refine kN ?_ _ | refine kD ?_ | refine kA ?_ _)); exact BK302.out) hb); have n1_ := Aside0.mk (kB (g := gb303) (o := .cells #[.int .i64 a1_0, .int .i64 a1_1] 24 (0, 0)) (by (with_reducible repeat (first | refine kN ?_ _ | refine kD ?_ | refine kA ?_ _)); exact BK303.out) hb); have n2_ := Aside0.mk (kB (g := gb310) (o := .cells #[.int .i64 t333, .int .i64 t334] 24 (0, 0)) (by (with_reducible repeat (first | refine kN ?_ _ | refine kD ?_ | refine kA ?_ _)); exact BK310.out) hb); have n3_ := Aside0.mk (kB (g := gb314) (o := .cells #[.int .i64 t336, .int .i64 t337] 24 (0, 0)) (by (with_reducible repeat (first | refine kN ?_ _ | refine kD ?_ | refine kA ?_ _)); exact BK314.out) hb); have n4_ := Aside0.mk (bT (by repeat (first | (with_reducible first | exact HB.out | apply bA | apply bN | apply b1 | refine bS ?_ GE302.out | refine bS ?_ GE303.out | refine bS ?_ GE310.out | refine bS ?_ GE314.out) | exact HB.out)) hb); clear BK302; clear BK303; clear BK310; clear BK314; clear HB; have BK302 := n0_; have BK303 := n1_; have BK310 := n2_; have BK314 := n3_; have HB := n4_; clear n0_ n1_ n2_ n3_ n4_; (try clear hb); (try clear hb2); (try clear hk); (try clear hi); have hcz223_0 : w222.cell? ⟨gb302, 0, none⟩ = some (.int .i64 a0_0) := (kC BK302.out 0).trans rfl; have hcz223_1 : w222.cell? ⟨gb302, 1, none⟩ = some (.int .i64 a0_1) := (kC BK302.out 1).trans rfl; have hfz223_0 := blk_frozen BK302.out 0; have hfz223_1 := blk_frozen BK302.out 1) | ((with_reducible refine gate_callee (f := 31) rfl ?_); refine goesL_ (some 196) rfl rfl Tryd.func31 (by kernel_rfl) rfl #[.agg #[.int .i64 a0_0, .int .i64 a0_1]] rfl (by (try simp only [List.map_toArray, List.map_cons, List.map_nil]); first | done | rfl | (simp only [List.length_drop, List.length_take]; rfl)) ?_; (with_reducible refine (cohousingref01_Text.calls kj198 a0_0 a0_1 t349 t350 _ A210.out).mono ?_); rintro e w224 ⟨rfl, hb⟩; refine ⟨_, rfl, ?_⟩; have n0_ := Aside0.mk (kB (g := gb302) (o := .cells #[.int .i64 a0_0, .int .i64 a0_1] 24 (0, 0)) (by (with_reducible repeat (first | refine kN ?_ _ | refine kD ?_ | refine kA ?_ _)); exact BK302.out) hb); have n1_ := Aside0.mk (kB (g := gb303) (o := .cells #[.int .i64 a1_0, .int .i64 a1_1] 24 (0, 0)) (by (with_reducible repeat (first | refine kN ?_ _ | refine kD ?_ | refine kA ?_ _)); exact BK303.out) hb); have n2_ := Aside0.mk (kB (g := gb310) (o := .cells #[.int .i64 t333, .int .i64 t334] 24 (0, 0)) (by (with_reducible repeat (first | refine kN ?_ _ | refine kD ?_ | refine kA ?_ _)); exact BK310.out) hb); have n3_ := Aside0.mk (kB (g := gb314) (o := .cells #[.int .i64 t336, .int .i64 t337] 24 (0, 0)) (by (with_reducible repeat (first | refine kN ?_ _ | refine kD ?_ | refine kA ?_ _)); exact BK314.out) hb); have n4_ := Aside0.mk (bT (by repeat (first | (with_reducible first | exact HB.out | apply bA | apply bN | apply b1 | refine bS ?_ GE302.out | refine bS ?_ GE303.out | refine bS ?_ GE310.out | refine bS ?_ GE314.out) | exact HB.out)) hb); clear BK302; clear BK303; clear BK310; clear BK314; clear HB; have BK302 := n0_; have BK303 := n1_; have BK310 := n2_; have BK314 := n3_; have HB := n4_; clear n0_ n1_ n2_ n3_ n4_; (try clear hb); (try clear hb2); (try clear hk); (try clear hi)) | ((with_reducible refine gate_callee (f := 19) rfl ?_); refine goesL_ (some 212) rfl rfl Tryd.func19 (by kernel_rfl) rfl #[.string a4] rfl (by (try simp only [List.map_toArray, List.map_cons, List.map_nil]); first | done | rfl | (simp only [List.length_drop, List.length_take]; rfl)) ?_; (with_reducible refine (rational_Parse.calls a4 t351 t352 t353 _ ?side1 A213.out).mono ?_); (case side1 => exact GL.below HG.out (by repeat (first | (with_reducible first | exact HB.out | apply bA | apply bN | apply b1 | refine bS ?_ GE302.out | refine bS ?_ GE303.out | refine bS ?_ GE310.out | refine bS ?_ GE314.out) | exact HB.out))); rintro e w225 ⟨rfl, hb⟩; refine ⟨_, rfl, ?_⟩; have n0_ := Aside0.mk (kB (g := gb302) (o := .cells #[.int .i64 a0_0, .int .i64 a0_1] 24 (0, 0)) (by (with_reducible repeat (first | refine kN ?_ _ | refine kD ?_ | refine kA ?_ _)); exact BK302.out) hb); have n1_ := Aside0.mk (kB (g := gb303) (o := .cells #[.int .i64 a1_0, .int .i64 a1_1] 24 (0, 0)) (by (with_reducible repeat (first | refine kN ?_ _ | refine kD ?_ | refine kA ?_ _)); exact BK303.out) hb); have n2_ := Aside0.mk (kB (g := gb310) (o := .cells #[.int .i64 t333, .int .i64 t334] 24 (0, 0)) (by (with_reducible repeat (first | refine kN ?_ _ | refine kD ?_ | refine kA ?_ _)); exact BK310.out) hb); have n3_ := Aside0.mk (kB (g := gb314) (o := .cells #[.int .i64 t336, .int .i64 t337] 24 (0, 0)) (by (with_reducible repeat (first | refine kN ?_ _ | refine kD ?_ | refine kA ?_ _)); exact BK314.out) hb); have n4_ := Aside0.mk (bT (by repeat (first | (with_reducible first | exact HB.out | apply bA | apply bN | apply b1 | refine bS ?_ GE302.out | refine bS ?_ GE303.out | refine bS ?_ GE310.out | refine bS ?_ GE314.out) | exact HB.out)) hb); clear BK302; clear BK303; clear BK310; clear BK314; clear HB; have BK302 := n0_; have BK303 := n1_; have BK310 := n2_; have BK314 := n3_; have HB := n4_; clear n0_ n1_ n2_ n3_ n4_; (try clear hb); (try clear hb2); (try clear hk); (try clear hi); have hnb226 := NB310_303.out; have hnc226 := NB303_310.out; have hnb227 := NB310_314.out; have hnc227 := NB314_310.out; have hcz228_0 : w225.cell? ⟨gb310, 0, none⟩ = some (.int .i64 t333) := (kC BK310.out 0).trans rfl; have hcz228_1 : w225.cell? ⟨gb310, 1, none⟩ = some (.int .i64 t334) := (kC BK310.out 1).trans rfl; have hfz228_0 := blk_frozen BK310.out 0; have hfz228_1 := blk_frozen BK310.out 1) | ((with_reducible refine gate_callee (f := 32) rfl ?_); refine goesL_ (some 217) rfl rfl Tryd.func32 (by kernel_rfl) rfl #[.string a4] rfl (by (try simp only [List.map_toArray, List.map_cons, List.map_nil]); first | done | rfl | (simp only [List.length_drop, List.length_take]; rfl)) ?_; (with_reducible refine (cohousingref01_Parse.calls kj198 a4 t354 t355 t356 _ A214.out).mono ?_); rintro e w229 ⟨rfl, hb⟩; refine ⟨_, rfl, ?_⟩; have n0_ := Aside0.mk (kB (g := gb302) (o := .cells #[.int .i64 a0_0, .int .i64 a0_1] 24 (0, 0)) (by (with_reducible repeat (first | refine kN ?_ _ | refine kD ?_ | refine kA ?_ _)); refine kF ?_ NB302_310.out _; (with_reducible repeat (first | refine kN ?_ _ | refine kD ?_ | refine kA ?_ _)); refine kF ?_ NB302_310.out _; (with_reducible repeat (first | refine kN ?_ _ | refine kD ?_ | refine kA ?_ _)); exact BK302.out) hb); have n1_ := Aside0.mk (kB (g := gb303) (o := .cells #[.int .i64 a1_0, .int .i64 a1_1] 24 (0, 0)) (by (with_reducible repeat (first | refine kN ?_ _ | refine kD ?_ | refine kA ?_ _)); refine kF ?_ NB303_310.out _; (with_reducible repeat (first | refine kN ?_ _ | refine kD ?_ | refine kA ?_ _)); refine kF ?_ NB303_310.out _; (with_reducible repeat (first | refine kN ?_ _ | refine kD ?_ | refine kA ?_ _)); exact BK303.out) hb); have n2_ := Aside0.mk (kB (g := gb310) (o := .cells #[.int .i64 t351, .int .i64 t352] 24 (0, 0)) (by (with_reducible repeat (first | refine kN ?_ _ | refine kD ?_ | refine kA ?_ _)); refine blk_put (cs := #[.int .i64 t351, .int .i64 t334]) ?_ 1 _ rfl; (with_reducible repeat (first | refine kN ?_ _ | refine kD ?_ | refine kA ?_ _)); refine blk_put (cs := #[.int .i64 t333, .int .i64 t334]) ?_ 0 _ rfl; (with_reducible repeat (first | refine kN ?_ _ | refine kD ?_ | refine kA ?_ _)); exact BK310.out) hb); have n3_ := Aside0.mk (kB (g := gb314) (o := .cells #[.int .i64 t336, .int .i64 t337] 24 (0, 0)) (by (with_reducible repeat (first | refine kN ?_ _ | refine kD ?_ | refine kA ?_ _)); refine kF ?_ NB314_310.out _; (with_reducible repeat (first | refine kN ?_ _ | refine kD ?_ | refine kA ?_ _)); refine kF ?_ NB314_310.out _; (with_reducible repeat (first | refine kN ?_ _ | refine kD ?_ | refine kA ?_ _)); exact BK314.out) hb); have n4_ := Aside0.mk (bT (by repeat (first | (with_reducible first | exact HB.out | apply bA | apply bN | apply b1 | refine bS ?_ GE302.out | refine bS ?_ GE303.out | refine bS ?_ GE310.out | refine bS ?_ GE314.out) | exact HB.out)) hb); clear BK302; clear BK303; clear BK310; clear BK314; clear HB; have BK302 := n0_; have BK303 := n1_; have BK310 := n2_; have BK314 := n3_; have HB := n4_; clear n0_ n1_ n2_ n3_ n4_; (try clear hb); (try clear hb2); (try clear hk); (try clear hi); have hnb230 := NB314_303.out; have hnc230 := NB303_314.out; have hcz231_0 : w229.cell? ⟨gb314, 0, none⟩ = some (.int .i64 t336) := (kC BK314.out 0).trans rfl; have hcz231_1 : w229.cell? ⟨gb314, 1, none⟩ = some (.int .i64 t337) := (kC BK314.out 1).trans rfl; have hfz231_0 := blk_frozen BK314.out 0; have hfz231_1 := blk_frozen BK314.out 1; have hcz232_0 : w229.cell? ⟨gb310, 0, none⟩ = some (.int .i64 t351) := (kC BK310.out 0).trans rfl; have hcz232_1 : w229.cell? ⟨gb310, 1, none⟩ = some (.int .i64 t352) := (kC BK310.out 1).trans rfl; have hfz232_0 := blk_frozen BK310.out 0; have hfz232_1 := blk_frozen BK310.out 1))
                       go_ret
                       exact ⟨by first | rfl | (simp [errW_none, errW_some] <;> rfl) | (simp [*, errW_none, errW_some] <;> rfl), by repeat (first | (with_reducible first | exact HB.out | apply bA | apply bN | apply b1 | refine bS ?_ GE302.out | refine bS ?_ GE303.out | refine bS ?_ GE310.out | refine bS ?_ GE314.out) | exact HB.out)⟩
                     ·rw [if_neg c217] at H
                      exact absurd H (by simp)
                    ·rw [if_neg c216] at H
                     exact absurd H (by simp)
                   ·rw [if_neg c215] at H
                    exact absurd H (by simp)
                  ·rw [if_neg c212] at H
                   have c212b0 : (t347.toList == t349.toList) = false := beq_eq_false_iff_ne.mpr c212
                   have c212b1 : (t347.toList != t349.toList) = true := bne_iff_ne.mpr c212
                   replace H := Option.bind_eq_some_iff.mp H
                   obtain ⟨⟨t357, t358, t359⟩, A2330, H⟩ := H
                   replace H : ((cohousingref01_Parse.f kj198 a4).bind fun bt360 => (none)) = some r := H
                   have A233 := Aside0.mk A2330
                   clear A2330
                   replace H := Option.bind_eq_some_iff.mp H
                   obtain ⟨⟨t360, t361, t362⟩, A2340, H⟩ := H
                   replace H : (none) = some r := H
                   have A234 := Aside0.mk A2340
                   clear A2340
                   exact absurd H (by simp)
                 ·replace c211 := Bool.eq_false_iff.mpr c211
                  subst c211
                  have H1 : ((rational_Parse.f a4).bind fun bt363 => ((cohousingref01_Parse.f kj198 a4).bind fun bt366 => (none))) = some r := by rw [if_neg (show ¬ (false = true) by decide)] at H; exact H
                  clear H
                  have H := H1
                  clear H1
                  replace H := Option.bind_eq_some_iff.mp H
                  obtain ⟨⟨t363, t364, t365⟩, A2350, H⟩ := H
                  replace H : ((cohousingref01_Parse.f kj198 a4).bind fun bt366 => (none)) = some r := H
                  have A235 := Aside0.mk A2350
                  clear A2350
                  replace H := Option.bind_eq_some_iff.mp H
                  obtain ⟨⟨t366, t367, t368⟩, A2360, H⟩ := H
                  replace H : (none) = some r := H
                  have A236 := Aside0.mk A2360
                  clear A2360
                  exact absurd H (by simp)

end Go.Proofs.YteifflpjhlgpjaaDoor.X
