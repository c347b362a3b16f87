-- Written by a program of mine (wip/tools/xprint.py) over the kit's print.py: printed functions and hand-proved ones side by side.
import Derived.Test.YthcjocojngochaaGreatDoorXx0
import Derived.Test.YthcjocojngochaaGreatDoorXx20
import Derived.Test.YthcjocojngochaaGreatDoorXx9
import Derived.Test.YthcjocojngochaaGreatDoorXx13
import Derived.Test.YthcjocojngochaaGreatDoorXx14
namespace Go.Proofs.YthcjocojngochaaGreatDoor.X
open Go.RowKit Go.Proofs.YthcjocojngochaaGreatDoorW.PrintWords Go.Proofs.YthcjocojngochaaGreatDoorW.PrintLast Go.Proofs.YthcjocojngochaaGreatDoorW.PrintMore
attribute [local go_sem] max2_int min2_int max_two min_two max_three min_three max_four min_four   -- for this text's walks alone
set_option linter.unusedVariables false
set_option linter.unusedSimpArgs false

attribute [local go_sem high] eqA26
/-! ### cohousinglaw16_FactsOrder: function 7 -/
mutual
def cohousinglaw16_FactsOrder.j0 : Nat → List (S26) → List Int → Int → ByteArray → Int → Int → Int → Bool → Option (Bool)
 | 0, _, _, _, _, _, _, _, _ => none
 | k + 1, x0, x1, x2, x3, x4, x5, x6, x52 => if x52 = true then (some true) else ((cohousinglaw16_mixed.f x0 x1).bind fun t282 => ((facts_Order.f x0).bind fun bt285 => ((facts_Order.f t282).bind fun bt289 => (if bt285.2 = 0 then (if bt289.2 = 0 then ((cohousingref16_Same.f k bt285.1 bt289.1).bind fun t293 => (cohousinglaw16_FactsOrder.j1 k x0 x2 x3 x4 x5 x6 t282 bt285.1 (!t293))) else (cohousinglaw16_FactsOrder.j1 k x0 x2 x3 x4 x5 x6 t282 bt285.1 true)) else (cohousinglaw16_FactsOrder.j1 k x0 x2 x3 x4 x5 x6 t282 bt285.1 true)))))
def cohousinglaw16_FactsOrder.j1 : Nat → List (S26) → Int → ByteArray → Int → Int → Int → List (S26) → List (S26) → Bool → Option (Bool)
 | 0, _, _, _, _, _, _, _, _, _ => none
 | k + 1, x0, x2, x3, x4, x5, x6, x16, x17, x78 => if x78 = true then (none) else (cohousinglaw16_FactsOrder.l0 k x0 x2 x3 x4 x5 x6 true x16 x17 x17 (x17.length : Int) 0)
def cohousinglaw16_FactsOrder.l0 : Nat → List (S26) → Int → ByteArray → Int → Int → Int → Bool → List (S26) → List (S26) → List (S26) → Int → Int → Option (Bool)
 | 0, _, _, _, _, _, _, _, _, _, _, _, _ => none
 | k + 1, x0, x2, x3, x4, x5, x6, x15, x16, x17, x79, x80, x81 => if x81 < x80 then (if 0 ≤ x81 then (if x81 < (x79.length : Int) then (if x81 > 0 then (if 0 ≤ (wrap64 (x81 - 1)) then (if (wrap64 (x81 - 1)) < (x17.length : Int) then ((cohousingref16_Before.f ((rd_T26 x17 (wrap64 (x81 - 1))).f0) ((rd_T26 x17 (wrap64 (x81 - 1))).f1) ((rd_T26 x17 (wrap64 (x81 - 1))).f2) ((rd_T26 x17 (wrap64 (x81 - 1))).f3.f0) ((rd_T26 x17 (wrap64 (x81 - 1))).f3.f1) ((rd_T26 x17 (wrap64 (x81 - 1))).f4) ((rd_T26 x17 (wrap64 (x81 - 1))).f5) ((rd_T26 x79 x81).f0) ((rd_T26 x79 x81).f1) ((rd_T26 x79 x81).f2) ((rd_T26 x79 x81).f3.f0) ((rd_T26 x79 x81).f3.f1) ((rd_T26 x79 x81).f4) ((rd_T26 x79 x81).f5)).bind fun t297 => (cohousinglaw16_FactsOrder.j3 k x0 x2 x3 x4 x5 x6 x15 x16 x17 x79 x80 x81 (!t297) ((rd_T26 x79 x81).f0) ((rd_T26 x79 x81).f1) ((rd_T26 x79 x81).f2) ((rd_T26 x79 x81).f3.f0) ((rd_T26 x79 x81).f3.f1) ((rd_T26 x79 x81).f4) ((rd_T26 x79 x81).f5))) else (none)) else (none)) else (cohousinglaw16_FactsOrder.j3 k x0 x2 x3 x4 x5 x6 x15 x16 x17 x79 x80 x81 false ((rd_T26 x79 x81).f0) ((rd_T26 x79 x81).f1) ((rd_T26 x79 x81).f2) ((rd_T26 x79 x81).f3.f0) ((rd_T26 x79 x81).f3.f1) ((rd_T26 x79 x81).f4) ((rd_T26 x79 x81).f5))) else (none)) else (none)) else (cohousinglaw16_FactsOrder.l2 k x0 x2 x3 x4 x5 x6 x15 x16 x17 x0 (x0.length : Int) 0)
def cohousinglaw16_FactsOrder.j3 : Nat → List (S26) → Int → ByteArray → Int → Int → Int → Bool → List (S26) → List (S26) → List (S26) → Int → Int → Bool → Int → ByteArray → Int → Int → Int → Int → Bool → Option (Bool)
 | 0, _, _, _, _, _, _, _, _, _, _, _, _, _, _, _, _, _, _, _, _ => none
 | k + 1, x0, x2, x3, x4, x5, x6, x15, x16, x17, x79, x80, x81, x97, x296000, x296001, x296002, x296003, x296004, x296005, x296006 => if x97 = true then (none) else (cohousinglaw16_FactsOrder.l1 k x0 x2 x3 x4 x5 x6 x15 x16 x17 false x79 x80 x81 x0 (x0.length : Int) 0 x296000 x296001 x296002 x296003 x296004 x296005 x296006)
def cohousinglaw16_FactsOrder.l1 : Nat → List (S26) → Int → ByteArray → Int → Int → Int → Bool → List (S26) → List (S26) → Bool → List (S26) → Int → Int → List (S26) → Int → Int → Int → ByteArray → Int → Int → Int → Int → Bool → Option (Bool)
 | 0, _, _, _, _, _, _, _, _, _, _, _, _, _, _, _, _, _, _, _, _, _, _, _ => none
 | k + 1, x0, x2, x3, x4, x5, x6, x15, x16, x17, x23, x79, x80, x81, x98, x99, x100, x296000, x296001, x296002, x296003, x296004, x296005, x296006 => if x100 < x99 then (if 0 ≤ x100 then (if x100 < (x98.length : Int) then (if x23 = true then (cohousinglaw16_FactsOrder.l1 k x0 x2 x3 x4 x5 x6 x15 x16 x17 true x79 x80 x81 x98 x99 (wrap64 (x100 + 1)) x296000 x296001 x296002 x296003 x296004 x296005 x296006) else (cohousinglaw16_FactsOrder.l1 k x0 x2 x3 x4 x5 x6 x15 x16 x17 (x296000 == ((rd_T26 x98 x100).f0) && (x296001.toList == (((rd_T26 x98 x100).f1).toList) && (x296002 == ((rd_T26 x98 x100).f2) && ((x296003 == ((rd_T26 x98 x100).f3.f0) && (x296004 == ((rd_T26 x98 x100).f3.f1))) && (x296005 == ((rd_T26 x98 x100).f4) && (x296006 == ((rd_T26 x98 x100).f5))))))) x79 x80 x81 x98 x99 (wrap64 (x100 + 1)) x296000 x296001 x296002 x296003 x296004 x296005 x296006)) else (none)) else (none)) else (if x15 = true then (if x23 = true then (cohousinglaw16_FactsOrder.l0 k x0 x2 x3 x4 x5 x6 true x16 x17 x79 x80 (wrap64 (x81 + 1))) else (none)) else (none))
def cohousinglaw16_FactsOrder.l2 : Nat → List (S26) → Int → ByteArray → Int → Int → Int → Bool → List (S26) → List (S26) → List (S26) → Int → Int → Option (Bool)
 | 0, _, _, _, _, _, _, _, _, _, _, _, _ => none
 | k + 1, x0, x2, x3, x4, x5, x6, x15, x16, x17, x116, x117, x118 => if x118 < x117 then (if 0 ≤ x118 then (if x118 < (x116.length : Int) then (cohousinglaw16_FactsOrder.l3 k x0 x2 x3 x4 x5 x6 x15 x16 x17 false x116 x117 x118 x17 (x17.length : Int) 0 ((rd_T26 x116 x118).f0) ((rd_T26 x116 x118).f1) ((rd_T26 x116 x118).f2) ((rd_T26 x116 x118).f3.f0) ((rd_T26 x116 x118).f3.f1) ((rd_T26 x116 x118).f4) ((rd_T26 x116 x118).f5)) else (none)) else (none)) else ((facts_Value.f x0 x2 x3 x5 x6).bind fun bt304 => ((facts_Value.f x16 x2 x3 x5 x6).bind fun bt307 => (if x15 = true then (if bt304.1 = bt307.1 then (if (bt304.2.1 == bt307.2.1) = true then (if bt304.2.2 = bt307.2.2 then ((facts_Days.f x0 x2 x3 x4 x6).bind fun bt310 => ((facts_Days.f x16 x2 x3 x4 x6).bind fun bt314 => ((cohousingref04_Same.f k bt310.1 bt314.1).bind fun t318 => (if t318 = true then (if bt310.2 = bt314.2 then ((facts_Differ.f x0 x2 x3 x5 x6).bind fun bt319 => ((facts_Differ.f x16 x2 x3 x5 x6).bind fun bt323 => ((cohousingref04_Same.f k bt319.1 bt323.1).bind fun t327 => (if t327 = true then (if bt319.2 = bt323.2 then (some true) else (none)) else (none))))) else (none)) else (none))))) else (none)) else (none)) else (none)) else (none))))
def cohousinglaw16_FactsOrder.l3 : Nat → List (S26) → Int → ByteArray → Int → Int → Int → Bool → List (S26) → List (S26) → Bool → List (S26) → Int → Int → List (S26) → Int → Int → Int → ByteArray → Int → Int → Int → Int → Bool → Option (Bool)
 | 0, _, _, _, _, _, _, _, _, _, _, _, _, _, _, _, _, _, _, _, _, _, _, _ => none
 | k + 1, x0, x2, x3, x4, x5, x6, x15, x16, x17, x28, x116, x117, x118, x122, x123, x124, x302000, x302001, x302002, x302003, x302004, x302005, x302006 => if x124 < x123 then (if 0 ≤ x124 then (if x124 < (x122.length : Int) then (if x28 = true then (cohousinglaw16_FactsOrder.l3 k x0 x2 x3 x4 x5 x6 x15 x16 x17 true x116 x117 x118 x122 x123 (wrap64 (x124 + 1)) x302000 x302001 x302002 x302003 x302004 x302005 x302006) else (cohousinglaw16_FactsOrder.l3 k x0 x2 x3 x4 x5 x6 x15 x16 x17 (((rd_T26 x122 x124).f0) == x302000 && ((((rd_T26 x122 x124).f1).toList) == x302001.toList && (((rd_T26 x122 x124).f2) == x302002 && ((((rd_T26 x122 x124).f3.f0) == x302003 && (((rd_T26 x122 x124).f3.f1) == x302004)) && (((rd_T26 x122 x124).f4) == x302005 && (((rd_T26 x122 x124).f5) == x302006)))))) x116 x117 x118 x122 x123 (wrap64 (x124 + 1)) x302000 x302001 x302002 x302003 x302004 x302005 x302006)) else (none)) else (none)) else (if x15 = true then (if x28 = true then (cohousinglaw16_FactsOrder.l2 k x0 x2 x3 x4 x5 x6 true x16 x17 x116 x117 (wrap64 (x118 + 1))) else (none)) else (none))
end
def cohousinglaw16_FactsOrder.f (k : Nat) (l0 : List (S26)) (l1 : List Int) (a2 : Int) (a3 : ByteArray) (a4 : Int) (a5 : Int) (a6 : Int) : Option (Bool) := (cohousinglaw16_head.f k).bind fun t280 => (if t280 = true then (if (l0.length : Int) > 60 then (cohousinglaw16_FactsOrder.j0 k l0 l1 a2 a3 a4 a5 a6 true) else (if (l1.length : Int) > 60 then (cohousinglaw16_FactsOrder.j0 k l0 l1 a2 a3 a4 a5 a6 true) else ((facts_Valid.f l0).bind fun t281 => (cohousinglaw16_FactsOrder.j0 k l0 l1 a2 a3 a4 a5 a6 (!t281))))) else (none))
theorem cohousinglaw16_FactsOrder.mono_l : ∀ k, (∀ y0 y1 y2 y3 y4 y5 y6 y7, LeO (cohousinglaw16_FactsOrder.j0 k y0 y1 y2 y3 y4 y5 y6 y7) (cohousinglaw16_FactsOrder.j0 (k + 1) y0 y1 y2 y3 y4 y5 y6 y7)) ∧ (∀ y0 y1 y2 y3 y4 y5 y6 y7 y8, LeO (cohousinglaw16_FactsOrder.j1 k y0 y1 y2 y3 y4 y5 y6 y7 y8) (cohousinglaw16_FactsOrder.j1 (k + 1) y0 y1 y2 y3 y4 y5 y6 y7 y8)) ∧ (∀ y0 y1 y2 y3 y4 y5 y6 y7 y8 y9 y10 y11, LeO (cohousinglaw16_FactsOrder.l0 k y0 y1 y2 y3 y4 y5 y6 y7 y8 y9 y10 y11) (cohousinglaw16_FactsOrder.l0 (k + 1) y0 y1 y2 y3 y4 y5 y6 y7 y8 y9 y10 y11)) ∧ (∀ y0 y1 y2 y3 y4 y5 y6 y7 y8 y9 y10 y11 y12 y13 y14 y15 y16 y17 y18 y19, LeO (cohousinglaw16_FactsOrder.j3 k y0 y1 y2 y3 y4 y5 y6 y7 y8 y9 y10 y11 y12 y13 y14 y15 y16 y17 y18 y19) (cohousinglaw16_FactsOrder.j3 (k + 1) y0 y1 y2 y3 y4 y5 y6 y7 y8 y9 y10 y11 y12 y13 y14 y15 y16 y17 y18 y19)) ∧ (∀ y0 y1 y2 y3 y4 y5 y6 y7 y8 y9 y10 y11 y12 y13 y14 y15 y16 y17 y18 y19 y20 y21 y22, LeO (cohousinglaw16_FactsOrder.l1 k y0 y1 y2 y3 y4 y5 y6 y7 y8 y9 y10 y11 y12 y13 y14 y15 y16 y17 y18 y19 y20 y21 y22) (cohousinglaw16_FactsOrder.l1 (k + 1) y0 y1 y2 y3 y4 y5 y6 y7 y8 y9 y10 y11 y12 y13 y14 y15 y16 y17 y18 y19 y20 y21 y22)) ∧ (∀ y0 y1 y2 y3 y4 y5 y6 y7 y8 y9 y10 y11, LeO (cohousinglaw16_FactsOrder.l2 k y0 y1 y2 y3 y4 y5 y6 y7 y8 y9 y10 y11) (cohousinglaw16_FactsOrder.l2 (k + 1) y0 y1 y2 y3 y4 y5 y6 y7 y8 y9 y10 y11)) ∧ (∀ y0 y1 y2 y3 y4 y5 y6 y7 y8 y9 y10 y11 y12 y13 y14 y15 y16 y17 y18 y19 y20 y21 y22, LeO (cohousinglaw16_FactsOrder.l3 k y0 y1 y2 y3 y4 y5 y6 y7 y8 y9 y10 y11 y12 y13 y14 y15 y16 y17 y18 y19 y20 y21 y22) (cohousinglaw16_FactsOrder.l3 (k + 1) y0 y1 y2 y3 y4 y5 y6 y7 y8 y9 y10 y11 y12 y13 y14 y15 y16 y17 y18 y19 y20 y21 y22))
 | 0 => ⟨fun _ _ _ _ _ _ _ _ r h => by simp [cohousinglaw16_FactsOrder.j0] at h, fun _ _ _ _ _ _ _ _ _ r h => by simp [cohousinglaw16_FactsOrder.j1] at h, fun _ _ _ _ _ _ _ _ _ _ _ _ r h => by simp [cohousinglaw16_FactsOrder.l0] at h, fun _ _ _ _ _ _ _ _ _ _ _ _ _ _ _ _ _ _ _ _ r h => by simp [cohousinglaw16_FactsOrder.j3] at h, fun _ _ _ _ _ _ _ _ _ _ _ _ _ _ _ _ _ _ _ _ _ _ _ r h => by simp [cohousinglaw16_FactsOrder.l1] at h, fun _ _ _ _ _ _ _ _ _ _ _ _ r h => by simp [cohousinglaw16_FactsOrder.l2] at h, fun _ _ _ _ _ _ _ _ _ _ _ _ _ _ _ _ _ _ _ _ _ _ _ r h => by simp [cohousinglaw16_FactsOrder.l3] at h⟩
 | k + 1 => by
  obtain ⟨ih0, ih1, ih2, ih3, ih4, ih5, ih6⟩ := cohousinglaw16_FactsOrder.mono_l k
  refine ⟨?_, ?_, ?_, ?_, ?_, ?_, ?_⟩
  ·intro y0 y1 y2 y3 y4 y5 y6 y7
   unfold cohousinglaw16_FactsOrder.j0
   repeat' first
   | (with_reducible exact ih0 _ _ _ _ _ _ _ _)
   | (with_reducible exact ih1 _ _ _ _ _ _ _ _ _)
   | (with_reducible exact ih2 _ _ _ _ _ _ _ _ _ _ _ _)
   | (with_reducible exact ih3 _ _ _ _ _ _ _ _ _ _ _ _ _ _ _ _ _ _ _ _)
   | (with_reducible exact ih4 _ _ _ _ _ _ _ _ _ _ _ _ _ _ _ _ _ _ _ _ _ _ _)
   | (with_reducible exact ih5 _ _ _ _ _ _ _ _ _ _ _ _)
   | (with_reducible exact ih6 _ _ _ _ _ _ _ _ _ _ _ _ _ _ _ _ _ _ _ _ _ _ _)
   | (with_reducible exact cohousinglaw16_head.mono _)
   | (with_reducible exact cohousingref04_Same.mono _ _ _)
   | (with_reducible exact cohousingref16_Same.mono _ _ _)
   | (with_reducible exact LeO.refl _)
   | (with_reducible exact LeO.none _)
   | (with_reducible refine LeO.ite ?_ ?_)
   | (with_reducible refine LeO.bind ?_ (fun _ => ?_))
   | exact ih0 _ _ _ _ _ _ _ _
   | exact ih1 _ _ _ _ _ _ _ _ _
   | exact ih2 _ _ _ _ _ _ _ _ _ _ _ _
   | exact ih3 _ _ _ _ _ _ _ _ _ _ _ _ _ _ _ _ _ _ _ _
   | exact ih4 _ _ _ _ _ _ _ _ _ _ _ _ _ _ _ _ _ _ _ _ _ _ _
   | exact ih5 _ _ _ _ _ _ _ _ _ _ _ _
   | exact ih6 _ _ _ _ _ _ _ _ _ _ _ _ _ _ _ _ _ _ _ _ _ _ _
   | exact cohousinglaw16_head.mono _
   | exact cohousingref04_Same.mono _ _ _
   | exact cohousingref16_Same.mono _ _ _
   | exact LeO.none _
   | refine LeO.ite ?_ ?_
   | refine LeO.bind ?_ (fun _ => ?_)
  ·intro y0 y1 y2 y3 y4 y5 y6 y7 y8
   unfold cohousinglaw16_FactsOrder.j1
   repeat' first
   | (with_reducible exact ih0 _ _ _ _ _ _ _ _)
   | (with_reducible exact ih1 _ _ _ _ _ _ _ _ _)
   | (with_reducible exact ih2 _ _ _ _ _ _ _ _ _ _ _ _)
   | (with_reducible exact ih3 _ _ _ _ _ _ _ _ _ _ _ _ _ _ _ _ _ _ _ _)
   | (with_reducible exact ih4 _ _ _ _ _ _ _ _ _ _ _ _ _ _ _ _ _ _ _ _ _ _ _)
   | (with_reducible exact ih5 _ _ _ _ _ _ _ _ _ _ _ _)
   | (with_reducible exact ih6 _ _ _ _ _ _ _ _ _ _ _ _ _ _ _ _ _ _ _ _ _ _ _)
   | (with_reducible exact cohousinglaw16_head.mono _)
   | (with_reducible exact cohousingref04_Same.mono _ _ _)
   | (with_reducible exact cohousingref16_Same.mono _ _ _)
   | (with_reducible exact LeO.refl _)
   | (with_reducible exact LeO.none _)
   | (with_reducible refine LeO.ite ?_ ?_)
   | (with_reducible refine LeO.bind ?_ (fun _ => ?_))
   | exact ih0 _ _ _ _ _ _ _ _
   | exact ih1 _ _ _ _ _ _ _ _ _
   | exact ih2 _ _ _ _ _ _ _ _ _ _ _ _
   | exact ih3 _ _ _ _ _ _ _ _ _ _ _ _ _ _ _ _ _ _ _ _
   | exact ih4 _ _ _ _ _ _ _ _ _ _ _ _ _ _ _ _ _ _ _ _ _ _ _
   | exact ih5 _ _ _ _ _ _ _ _ _ _ _ _
   | exact ih6 _ _ _ _ _ _ _ _ _ _ _ _ _ _ _ _ _ _ _ _ _ _ _
   | exact cohousinglaw16_head.mono _
   | exact cohousingref04_Same.mono _ _ _
   | exact cohousingref16_Same.mono _ _ _
   | exact LeO.none _
   | refine LeO.ite ?_ ?_
   | refine LeO.bind ?_ (fun _ => ?_)
  ·intro y0 y1 y2 y3 y4 y5 y6 y7 y8 y9 y10 y11
   unfold cohousinglaw16_FactsOrder.l0
   repeat' first
   | (with_reducible exact ih0 _ _ _ _ _ _ _ _)
   | (with_reducible exact ih1 _ _ _ _ _ _ _ _ _)
   | (with_reducible exact ih2 _ _ _ _ _ _ _ _ _ _ _ _)
   | (with_reducible exact ih3 _ _ _ _ _ _ _ _ _ _ _ _ _ _ _ _ _ _ _ _)
   | (with_reducible exact ih4 _ _ _ _ _ _ _ _ _ _ _ _ _ _ _ _ _ _ _ _ _ _ _)
   | (with_reducible exact ih5 _ _ _ _ _ _ _ _ _ _ _ _)
   | (with_reducible exact ih6 _ _ _ _ _ _ _ _ _ _ _ _ _ _ _ _ _ _ _ _ _ _ _)
   | (with_reducible exact cohousinglaw16_head.mono _)
   | (with_reducible exact cohousingref04_Same.mono _ _ _)
   | (with_reducible exact cohousingref16_Same.mono _ _ _)
   | (with_reducible exact LeO.refl _)
   | (with_reducible exact LeO.none _)
   | (with_reducible refine LeO.ite ?_ ?_)
   | (with_reducible refine LeO.bind ?_ (fun _ => ?_))
   | exact ih0 _ _ _ _ _ _ _ _
   | exact ih1 _ _ _ _ _ _ _ _ _
   | exact ih2 _ _ _ _ _ _ _ _ _ _ _ _
   | exact ih3 _ _ _ _ _ _ _ _ _ _ _ _ _ _ _ _ _ _ _ _
   | exact ih4 _ _ _ _ _ _ _ _ _ _ _ _ _ _ _ _ _ _ _ _ _ _ _
   | exact ih5 _ _ _ _ _ _ _ _ _ _ _ _
   | exact ih6 _ _ _ _ _ _ _ _ _ _ _ _ _ _ _ _ _ _ _ _ _ _ _
   | exact cohousinglaw16_head.mono _
   | exact cohousingref04_Same.mono _ _ _
   | exact cohousingref16_Same.mono _ _ _
   | exact LeO.none _
   | refine LeO.ite ?_ ?_
   | refine LeO.bind ?_ (fun _ => ?_)
  ·intro y0 y1 y2 y3 y4 y5 y6 y7 y8 y9 y10 y11 y12 y13 y14 y15 y16 y17 y18 y19
   unfold cohousinglaw16_FactsOrder.j3
   repeat' first
   | (with_reducible exact ih0 _ _ _ _ _ _ _ _)
   | (with_reducible exact ih1 _ _ _ _ _ _ _ _ _)
   | (with_reducible exact ih2 _ _ _ _ _ _ _ _ _ _ _ _)
   | (with_reducible exact ih3 _ _ _ _ _ _ _ _ _ _ _ _ _ _ _ _ _ _ _ _)
   | (with_reducible exact ih4 _ _ _ _ _ _ _ _ _ _ _ _ _ _ _ _ _ _ _ _ _ _ _)
   | (with_reducible exact ih5 _ _ _ _ _ _ _ _ _ _ _ _)
   | (with_reducible exact ih6 _ _ _ _ _ _ _ _ _ _ _ _ _ _ _ _ _ _ _ _ _ _ _)
   | (with_reducible exact cohousinglaw16_head.mono _)
   | (with_reducible exact cohousingref04_Same.mono _ _ _)
   | (with_reducible exact cohousingref16_Same.mono _ _ _)
   | (with_reducible exact LeO.refl _)
   | (with_reducible exact LeO.none _)
   | (with_reducible refine LeO.ite ?_ ?_)
   | (with_reducible refine LeO.bind ?_ (fun _ => ?_))
   | exact ih0 _ _ _ _ _ _ _ _
   | exact ih1 _ _ _ _ _ _ _ _ _
   | exact ih2 _ _ _ _ _ _ _ _ _ _ _ _
   | exact ih3 _ _ _ _ _ _ _ _ _ _ _ _ _ _ _ _ _ _ _ _
   | exact ih4 _ _ _ _ _ _ _ _ _ _ _ _ _ _ _ _ _ _ _ _ _ _ _
   | exact ih5 _ _ _ _ _ _ _ _ _ _ _ _
   | exact ih6 _ _ _ _ _ _ _ _ _ _ _ _ _ _ _ _ _ _ _ _ _ _ _
   | exact cohousinglaw16_head.mono _
   | exact cohousingref04_Same.mono _ _ _
   | exact cohousingref16_Same.mono _ _ _
   | exact LeO.none _
   | refine LeO.ite ?_ ?_
   | refine LeO.bind ?_ (fun _ => ?_)
  ·intro y0 y1 y2 y3 y4 y5 y6 y7 y8 y9 y10 y11 y12 y13 y14 y15 y16 y17 y18 y19 y20 y21 y22
   unfold cohousinglaw16_FactsOrder.l1
   repeat' first
   | (with_reducible exact ih0 _ _ _ _ _ _ _ _)
   | (with_reducible exact ih1 _ _ _ _ _ _ _ _ _)
   | (with_reducible exact ih2 _ _ _ _ _ _ _ _ _ _ _ _)
   | (with_reducible exact ih3 _ _ _ _ _ _ _ _ _ _ _ _ _ _ _ _ _ _ _ _)
   | (with_reducible exact ih4 _ _ _ _ _ _ _ _ _ _ _ _ _ _ _ _ _ _ _ _ _ _ _)
   | (with_reducible exact ih5 _ _ _ _ _ _ _ _ _ _ _ _)
   | (with_reducible exact ih6 _ _ _ _ _ _ _ _ _ _ _ _ _ _ _ _ _ _ _ _ _ _ _)
   | (with_reducible exact cohousinglaw16_head.mono _)
   | (with_reducible exact cohousingref04_Same.mono _ _ _)
   | (with_reducible exact cohousingref16_Same.mono _ _ _)
   | (with_reducible exact LeO.refl _)
   | (with_reducible exact LeO.none _)
   | (with_reducible refine LeO.ite ?_ ?_)
   | (with_reducible refine LeO.bind ?_ (fun _ => ?_))
   | exact ih0 _ _ _ _ _ _ _ _
   | exact ih1 _ _ _ _ _ _ _ _ _
   | exact ih2 _ _ _ _ _ _ _ _ _ _ _ _
   | exact ih3 _ _ _ _ _ _ _ _ _ _ _ _ _ _ _ _ _ _ _ _
   | exact ih4 _ _ _ _ _ _ _ _ _ _ _ _ _ _ _ _ _ _ _ _ _ _ _
   | exact ih5 _ _ _ _ _ _ _ _ _ _ _ _
   | exact ih6 _ _ _ _ _ _ _ _ _ _ _ _ _ _ _ _ _ _ _ _ _ _ _
   | exact cohousinglaw16_head.mono _
   | exact cohousingref04_Same.mono _ _ _
   | exact cohousingref16_Same.mono _ _ _
   | exact LeO.none _
   | refine LeO.ite ?_ ?_
   | refine LeO.bind ?_ (fun _ => ?_)
  ·intro y0 y1 y2 y3 y4 y5 y6 y7 y8 y9 y10 y11
   unfold cohousinglaw16_FactsOrder.l2
   repeat' first
   | (with_reducible exact ih0 _ _ _ _ _ _ _ _)
   | (with_reducible exact ih1 _ _ _ _ _ _ _ _ _)
   | (with_reducible exact ih2 _ _ _ _ _ _ _ _ _ _ _ _)
   | (with_reducible exact ih3 _ _ _ _ _ _ _ _ _ _ _ _ _ _ _ _ _ _ _ _)
   | (with_reducible exact ih4 _ _ _ _ _ _ _ _ _ _ _ _ _ _ _ _ _ _ _ _ _ _ _)
   | (with_reducible exact ih5 _ _ _ _ _ _ _ _ _ _ _ _)
   | (with_reducible exact ih6 _ _ _ _ _ _ _ _ _ _ _ _ _ _ _ _ _ _ _ _ _ _ _)
   | (with_reducible exact cohousinglaw16_head.mono _)
   | (with_reducible exact cohousingref04_Same.mono _ _ _)
   | (with_reducible exact cohousingref16_Same.mono _ _ _)
   | (with_reducible exact LeO.refl _)
   | (with_reducible exact LeO.none _)
   | (with_reducible refine LeO.ite ?_ ?_)
   | (with_reducible refine LeO.bind ?_ (fun _ => ?_))
   | exact ih0 _ _ _ _ _ _ _ _
   | exact ih1 _ _ _ _ _ _ _ _ _
   | exact ih2 _ _ _ _ _ _ _ _ _ _ _ _
   | exact ih3 _ _ _ _ _ _ _ _ _ _ _ _ _ _ _ _ _ _ _ _
   | exact ih4 _ _ _ _ _ _ _ _ _ _ _ _ _ _ _ _ _ _ _ _ _ _ _
   | exact ih5 _ _ _ _ _ _ _ _ _ _ _ _
   | exact ih6 _ _ _ _ _ _ _ _ _ _ _ _ _ _ _ _ _ _ _ _ _ _ _
   | exact cohousinglaw16_head.mono _
   | exact cohousingref04_Same.mono _ _ _
   | exact cohousingref16_Same.mono _ _ _
   | exact LeO.none _
   | refine LeO.ite ?_ ?_
   | refine LeO.bind ?_ (fun _ => ?_)
  ·intro y0 y1 y2 y3 y4 y5 y6 y7 y8 y9 y10 y11 y12 y13 y14 y15 y16 y17 y18 y19 y20 y21 y22
   unfold cohousinglaw16_FactsOrder.l3
   repeat' first
   | (with_reducible exact ih0 _ _ _ _ _ _ _ _)
   | (with_reducible exact ih1 _ _ _ _ _ _ _ _ _)
   | (with_reducible exact ih2 _ _ _ _ _ _ _ _ _ _ _ _)
   | (with_reducible exact ih3 _ _ _ _ _ _ _ _ _ _ _ _ _ _ _ _ _ _ _ _)
   | (with_reducible exact ih4 _ _ _ _ _ _ _ _ _ _ _ _ _ _ _ _ _ _ _ _ _ _ _)
   | (with_reducible exact ih5 _ _ _ _ _ _ _ _ _ _ _ _)
   | (with_reducible exact ih6 _ _ _ _ _ _ _ _ _ _ _ _ _ _ _ _ _ _ _ _ _ _ _)
   | (with_reducible exact cohousinglaw16_head.mono _)
   | (with_reducible exact cohousingref04_Same.mono _ _ _)
   | (with_reducible exact cohousingref16_Same.mono _ _ _)
   | (with_reducible exact LeO.refl _)
   | (with_reducible exact LeO.none _)
   | (with_reducible refine LeO.ite ?_ ?_)
   | (with_reducible refine LeO.bind ?_ (fun _ => ?_))
   | exact ih0 _ _ _ _ _ _ _ _
   | exact ih1 _ _ _ _ _ _ _ _ _
   | exact ih2 _ _ _ _ _ _ _ _ _ _ _ _
   | exact ih3 _ _ _ _ _ _ _ _ _ _ _ _ _ _ _ _ _ _ _ _
   | exact ih4 _ _ _ _ _ _ _ _ _ _ _ _ _ _ _ _ _ _ _ _ _ _ _
   | exact ih5 _ _ _ _ _ _ _ _ _ _ _ _
   | exact ih6 _ _ _ _ _ _ _ _ _ _ _ _ _ _ _ _ _ _ _ _ _ _ _
   | exact cohousinglaw16_head.mono _
   | exact cohousingref04_Same.mono _ _ _
   | exact cohousingref16_Same.mono _ _ _
   | exact LeO.none _
   | refine LeO.ite ?_ ?_
   | refine LeO.bind ?_ (fun _ => ?_)
theorem cohousinglaw16_FactsOrder.mono : ∀ a0 a1 a2 a3 a4 a5 a6 k, LeO (cohousinglaw16_FactsOrder.f k a0 a1 a2 a3 a4 a5 a6) (cohousinglaw16_FactsOrder.f (k + 1) a0 a1 a2 a3 a4 a5 a6) := by
 intro a0 a1 a2 a3 a4 a5 a6 k
 obtain ⟨ih0, ih1, ih2, ih3, ih4, ih5, ih6⟩ := cohousinglaw16_FactsOrder.mono_l k
 unfold cohousinglaw16_FactsOrder.f
 repeat' first
   | (with_reducible exact ih0 _ _ _ _ _ _ _ _)
   | (with_reducible exact ih1 _ _ _ _ _ _ _ _ _)
   | (with_reducible exact ih2 _ _ _ _ _ _ _ _ _ _ _ _)
   | (with_reducible exact ih3 _ _ _ _ _ _ _ _ _ _ _ _ _ _ _ _ _ _ _ _)
   | (with_reducible exact ih4 _ _ _ _ _ _ _ _ _ _ _ _ _ _ _ _ _ _ _ _ _ _ _)
   | (with_reducible exact ih5 _ _ _ _ _ _ _ _ _ _ _ _)
   | (with_reducible exact ih6 _ _ _ _ _ _ _ _ _ _ _ _ _ _ _ _ _ _ _ _ _ _ _)
   | (with_reducible exact cohousinglaw16_head.mono _)
   | (with_reducible exact cohousingref04_Same.mono _ _ _)
   | (with_reducible exact cohousingref16_Same.mono _ _ _)
   | (with_reducible exact LeO.refl _)
   | (with_reducible exact LeO.none _)
   | (with_reducible refine LeO.ite ?_ ?_)
   | (with_reducible refine LeO.bind ?_ (fun _ => ?_))
   | exact ih0 _ _ _ _ _ _ _ _
   | exact ih1 _ _ _ _ _ _ _ _ _
   | exact ih2 _ _ _ _ _ _ _ _ _ _ _ _
   | exact ih3 _ _ _ _ _ _ _ _ _ _ _ _ _ _ _ _ _ _ _ _
   | exact ih4 _ _ _ _ _ _ _ _ _ _ _ _ _ _ _ _ _ _ _ _ _ _ _
   | exact ih5 _ _ _ _ _ _ _ _ _ _ _ _
   | exact ih6 _ _ _ _ _ _ _ _ _ _ _ _ _ _ _ _ _ _ _ _ _ _ _
   | exact cohousinglaw16_head.mono _
   | exact cohousingref04_Same.mono _ _ _
   | exact cohousingref16_Same.mono _ _ _
   | exact LeO.none _
   | refine LeO.ite ?_ ?_
   | refine LeO.bind ?_ (fun _ => ?_)
def cohousinglaw16_FactsOrder.T12 : Bool × List (List Nat × List Nat) := (true, [([], []), ([0], [0]), ([1], [1]), ([2], [2]), ([2], [2]), ([4, 2], [2, 4]), ([3, 5, 2], [2, 3, 5]), ([6, 2], [2, 6]), ([2], [2]), ([7, 8, 2, 2], [2, 7, 8]), ([9, 2], [2, 9]), ([2, 10], [2, 10])])
def cohousinglaw16_FactsOrder.B12 : List Nat := [0, 1, 3, 7, 7, 23, 63, 127, 7, 511, 1023, 2047]
theorem cohousinglaw16_FactsOrder.tab12 : rtab .any (opsOf Tryz.f7 12) = cohousinglaw16_FactsOrder.T12 := by kernel_rfl
theorem cohousinglaw16_FactsOrder.bits12 : waitsOk cohousinglaw16_FactsOrder.T12.2 cohousinglaw16_FactsOrder.B12 = true := by kernel_rfl
set_option maxHeartbeats 8000000 in
set_option maxRecDepth 100000 in
theorem cohousinglaw16_FactsOrder.calls (k : Nat) (A0 : Option Addr) (c0 : Nat) (l0 : List (S26)) (A1 : Option Addr) (c1 : Nat) (l1 : List Int) (a2 : Int) (a3 : ByteArray) (a4 : Int) (a5 : Int) (a6 : Int) (r : Bool) (w : World) (hr0 : Kd.C k26 w A0 l0.length l0) (hc0 : l0.length ≤ c0) (hr1 : Kd.C (Kd.int .i64) w A1 l1.length l1) (hc1 : l1.length ≤ c1) (h : cohousinglaw16_FactsOrder.f k l0 l1 a2 a3 a4 a5 a6 = some r) :
  Calls Tryz.prog 7 #[.slice A0 l0.length c0, .slice A1 l1.length c1, .int .i64 a2, .string a3, .int .i64 a4, .int .i64 a5, .int .i64 a6] w fun e w' => e = .returned (.bool r) ∧ Below w.heap.size w w' := by
 have hu26 := Tryz.underlying26
 have HR0 := Aside0.mk hr0
 have HC0 := Aside0.mk hc0
 clear hr0 hc0
 have HR1 := Aside0.mk hr1
 have HC1 := Aside0.mk hc1
 clear hr1 hc1
 have HB := Aside0.mk (Below.refl w.heap.size w)
 have H : ((cohousinglaw16_head.f k).bind fun t280 => (if t280 = true then (if (l0.length : Int) > 60 then (cohousinglaw16_FactsOrder.j0 k l0 l1 a2 a3 a4 a5 a6 true) else (if (l1.length : Int) > 60 then (cohousinglaw16_FactsOrder.j0 k l0 l1 a2 a3 a4 a5 a6 true) else ((facts_Valid.f l0).bind fun t281 => (cohousinglaw16_FactsOrder.j0 k l0 l1 a2 a3 a4 a5 a6 (!t281))))) else (none))) = some r := h
 clear h
 replace H := Option.bind_eq_some_iff.mp H
 obtain ⟨t280, A80, H⟩ := H
 replace H : (if t280 = true then (if (l0.length : Int) > 60 then (cohousinglaw16_FactsOrder.j0 k l0 l1 a2 a3 a4 a5 a6 true) else (if (l1.length : Int) > 60 then (cohousinglaw16_FactsOrder.j0 k l0 l1 a2 a3 a4 a5 a6 true) else ((facts_Valid.f l0).bind fun t281 => (cohousinglaw16_FactsOrder.j0 k l0 l1 a2 a3 a4 a5 a6 (!t281))))) else (none)) = some r := H
 have A8 := Aside0.mk A80
 clear A80
 by_cases c9 : t280 = true
 ·subst c9
  have H1 : (if (l0.length : Int) > 60 then (cohousinglaw16_FactsOrder.j0 k l0 l1 a2 a3 a4 a5 a6 true) else (if (l1.length : Int) > 60 then (cohousinglaw16_FactsOrder.j0 k l0 l1 a2 a3 a4 a5 a6 true) else ((facts_Valid.f l0).bind fun t281 => (cohousinglaw16_FactsOrder.j0 k l0 l1 a2 a3 a4 a5 a6 (!t281))))) = some r := by rw [if_pos rfl] at H; exact H
  clear H
  have H := H1
  clear H1
  have HC10 := Aside0.mk H
  clear H
  go_enter Tryz.func7, Tryz.ntmps7
  go_upto_region 2 with (first | ((with_reducible refine gate_callee (f := 10) rfl ?_); refine goesL_ (some 39) rfl rfl Tryz.func10 (by kernel_rfl) rfl #[] rfl (by (try simp only [List.map_toArray, List.map_cons, List.map_nil]); first | done | rfl | (simp only [List.length_drop, List.length_take]; rfl)) ?_; (with_reducible refine (cohousinglaw16_head.calls k  true _ A8.out).mono ?_); rintro e w11 ⟨rfl, hb⟩; refine ⟨_, rfl, ?_⟩; have n0_ := Aside0.mk (bT (by repeat (first | (with_reducible first | exact HB.out | apply bA | apply bN | apply b1) | exact HB.out)) hb); clear HB; have HB := n0_; clear n0_; (try clear hb); (try clear hb2); (try clear hk); (try clear hi)))
  (try simp only [Act.put, List.setIfInBounds_toArray, List.set_cons_zero, List.set_cons_succ])
  go_cut [52] (fun v52 wc => ∃ (kq : Nat) (x52_9 : Bool), v52 = .bool x52_9 ∧ Aside0 (cohousinglaw16_FactsOrder.j0 kq l0 l1 a2 a3 a4 a5 a6 x52_9 = some r) ∧ Aside0 (kq ≤ k) ∧ Aside0 (Below w.heap.size w wc))
  case first =>
   have H := HC10.out
   clear HC10
   by_cases c12 : (l0.length : Int) > 60
   ·rw [if_pos c12] at H
    have c12b0 : decide (60 < (l0.length : Int)) = true := dT c12
    have c12b1 : decide (60 < l0.length) = true := dT (by omega)
    clear c12
    (first | rw [c12b0] | (simp only [i64_w, i32_w]; rw [c12b0]) | skip)
    have H' := Aside0.mk H
    clear H
    go_wp2
    go_meet
    case rel => exact ⟨_, (true), (by first | rfl | (simp; done) | (simp [*]; done)), H', ⟨by first | omega | exact Nat.le_refl _⟩, ⟨by repeat (first | (with_reducible first | exact HB.out | apply bA | apply bN | apply b1) | exact HB.out)⟩⟩
   ·rw [if_neg c12] at H
    have c12b0 : decide (60 < (l0.length : Int)) = false := dF c12
    have c12b1 : decide (60 < l0.length) = false := dF (by omega)
    clear c12
    (first | rw [c12b0] | (simp only [i64_w, i32_w]; rw [c12b0]) | skip)
    by_cases c13 : (l1.length : Int) > 60
    ·rw [if_pos c13] at H
     have c13b0 : decide (60 < (l1.length : Int)) = true := dT c13
     have c13b1 : decide (60 < l1.length) = true := dT (by omega)
     clear c13
     have H' := Aside0.mk H
     clear H
     go_wp2
     go_meet
     case rel => exact ⟨_, (true), (by first | rfl | (simp; done) | (simp [*]; done)), H', ⟨by first | omega | exact Nat.le_refl _⟩, ⟨by repeat (first | (with_reducible first | exact HB.out | apply bA | apply bN | apply b1) | exact HB.out)⟩⟩
    ·rw [if_neg c13] at H
     have c13b0 : decide (60 < (l1.length : Int)) = false := dF c13
     have c13b1 : decide (60 < l1.length) = false := dF (by omega)
     clear c13
     replace H := Option.bind_eq_some_iff.mp H
     obtain ⟨t281, A140, H⟩ := H
     replace H : (cohousinglaw16_FactsOrder.j0 k l0 l1 a2 a3 a4 a5 a6 (!t281)) = some r := H
     have A14 := Aside0.mk A140
     clear A140
     have H' := Aside0.mk H
     clear H
     go_wp2_with (first | (go_at_call 11; (with_reducible refine (facts_Valid.calls _ _ l0 t281 _ ?side1 ?side2 A14.out).mono ?_); (case side1 => repeat (first | exact (Kd.C_below HR0.out HB.out) | (with_reducible refine Kd.C_alloc ?_ _) | (with_reducible refine Kd.C_drewN ?_ _) | (with_reducible refine Kd.C_drew ?_))); (case side2 => exact HC0.out); rintro e w15 ⟨rfl, hb⟩; have n0_ := Aside0.mk (bT (by repeat (first | (with_reducible first | exact HB.out | apply bA | apply bN | apply b1) | exact HB.out)) hb); clear HB; have HB := n0_; clear n0_; (try clear hb); (try clear hb2); (try clear hk); (try clear hi)))
     go_meet
     case rel => exact ⟨_, (!t281), (by first | rfl | (simp; done) | (simp [*]; done)), H', ⟨by first | omega | exact Nat.le_refl _⟩, ⟨by repeat (first | (with_reducible first | exact HB.out | apply bA | apply bN | apply b1) | exact HB.out)⟩⟩
  case rest =>
   clear HC10
   try clear c1
   try clear p2
   try clear c7
   try clear c9
   try clear c10
   try clear c12
   try clear c12b0
   try clear c12b1
   try clear c13
   try clear c13b0
   try clear c13b1
   obtain ⟨kq, x52_9, rfl, HA, HJ9, HB⟩ := hcut
   cases kq with
   | zero => exact absurd HA.out (by simp [cohousinglaw16_FactsOrder.j0])
   | succ kj9 =>
    have H := HA.out
    clear HA
    simp only [cohousinglaw16_FactsOrder.j0] at H
    by_cases c16 : x52_9 = true
    ·subst c16
     have H1 : (some true) = some r := by rw [if_pos rfl] at H; exact H
     clear H
     have H := H1
     clear H1
     obtain rfl := Option.some.inj H
     go_wp2
     go_ret
     exact ⟨by first | rfl | (simp [errW_none, errW_some] <;> rfl) | (simp [*, errW_none, errW_some] <;> rfl), by repeat (first | (with_reducible first | exact HB.out | apply bA | apply bN | apply b1) | exact HB.out)⟩
    ·replace c16 := Bool.eq_false_iff.mpr c16
     subst c16
     have H1 : ((cohousinglaw16_mixed.f l0 l1).bind fun t282 => ((facts_Order.f l0).bind fun bt285 => ((facts_Order.f t282).bind fun bt289 => (if bt285.2 = 0 then (if bt289.2 = 0 then ((cohousingref16_Same.f kj9 bt285.1 bt289.1).bind fun t293 => (cohousinglaw16_FactsOrder.j1 kj9 l0 a2 a3 a4 a5 a6 t282 bt285.1 (!t293))) else (cohousinglaw16_FactsOrder.j1 kj9 l0 a2 a3 a4 a5 a6 t282 bt285.1 true)) else (cohousinglaw16_FactsOrder.j1 kj9 l0 a2 a3 a4 a5 a6 t282 bt285.1 true))))) = some r := by rw [if_neg (show ¬ (false = true) by decide)] at H; exact H
     clear H
     have H := H1
     clear H1
     replace H := Option.bind_eq_some_iff.mp H
     obtain ⟨t282, A170, H⟩ := H
     replace H : ((facts_Order.f l0).bind fun bt285 => ((facts_Order.f t282).bind fun bt289 => (if bt285.2 = 0 then (if bt289.2 = 0 then ((cohousingref16_Same.f kj9 bt285.1 bt289.1).bind fun t293 => (cohousinglaw16_FactsOrder.j1 kj9 l0 a2 a3 a4 a5 a6 t282 bt285.1 (!t293))) else (cohousinglaw16_FactsOrder.j1 kj9 l0 a2 a3 a4 a5 a6 t282 bt285.1 true)) else (cohousinglaw16_FactsOrder.j1 kj9 l0 a2 a3 a4 a5 a6 t282 bt285.1 true)))) = some r := H
     have A17 := Aside0.mk A170
     clear A170
     replace H := Option.bind_eq_some_iff.mp H
     obtain ⟨⟨t285, t286⟩, A180, H⟩ := H
     replace H : ((facts_Order.f t282).bind fun bt289 => (if t286 = 0 then (if bt289.2 = 0 then ((cohousingref16_Same.f kj9 t285 bt289.1).bind fun t293 => (cohousinglaw16_FactsOrder.j1 kj9 l0 a2 a3 a4 a5 a6 t282 t285 (!t293))) else (cohousinglaw16_FactsOrder.j1 kj9 l0 a2 a3 a4 a5 a6 t282 t285 true)) else (cohousinglaw16_FactsOrder.j1 kj9 l0 a2 a3 a4 a5 a6 t282 t285 true))) = some r := H
     have A18 := Aside0.mk A180
     clear A180
     replace H := Option.bind_eq_some_iff.mp H
     obtain ⟨⟨t289, t290⟩, A190, H⟩ := H
     replace H : (if t286 = 0 then (if t290 = 0 then ((cohousingref16_Same.f kj9 t285 t289).bind fun t293 => (cohousinglaw16_FactsOrder.j1 kj9 l0 a2 a3 a4 a5 a6 t282 t285 (!t293))) else (cohousinglaw16_FactsOrder.j1 kj9 l0 a2 a3 a4 a5 a6 t282 t285 true)) else (cohousinglaw16_FactsOrder.j1 kj9 l0 a2 a3 a4 a5 a6 t282 t285 true)) = some r := H
     have A19 := Aside0.mk A190
     clear A190
     have HC20 := Aside0.mk H
     clear H
     go_upto_region 7 with (first | ((with_reducible refine gate_callee (f := 25) rfl ?_); refine goesL_ (some 56) rfl rfl Tryz.func25 (by kernel_rfl) rfl #[.slice A0 l0.length c0, .slice A1 l1.length c1] rfl (by (try simp only [List.map_toArray, List.map_cons, List.map_nil]); first | done | rfl | (simp only [List.length_drop, List.length_take]; rfl)) ?_; (with_reducible refine (cohousinglaw16_mixed.calls _ _ l0 _ _ l1 t282 _ ?side1 ?side2 ?side3 ?side4 A17.out).mono ?_); (case side1 => repeat (first | exact (Kd.C_below HR0.out HB.out) | (with_reducible refine Kd.C_alloc ?_ _) | (with_reducible refine Kd.C_drewN ?_ _) | (with_reducible refine Kd.C_drew ?_))); (case side2 => exact HC0.out); (case side3 => repeat (first | exact (Kd.C_below HR1.out HB.out) | (with_reducible refine Kd.C_alloc ?_ _) | (with_reducible refine Kd.C_drewN ?_ _) | (with_reducible refine Kd.C_drew ?_))); (case side4 => exact HC1.out); rintro e w21 ⟨v283, rfl, ho0, hb⟩; refine ⟨_, rfl, ?_⟩; have n0_ := Aside0.mk (Kd.R_lower ho0 (bZ (by repeat (first | (with_reducible first | exact HB.out | apply bA | apply bN | apply b1) | exact HB.out)))); have n1_ := Aside0.mk (bT (by repeat (first | (with_reducible first | exact HB.out | apply bA | apply bN | apply b1) | exact HB.out)) hb); clear HB; have HO284 := n0_; have HB := n1_; clear n0_ n1_; (try clear hb); (try clear hb2); (try clear hk); (try clear hi); (try clear ho0)) | ((with_reducible refine gate_callee (f := 22) rfl ?_); refine goesL_ (some 59) rfl rfl Tryz.func22 (by kernel_rfl) rfl #[.slice A0 l0.length c0] rfl (by (try simp only [List.map_toArray, List.map_cons, List.map_nil]); first | done | rfl | (simp only [List.length_drop, List.length_take]; rfl)) ?_; (with_reducible refine (facts_Order.calls _ _ l0 t285 t286 _ ?side1 ?side2 A18.out).mono ?_); (case side1 => repeat (first | exact (Kd.C_below HR0.out HB.out) | (with_reducible refine Kd.C_alloc ?_ _) | (with_reducible refine Kd.C_drewN ?_ _) | (with_reducible refine Kd.C_drew ?_))); (case side2 => exact HC0.out); rintro e w22 ⟨v287, rfl, ho0, hb⟩; refine ⟨_, rfl, ?_⟩; have n0_ := Aside0.mk (Kd.R_elder' (by (with_reducible repeat (first | apply Kd.R_alloc | apply Kd.R_drewN | apply Kd.R_drew)); exact HO284.out) (Kd.R_base ho0) hb); have n1_ := Aside0.mk (Kd.R_lower (Kd.R_new' ho0 (Kd.R_lt (by (with_reducible repeat (first | apply Kd.R_alloc | apply Kd.R_drewN | apply Kd.R_drew)); exact HO284.out))) (bZ (by repeat (first | (with_reducible first | exact HB.out | apply bA | apply bN | apply b1) | exact HB.out)))); have n2_ := Aside0.mk (bT (by repeat (first | (with_reducible first | exact HB.out | apply bA | apply bN | apply b1) | exact HB.out)) hb); clear HO284; clear HB; have HO284 := n0_; have HO288 := n1_; have HB := n2_; clear n0_ n1_ n2_; (try clear hb); (try clear hb2); (try clear hk); (try clear hi); (try clear ho0); obtain ⟨Ao23, co23, eo23⟩ := Kd.R_slice HO284.out; subst eo23) | ((with_reducible refine gate_callee (f := 22) rfl ?_); refine goesL_ (some 64) rfl rfl Tryz.func22 (by kernel_rfl) rfl #[.slice Ao23 t282.length co23] rfl (by (try simp only [List.map_toArray, List.map_cons, List.map_nil]); first | done | rfl | (simp only [List.length_drop, List.length_take]; rfl)) ?_; (with_reducible refine (facts_Order.calls _ _ t282 t289 t290 _ ?side1 ?side2 A19.out).mono ?_); (case side1 => repeat (first | exact (Kd.R_reads' HO284.out).2.2 | (with_reducible refine Kd.C_alloc ?_ _) | (with_reducible refine Kd.C_drewN ?_ _) | (with_reducible refine Kd.C_drew ?_))); (case side2 => exact (Kd.R_reads' HO284.out).2.1); rintro e w24 ⟨v291, rfl, ho0, hb⟩; refine ⟨_, rfl, ?_⟩; have n0_ := Aside0.mk (Kd.R_elder' (by (with_reducible repeat (first | apply Kd.R_alloc | apply Kd.R_drewN | apply Kd.R_drew)); exact HO284.out) (Kd.R_base ho0) hb); have n1_ := Aside0.mk (Kd.R_elder' (by (with_reducible repeat (first | apply Kd.R_alloc | apply Kd.R_drewN | apply Kd.R_drew)); exact HO288.out) (Kd.R_base ho0) hb); have n2_ := Aside0.mk (Kd.R_lower (Kd.R_new' (Kd.R_new' ho0 (Kd.R_lt (by (with_reducible repeat (first | apply Kd.R_alloc | apply Kd.R_drewN | apply Kd.R_drew)); exact HO284.out))) (Kd.R_lt (by (with_reducible repeat (first | apply Kd.R_alloc | apply Kd.R_drewN | apply Kd.R_drew)); exact HO288.out))) (bZ (by repeat (first | (with_reducible first | exact HB.out | apply bA | apply bN | apply b1) | exact HB.out)))); have n3_ := Aside0.mk (bT (by repeat (first | (with_reducible first | exact HB.out | apply bA | apply bN | apply b1) | exact HB.out)) hb); clear HO284; clear HO288; clear HB; have HO284 := n0_; have HO288 := n1_; have HO292 := n2_; have HB := n3_; clear n0_ n1_ n2_ n3_; (try clear hb); (try clear hb2); (try clear hk); (try clear hi); (try clear ho0)))
     (try simp only [Act.put, List.setIfInBounds_toArray, List.set_cons_zero, List.set_cons_succ])
     go_cut [78] (fun v78 wc => ∃ (kq : Nat) (x78_19 : Bool), v78 = .bool x78_19 ∧ Aside0 (cohousinglaw16_FactsOrder.j1 kq l0 a2 a3 a4 a5 a6 t282 t285 x78_19 = some r) ∧ Aside0 (kq ≤ kj9) ∧ Aside0 (Kd.R k26 26 wc w.heap.size (fun k_ => some k_ ≠ (v287 : Value).ownBlock) (.slice Ao23 t282.length co23) t282) ∧ Aside0 (Kd.R k26 26 wc w.heap.size (fun k_ => some k_ ≠ ((.slice Ao23 t282.length co23) : Value).ownBlock) v287 t285) ∧ Aside0 (Below w.heap.size w wc))
     case first =>
      have H := HC20.out
      clear HC20
      by_cases c25 : t286 = 0
      ·rw [if_pos c25] at H
       have c25b0 : (t286 == 0) = true := beq_iff_eq.mpr c25
       have c25b1 : (t286 != 0) = false := bne_eq_false_iff_eq.mpr c25
       clear c25
       (first | rw [c25b0] | (simp only [i64_w, i32_w]; rw [c25b0]) | skip)
       by_cases c26 : t290 = 0
       ·rw [if_pos c26] at H
        have c26b0 : (t290 == 0) = true := beq_iff_eq.mpr c26
        have c26b1 : (t290 != 0) = false := bne_eq_false_iff_eq.mpr c26
        clear c26
        replace H := Option.bind_eq_some_iff.mp H
        obtain ⟨t293, A270, H⟩ := H
        replace H : (cohousinglaw16_FactsOrder.j1 kj9 l0 a2 a3 a4 a5 a6 t282 t285 (!t293)) = some r := H
        have A27 := Aside0.mk A270
        clear A270
        have H' := Aside0.mk H
        clear H
        obtain ⟨Ao28, co28, eo28⟩ := Kd.R_slice HO288.out
        subst eo28
        obtain ⟨Ao29, co29, eo29⟩ := Kd.R_slice HO292.out
        subst eo29
        go_wp2_with (first | (go_at_call 24; (with_reducible refine (cohousingref16_Same.calls kj9 _ _ t285 _ _ t289 t293 _ ?side1 ?side2 ?side3 ?side4 A27.out).mono ?_); (case side1 => repeat (first | exact (Kd.R_reads' HO288.out).2.2 | (with_reducible refine Kd.C_alloc ?_ _) | (with_reducible refine Kd.C_drewN ?_ _) | (with_reducible refine Kd.C_drew ?_))); (case side2 => exact (Kd.R_reads' HO288.out).2.1); (case side3 => repeat (first | exact (Kd.R_reads' HO292.out).2.2 | (with_reducible refine Kd.C_alloc ?_ _) | (with_reducible refine Kd.C_drewN ?_ _) | (with_reducible refine Kd.C_drew ?_))); (case side4 => exact (Kd.R_reads' HO292.out).2.1); rintro e w' ⟨rfl, ⟨nd, rfl⟩⟩))
        go_meet
        case rel => exact ⟨_, (!t293), (by first | rfl | (simp; done) | (simp [*]; done)), H', ⟨by have := HJ9.out; first | omega | exact Nat.le_refl _⟩, ⟨by (with_reducible repeat (first | apply Kd.R_alloc | apply Kd.R_drewN | apply Kd.R_drew)); exact Kd.R_mono HO284.out (fun _ hk => hk.1.2)⟩, ⟨by (with_reducible repeat (first | apply Kd.R_alloc | apply Kd.R_drewN | apply Kd.R_drew)); exact Kd.R_mono HO288.out (fun _ hk => hk.1.2)⟩, ⟨by repeat (first | (with_reducible first | exact HB.out | apply bA | apply bN | apply b1) | exact HB.out)⟩⟩
       ·rw [if_neg c26] at H
        have c26b0 : (t290 == 0) = false := beq_eq_false_iff_ne.mpr c26
        have c26b1 : (t290 != 0) = true := bne_iff_ne.mpr c26
        have H' := Aside0.mk H
        clear H
        go_wp2
        go_meet
        case rel => exact ⟨_, (true), (by first | rfl | (simp; done) | (simp [*]; done)), H', ⟨by have := HJ9.out; first | omega | exact Nat.le_refl _⟩, ⟨by (with_reducible repeat (first | apply Kd.R_alloc | apply Kd.R_drewN | apply Kd.R_drew)); exact Kd.R_mono HO284.out (fun _ hk => hk.1.2)⟩, ⟨by (with_reducible repeat (first | apply Kd.R_alloc | apply Kd.R_drewN | apply Kd.R_drew)); exact Kd.R_mono HO288.out (fun _ hk => hk.1.2)⟩, ⟨by repeat (first | (with_reducible first | exact HB.out | apply bA | apply bN | apply b1) | exact HB.out)⟩⟩
      ·rw [if_neg c25] at H
       have c25b0 : (t286 == 0) = false := beq_eq_false_iff_ne.mpr c25
       have c25b1 : (t286 != 0) = true := bne_iff_ne.mpr c25
       (first | rw [c25b0] | (simp only [i64_w, i32_w]; rw [c25b0]) | skip)
       have H' := Aside0.mk H
       clear H
       go_wp2
       go_meet
       case rel => exact ⟨_, (true), (by first | rfl | (simp; done) | (simp [*]; done)), H', ⟨by have := HJ9.out; first | omega | exact Nat.le_refl _⟩, ⟨by (with_reducible repeat (first | apply Kd.R_alloc | apply Kd.R_drewN | apply Kd.R_drew)); exact Kd.R_mono HO284.out (fun _ hk => hk.1.2)⟩, ⟨by (with_reducible repeat (first | apply Kd.R_alloc | apply Kd.R_drewN | apply Kd.R_drew)); exact Kd.R_mono HO288.out (fun _ hk => hk.1.2)⟩, ⟨by repeat (first | (with_reducible first | exact HB.out | apply bA | apply bN | apply b1) | exact HB.out)⟩⟩
     case rest =>
      clear HC20
      try clear c1
      try clear c2
      try clear p2
      try clear c7
      try clear c9
      try clear c10
      try clear c12
      try clear c12b0
      try clear c12b1
      try clear c13
      try clear c13b0
      try clear c13b1
      try clear c16
      try clear c22
      try clear c25
      try clear c25b0
      try clear c25b1
      try clear c26
      try clear c26b0
      try clear c26b1
      try clear p2
      obtain ⟨kq, x78_19, rfl, HA, HJ19, HO_16, HO_17, HB⟩ := hcut
      cases kq with
      | zero => exact absurd HA.out (by simp [cohousinglaw16_FactsOrder.j1])
      | succ kj19 =>
       have H := HA.out
       clear HA
       simp only [cohousinglaw16_FactsOrder.j1] at H
       by_cases c30 : x78_19 = true
       ·subst c30
        have H1 : (none) = some r := by rw [if_pos rfl] at H; exact H
        clear H
        have H := H1
        clear H1
        exact absurd H (by simp)
       ·replace c30 := Bool.eq_false_iff.mpr c30
        subst c30
        have H1 : (cohousinglaw16_FactsOrder.l0 kj19 l0 a2 a3 a4 a5 a6 true t282 t285 t285 (t285.length : Int) 0) = some r := by rw [if_neg (show ¬ (false = true) by decide)] at H; exact H
        clear H
        have H := H1
        clear H1
        have H' := Aside0.mk H
        clear H
        obtain ⟨Ao31, co31, eo31⟩ := Kd.R_slice HO_17.out
        subst eo31
        go_wp2
        go_loopg [15, 81] kj19 (fun kq v15 v81 w' => ∃ (x15_3 : Bool) (x81_3 : Int), v15 = .bool x15_3 ∧ v81 = .int .i64 x81_3 ∧ Aside0 (cohousinglaw16_FactsOrder.l0 kq l0 a2 a3 a4 a5 a6 x15_3 t282 t285 t285 (t285.length : Int) x81_3 = some r) ∧ Aside0 (kq ≤ kj19) ∧ Aside0 (Kd.R k26 26 w' w.heap.size (fun k_ => some k_ ≠ ((.slice Ao31 t285.length co31) : Value).ownBlock ∧ some k_ ≠ ((.slice Ao31 t285.length co31) : Value).ownBlock) (.slice Ao23 t282.length co23) t282) ∧ Aside0 (Kd.R k26 26 w' w.heap.size (fun k_ => some k_ ≠ ((.slice Ao23 t282.length co23) : Value).ownBlock) (.slice Ao31 t285.length co31) t285) ∧ Aside0 (Kd.R k26 26 w' w.heap.size (fun k_ => some k_ ≠ ((.slice Ao23 t282.length co23) : Value).ownBlock) (.slice Ao31 t285.length co31) t285) ∧ Aside0 (Below w.heap.size w w'))
        case atStart => exact ⟨(true), (0), (by first | rfl | (simp; done) | (simp [*]; done)), (by first | rfl | (simp; done) | (simp [*]; done)), H', ⟨Nat.le_refl _⟩, ⟨by (with_reducible repeat (first | apply Kd.R_alloc | apply Kd.R_drewN | apply Kd.R_drew)); exact Kd.R_mono HO_16.out (fun _ hk => ⟨hk, hk⟩)⟩, ⟨by (with_reducible repeat (first | apply Kd.R_alloc | apply Kd.R_drewN | apply Kd.R_drew)); exact HO_17.out⟩, ⟨by (with_reducible repeat (first | apply Kd.R_alloc | apply Kd.R_drewN | apply Kd.R_drew)); exact HO_17.out⟩, ⟨by repeat (first | (with_reducible first | exact HB.out | apply bA | apply bN | apply b1) | exact HB.out)⟩⟩
        case round =>
         clear H'
         try clear c1
         try clear c2
         try clear p2
         try clear c3
         try clear c7
         try clear c9
         try clear c10
         try clear c12
         try clear c12b0
         try clear c12b1
         try clear c13
         try clear c13b0
         try clear c13b1
         try clear c16
         try clear c22
         try clear c25
         try clear c25b0
         try clear c25b1
         try clear c26
         try clear c26b0
         try clear c26b1
         try clear c30
         try clear p2
         obtain ⟨x15_3, x81_3, rfl, rfl, HA, HK3, HO_16, HO_17, HO_79, HB⟩ := hrel
         cases gk with
         | zero => exact absurd HA.out (by simp [cohousinglaw16_FactsOrder.l0])
         | succ k3 =>
          have H := HA.out
          clear HA
          simp only [cohousinglaw16_FactsOrder.l0] at H
          by_cases c32 : x81_3 < (t285.length : Int)
          ·rw [if_pos c32] at H
           have c32b0 : decide (x81_3 < (t285.length : Int)) = true := dT c32
           clear c32
           by_cases c33 : 0 ≤ x81_3
           ·rw [if_pos c33] at H
            have c33b0 : decide (0 ≤ x81_3) = true := dT c33
            clear c33
            by_cases c34 : x81_3 < (t285.length : Int)
            ·rw [if_pos c34] at H
             have c34b0 : decide (x81_3 < (t285.length : Int)) = true := dT c34
             clear c34
             have HC35 := Aside0.mk H
             clear H
             have p294 : 0 ≤ (x81_3 : Int) := oT (by first | (with_reducible assumption) | assumption)
             have q294 : x81_3 < (t285.length : Int) := oT (by first | (with_reducible assumption) | assumption)
             obtain ⟨ad294, e294, hx294_0, hx294_1, hx294_2, hx294_3, hx294_4, hx294_5, hx294_6⟩ := at_T26 (Kd.R_reads' HO_79.out).2.2 x81_3 p294 q294
             cases e294
             replace p294 := eq_true p294
             replace q294 := eq_true q294
             go_upto_region 12 with (first | ((with_reducible refine gate_dst (N := 22) rfl ?_); (try (refine gate_guard (by rfl) ?_; dsimp only)); refine box_event ?hg (N := 22) ?hd (cs := #[.int .i64 0, .string (⟨#[]⟩ : ByteArray), .int .i64 0, .int .i64 0, .int .i64 0, .int .i64 0, .bool false]) (t := 26) ?hr ?_; (case hd => rfl); (case hg => rfl); (case hr => first | (go_simp; done) | (go_simp; rfl)); intro gb295 hg w36 hbox hb; have n0_ := Aside0.mk (Kd.R_below (Kd.R_elderB (by (with_reducible repeat (first | apply Kd.R_alloc | apply Kd.R_drewN | apply Kd.R_drew)); exact HO_16.out) gb295 (Nat.le_of_eq hg.symm)) hb); have n1_ := Aside0.mk (Kd.R_below (Kd.R_elderB (by (with_reducible repeat (first | apply Kd.R_alloc | apply Kd.R_drewN | apply Kd.R_drew)); exact HO_17.out) gb295 (Nat.le_of_eq hg.symm)) hb); have n2_ := Aside0.mk (Kd.R_below (Kd.R_elderB (by (with_reducible repeat (first | apply Kd.R_alloc | apply Kd.R_drewN | apply Kd.R_drew)); exact HO_79.out) gb295 (Nat.le_of_eq hg.symm)) hb); have n3_ := Aside0.mk (bT (by repeat (first | (with_reducible first | exact HB.out | apply bA | apply bN | apply b1) | exact HB.out)) hb); have n4_ := Aside0.mk (hbox); have n5_ := Aside0.mk ((by rw [hg]; exact (bZ (by repeat (first | (with_reducible first | exact HB.out | apply bA | apply bN | apply b1) | exact HB.out))) : w.heap.size ≤ gb295)); have n6_ := n5_; clear HO_16; clear HO_17; clear HO_79; clear HB; have HO_16 := n0_; have HO_17 := n1_; have HO_79 := n2_; have HB := n3_; have BK295 := n4_; have GW295 := n5_; have GE295 := n6_; clear n0_ n1_ n2_ n3_ n4_ n5_ n6_; clear hb hbox hg; have hcz37_0 : w36.cell? ⟨gb295, 0, none⟩ = some (.int .i64 0) := (kC BK295.out 0).trans rfl; have hcz37_1 : w36.cell? ⟨gb295, 1, none⟩ = some (.string (⟨#[]⟩ : ByteArray)) := (kC BK295.out 1).trans rfl; have hcz37_2 : w36.cell? ⟨gb295, 2, none⟩ = some (.int .i64 0) := (kC BK295.out 2).trans rfl; have hcz37_3 : w36.cell? ⟨gb295, 3, none⟩ = some (.int .i64 0) := (kC BK295.out 3).trans rfl; have hcz37_4 : w36.cell? ⟨gb295, 4, none⟩ = some (.int .i64 0) := (kC BK295.out 4).trans rfl; have hcz37_5 : w36.cell? ⟨gb295, 5, none⟩ = some (.int .i64 0) := (kC BK295.out 5).trans rfl; have hcz37_6 : w36.cell? ⟨gb295, 6, none⟩ = some (.bool false) := (kC BK295.out 6).trans rfl; have hfz37_0 := blk_frozen BK295.out 0; have hfz37_1 := blk_frozen BK295.out 1; have hfz37_2 := blk_frozen BK295.out 2; have hfz37_3 := blk_frozen BK295.out 3; have hfz37_4 := blk_frozen BK295.out 4; have hfz37_5 := blk_frozen BK295.out 5; have hfz37_6 := blk_frozen BK295.out 6))
             (try simp only [Act.put, List.setIfInBounds_toArray, List.set_cons_zero, List.set_cons_succ])
             go_cut [97] (fun v97 wc => ∃ (kq : Nat) (x97_34 : Bool), v97 = .bool x97_34 ∧ Aside0 (cohousinglaw16_FactsOrder.j3 kq l0 a2 a3 a4 a5 a6 x15_3 t282 t285 t285 (t285.length : Int) x81_3 x97_34 ((rd_T26 t285 x81_3).f0) ((rd_T26 t285 x81_3).f1) ((rd_T26 t285 x81_3).f2) ((rd_T26 t285 x81_3).f3.f0) ((rd_T26 t285 x81_3).f3.f1) ((rd_T26 t285 x81_3).f4) ((rd_T26 t285 x81_3).f5) = some r) ∧ Aside0 (kq ≤ k3) ∧ Aside0 (Kd.R k26 26 wc w.heap.size (fun k_ => some k_ ≠ ((.slice (some ad294) t285.length co31) : Value).ownBlock ∧ some k_ ≠ ((.slice (some ad294) t285.length co31) : Value).ownBlock ∧ k_ ≠ gb295) (.slice Ao23 t282.length co23) t282) ∧ Aside0 (Kd.R k26 26 wc w.heap.size (fun k_ => some k_ ≠ ((.slice Ao23 t282.length co23) : Value).ownBlock ∧ k_ ≠ gb295) (.slice (some ad294) t285.length co31) t285) ∧ Aside0 (Kd.R k26 26 wc w.heap.size (fun k_ => some k_ ≠ ((.slice Ao23 t282.length co23) : Value).ownBlock ∧ k_ ≠ gb295) (.slice (some ad294) t285.length co31) t285) ∧ Aside0 (wc.heap[gb295]? = some (.cells #[.int .i64 ((rd_T26 t285 x81_3).f0), .string ((rd_T26 t285 x81_3).f1), .int .i64 ((rd_T26 t285 x81_3).f2), .int .i64 ((rd_T26 t285 x81_3).f3.f0), .int .i64 ((rd_T26 t285 x81_3).f3.f1), .int .i64 ((rd_T26 t285 x81_3).f4), .bool ((rd_T26 t285 x81_3).f5)] 26 (0, 0))) ∧ Aside0 (Below w.heap.size w wc))
             case first =>
              have H := HC35.out
              clear HC35
              by_cases c38 : x81_3 > 0
              ·rw [if_pos c38] at H
               have c38b0 : decide (0 < x81_3) = true := dT c38
               clear c38
               (first | rw [c38b0] | (simp only [i64_w, i32_w]; rw [c38b0]) | skip)
               obtain ⟨ji39, hji39⟩ : ∃ j_ : Int, (wrap64 (x81_3 - 1)) = j_ := ⟨_, rfl⟩
               replace H : (if 0 ≤ (ji39) then (if (ji39) < (t285.length : Int) then ((cohousingref16_Before.f ((rd_T26 t285 (ji39)).f0) ((rd_T26 t285 (ji39)).f1) ((rd_T26 t285 (ji39)).f2) ((rd_T26 t285 (ji39)).f3.f0) ((rd_T26 t285 (ji39)).f3.f1) ((rd_T26 t285 (ji39)).f4) ((rd_T26 t285 (ji39)).f5) ((rd_T26 t285 x81_3).f0) ((rd_T26 t285 x81_3).f1) ((rd_T26 t285 x81_3).f2) ((rd_T26 t285 x81_3).f3.f0) ((rd_T26 t285 x81_3).f3.f1) ((rd_T26 t285 x81_3).f4) ((rd_T26 t285 x81_3).f5)).bind fun t297 => (cohousinglaw16_FactsOrder.j3 k3 l0 a2 a3 a4 a5 a6 x15_3 t282 t285 t285 (t285.length : Int) x81_3 (!t297) ((rd_T26 t285 x81_3).f0) ((rd_T26 t285 x81_3).f1) ((rd_T26 t285 x81_3).f2) ((rd_T26 t285 x81_3).f3.f0) ((rd_T26 t285 x81_3).f3.f1) ((rd_T26 t285 x81_3).f4) ((rd_T26 t285 x81_3).f5))) else (none)) else (none)) = some r := by first | (rw [hji39] at H; exact H) | (simp only [hji39] at H ⊢; exact H)
               have hji39w : (IntKind.i64.wrap (x81_3 - 1)) = ji39 := (i64_w _).trans hji39
               by_cases c40 : 0 ≤ (ji39)
               ·rw [if_pos c40] at H
                have c40b0 : decide (0 ≤ (ji39)) = true := dT c40
                clear c40
                by_cases c41 : (ji39) < (t285.length : Int)
                ·rw [if_pos c41] at H
                 have c41b0 : decide ((ji39) < (t285.length : Int)) = true := dT c41
                 clear c41
                 replace H := Option.bind_eq_some_iff.mp H
                 obtain ⟨t297, A420, H⟩ := H
                 replace H : (cohousinglaw16_FactsOrder.j3 k3 l0 a2 a3 a4 a5 a6 x15_3 t282 t285 t285 (t285.length : Int) x81_3 (!t297) ((rd_T26 t285 x81_3).f0) ((rd_T26 t285 x81_3).f1) ((rd_T26 t285 x81_3).f2) ((rd_T26 t285 x81_3).f3.f0) ((rd_T26 t285 x81_3).f3.f1) ((rd_T26 t285 x81_3).f4) ((rd_T26 t285 x81_3).f5)) = some r := H
                 have A42 := Aside0.mk A420
                 clear A420
                 have H' := Aside0.mk H
                 clear H
                 try go_wp2
                 have n0_ : Aside0 (Kd.R k26 26 (((((((w36.setCell ⟨gb295, 0, none⟩ (.int .i64 ((rd_T26 t285 x81_3).f0))).setCell ⟨gb295, 1, none⟩ (.string ((rd_T26 t285 x81_3).f1))).setCell ⟨gb295, 2, none⟩ (.int .i64 ((rd_T26 t285 x81_3).f2))).setCell ⟨gb295, 3, none⟩ (.int .i64 ((rd_T26 t285 x81_3).f3.f0))).setCell ⟨gb295, 4, none⟩ (.int .i64 ((rd_T26 t285 x81_3).f3.f1))).setCell ⟨gb295, 5, none⟩ (.int .i64 ((rd_T26 t285 x81_3).f4))).setCell ⟨gb295, 6, none⟩ (.bool ((rd_T26 t285 x81_3).f5))) w.heap.size (fun k_ => some k_ ≠ (.slice (some ad294) t285.length co31 : Value).ownBlock ∧ some k_ ≠ (.slice (some ad294) t285.length co31 : Value).ownBlock ∧ k_ ≠ gb295) (.slice Ao23 t282.length co23) t282) := ⟨by (with_reducible repeat (first | apply Kd.R_alloc | apply Kd.R_drewN | apply Kd.R_drew)); exact Kd.R_mono (Kd.R_far (p := ⟨gb295, 6, none⟩) (Kd.R_far (p := ⟨gb295, 5, none⟩) (Kd.R_far (p := ⟨gb295, 4, none⟩) (Kd.R_far (p := ⟨gb295, 3, none⟩) (Kd.R_far (p := ⟨gb295, 2, none⟩) (Kd.R_far (p := ⟨gb295, 1, none⟩) (Kd.R_far (p := ⟨gb295, 0, none⟩) (Kd.R_mono HO_16.out (fun k_ hk => (⟨hk, hk.2⟩ : _ ∧ k_ ≠ gb295))) (fun _ hk => hk.2) (.int .i64 ((rd_T26 t285 x81_3).f0))) (fun _ hk => hk.2) (.string ((rd_T26 t285 x81_3).f1))) (fun _ hk => hk.2) (.int .i64 ((rd_T26 t285 x81_3).f2))) (fun _ hk => hk.2) (.int .i64 ((rd_T26 t285 x81_3).f3.f0))) (fun _ hk => hk.2) (.int .i64 ((rd_T26 t285 x81_3).f3.f1))) (fun _ hk => hk.2) (.int .i64 ((rd_T26 t285 x81_3).f4))) (fun _ hk => hk.2) (.bool ((rd_T26 t285 x81_3).f5))) (fun _ hk => ⟨hk.1.1.1, ⟨hk.1.1.2, hk.1.2⟩⟩)⟩
                 have n1_ : Aside0 (Kd.R k26 26 (((((((w36.setCell ⟨gb295, 0, none⟩ (.int .i64 ((rd_T26 t285 x81_3).f0))).setCell ⟨gb295, 1, none⟩ (.string ((rd_T26 t285 x81_3).f1))).setCell ⟨gb295, 2, none⟩ (.int .i64 ((rd_T26 t285 x81_3).f2))).setCell ⟨gb295, 3, none⟩ (.int .i64 ((rd_T26 t285 x81_3).f3.f0))).setCell ⟨gb295, 4, none⟩ (.int .i64 ((rd_T26 t285 x81_3).f3.f1))).setCell ⟨gb295, 5, none⟩ (.int .i64 ((rd_T26 t285 x81_3).f4))).setCell ⟨gb295, 6, none⟩ (.bool ((rd_T26 t285 x81_3).f5))) w.heap.size (fun k_ => some k_ ≠ (.slice Ao23 t282.length co23 : Value).ownBlock ∧ k_ ≠ gb295) (.slice (some ad294) t285.length co31) t285) := ⟨by (with_reducible repeat (first | apply Kd.R_alloc | apply Kd.R_drewN | apply Kd.R_drew)); exact Kd.R_mono (Kd.R_far (p := ⟨gb295, 6, none⟩) (Kd.R_far (p := ⟨gb295, 5, none⟩) (Kd.R_far (p := ⟨gb295, 4, none⟩) (Kd.R_far (p := ⟨gb295, 3, none⟩) (Kd.R_far (p := ⟨gb295, 2, none⟩) (Kd.R_far (p := ⟨gb295, 1, none⟩) (Kd.R_far (p := ⟨gb295, 0, none⟩) (Kd.R_mono HO_17.out (fun k_ hk => (⟨hk, hk.2⟩ : _ ∧ k_ ≠ gb295))) (fun _ hk => hk.2) (.int .i64 ((rd_T26 t285 x81_3).f0))) (fun _ hk => hk.2) (.string ((rd_T26 t285 x81_3).f1))) (fun _ hk => hk.2) (.int .i64 ((rd_T26 t285 x81_3).f2))) (fun _ hk => hk.2) (.int .i64 ((rd_T26 t285 x81_3).f3.f0))) (fun _ hk => hk.2) (.int .i64 ((rd_T26 t285 x81_3).f3.f1))) (fun _ hk => hk.2) (.int .i64 ((rd_T26 t285 x81_3).f4))) (fun _ hk => hk.2) (.bool ((rd_T26 t285 x81_3).f5))) (fun _ hk => ⟨hk.1.1, hk.1.2⟩)⟩
                 have n2_ : Aside0 (Kd.R k26 26 (((((((w36.setCell ⟨gb295, 0, none⟩ (.int .i64 ((rd_T26 t285 x81_3).f0))).setCell ⟨gb295, 1, none⟩ (.string ((rd_T26 t285 x81_3).f1))).setCell ⟨gb295, 2, none⟩ (.int .i64 ((rd_T26 t285 x81_3).f2))).setCell ⟨gb295, 3, none⟩ (.int .i64 ((rd_T26 t285 x81_3).f3.f0))).setCell ⟨gb295, 4, none⟩ (.int .i64 ((rd_T26 t285 x81_3).f3.f1))).setCell ⟨gb295, 5, none⟩ (.int .i64 ((rd_T26 t285 x81_3).f4))).setCell ⟨gb295, 6, none⟩ (.bool ((rd_T26 t285 x81_3).f5))) w.heap.size (fun k_ => some k_ ≠ (.slice Ao23 t282.length co23 : Value).ownBlock ∧ k_ ≠ gb295) (.slice (some ad294) t285.length co31) t285) := ⟨by (with_reducible repeat (first | apply Kd.R_alloc | apply Kd.R_drewN | apply Kd.R_drew)); exact Kd.R_mono (Kd.R_far (p := ⟨gb295, 6, none⟩) (Kd.R_far (p := ⟨gb295, 5, none⟩) (Kd.R_far (p := ⟨gb295, 4, none⟩) (Kd.R_far (p := ⟨gb295, 3, none⟩) (Kd.R_far (p := ⟨gb295, 2, none⟩) (Kd.R_far (p := ⟨gb295, 1, none⟩) (Kd.R_far (p := ⟨gb295, 0, none⟩) (Kd.R_mono HO_79.out (fun k_ hk => (⟨hk, hk.2⟩ : _ ∧ k_ ≠ gb295))) (fun _ hk => hk.2) (.int .i64 ((rd_T26 t285 x81_3).f0))) (fun _ hk => hk.2) (.string ((rd_T26 t285 x81_3).f1))) (fun _ hk => hk.2) (.int .i64 ((rd_T26 t285 x81_3).f2))) (fun _ hk => hk.2) (.int .i64 ((rd_T26 t285 x81_3).f3.f0))) (fun _ hk => hk.2) (.int .i64 ((rd_T26 t285 x81_3).f3.f1))) (fun _ hk => hk.2) (.int .i64 ((rd_T26 t285 x81_3).f4))) (fun _ hk => hk.2) (.bool ((rd_T26 t285 x81_3).f5))) (fun _ hk => ⟨hk.1.1, hk.1.2⟩)⟩
                 have n3_ : Aside0 ((((((((w36.setCell ⟨gb295, 0, none⟩ (.int .i64 ((rd_T26 t285 x81_3).f0))).setCell ⟨gb295, 1, none⟩ (.string ((rd_T26 t285 x81_3).f1))).setCell ⟨gb295, 2, none⟩ (.int .i64 ((rd_T26 t285 x81_3).f2))).setCell ⟨gb295, 3, none⟩ (.int .i64 ((rd_T26 t285 x81_3).f3.f0))).setCell ⟨gb295, 4, none⟩ (.int .i64 ((rd_T26 t285 x81_3).f3.f1))).setCell ⟨gb295, 5, none⟩ (.int .i64 ((rd_T26 t285 x81_3).f4))).setCell ⟨gb295, 6, none⟩ (.bool ((rd_T26 t285 x81_3).f5))).heap[gb295]? = some (.cells #[.int .i64 ((rd_T26 t285 x81_3).f0), .string ((rd_T26 t285 x81_3).f1), .int .i64 ((rd_T26 t285 x81_3).f2), .int .i64 ((rd_T26 t285 x81_3).f3.f0), .int .i64 ((rd_T26 t285 x81_3).f3.f1), .int .i64 ((rd_T26 t285 x81_3).f4), .bool ((rd_T26 t285 x81_3).f5)] 26 (0, 0))) := ⟨by (with_reducible repeat (first | refine kN ?_ _ | refine kD ?_ | refine kA ?_ _)); refine blk_put (cs := #[.int .i64 ((rd_T26 t285 x81_3).f0), .string ((rd_T26 t285 x81_3).f1), .int .i64 ((rd_T26 t285 x81_3).f2), .int .i64 ((rd_T26 t285 x81_3).f3.f0), .int .i64 ((rd_T26 t285 x81_3).f3.f1), .int .i64 ((rd_T26 t285 x81_3).f4), .bool false]) ?_ 6 _ rfl; (with_reducible repeat (first | refine kN ?_ _ | refine kD ?_ | refine kA ?_ _)); refine blk_put (cs := #[.int .i64 ((rd_T26 t285 x81_3).f0), .string ((rd_T26 t285 x81_3).f1), .int .i64 ((rd_T26 t285 x81_3).f2), .int .i64 ((rd_T26 t285 x81_3).f3.f0), .int .i64 ((rd_T26 t285 x81_3).f3.f1), .int .i64 0, .bool false]) ?_ 5 _ rfl; (with_reducible repeat (first | refine kN ?_ _ | refine kD ?_ | refine kA ?_ _)); refine blk_put (cs := #[.int .i64 ((rd_T26 t285 x81_3).f0), .string ((rd_T26 t285 x81_3).f1), .int .i64 ((rd_T26 t285 x81_3).f2), .int .i64 ((rd_T26 t285 x81_3).f3.f0), .int .i64 0, .int .i64 0, .bool false]) ?_ 4 _ rfl; (with_reducible repeat (first | refine kN ?_ _ | refine kD ?_ | refine kA ?_ _)); refine blk_put (cs := #[.int .i64 ((rd_T26 t285 x81_3).f0), .string ((rd_T26 t285 x81_3).f1), .int .i64 ((rd_T26 t285 x81_3).f2), .int .i64 0, .int .i64 0, .int .i64 0, .bool false]) ?_ 3 _ rfl; (with_reducible repeat (first | refine kN ?_ _ | refine kD ?_ | refine kA ?_ _)); refine blk_put (cs := #[.int .i64 ((rd_T26 t285 x81_3).f0), .string ((rd_T26 t285 x81_3).f1), .int .i64 0, .int .i64 0, .int .i64 0, .int .i64 0, .bool false]) ?_ 2 _ rfl; (with_reducible repeat (first | refine kN ?_ _ | refine kD ?_ | refine kA ?_ _)); refine blk_put (cs := #[.int .i64 ((rd_T26 t285 x81_3).f0), .string (⟨#[]⟩ : ByteArray), .int .i64 0, .int .i64 0, .int .i64 0, .int .i64 0, .bool false]) ?_ 1 _ rfl; (with_reducible repeat (first | refine kN ?_ _ | refine kD ?_ | refine kA ?_ _)); refine blk_put (cs := #[.int .i64 0, .string (⟨#[]⟩ : ByteArray), .int .i64 0, .int .i64 0, .int .i64 0, .int .i64 0, .bool false]) ?_ 0 _ rfl; (with_reducible repeat (first | refine kN ?_ _ | refine kD ?_ | refine kA ?_ _)); exact BK295.out⟩
                 have n4_ : Aside0 (Below w.heap.size w (((((((w36.setCell ⟨gb295, 0, none⟩ (.int .i64 ((rd_T26 t285 x81_3).f0))).setCell ⟨gb295, 1, none⟩ (.string ((rd_T26 t285 x81_3).f1))).setCell ⟨gb295, 2, none⟩ (.int .i64 ((rd_T26 t285 x81_3).f2))).setCell ⟨gb295, 3, none⟩ (.int .i64 ((rd_T26 t285 x81_3).f3.f0))).setCell ⟨gb295, 4, none⟩ (.int .i64 ((rd_T26 t285 x81_3).f3.f1))).setCell ⟨gb295, 5, none⟩ (.int .i64 ((rd_T26 t285 x81_3).f4))).setCell ⟨gb295, 6, none⟩ (.bool ((rd_T26 t285 x81_3).f5)))) := ⟨by repeat (first | (with_reducible first | exact HB.out | apply bA | apply bN | apply b1 | refine bS ?_ GE295.out) | exact HB.out)⟩
                 (try clear HO_16)
                 (try clear HO_17)
                 (try clear HO_79)
                 (try clear BK295)
                 (try clear HB)
                 generalize (((((((w36.setCell ⟨gb295, 0, none⟩ (.int .i64 ((rd_T26 t285 x81_3).f0))).setCell ⟨gb295, 1, none⟩ (.string ((rd_T26 t285 x81_3).f1))).setCell ⟨gb295, 2, none⟩ (.int .i64 ((rd_T26 t285 x81_3).f2))).setCell ⟨gb295, 3, none⟩ (.int .i64 ((rd_T26 t285 x81_3).f3.f0))).setCell ⟨gb295, 4, none⟩ (.int .i64 ((rd_T26 t285 x81_3).f3.f1))).setCell ⟨gb295, 5, none⟩ (.int .i64 ((rd_T26 t285 x81_3).f4))).setCell ⟨gb295, 6, none⟩ (.bool ((rd_T26 t285 x81_3).f5))) = w43 at n0_ n1_ n2_ n3_ n4_ ⊢
                 have HO_16 := n0_
                 have HO_17 := n1_
                 have HO_79 := n2_
                 have BK295 := n3_
                 have HB := n4_
                 clear n0_ n1_ n2_ n3_ n4_
                 have n0_ := Aside0.mk (Kd.R_drew HO_16.out)
                 have n1_ := Aside0.mk (Kd.R_drew HO_17.out)
                 have n2_ := Aside0.mk (Kd.R_drew HO_79.out)
                 have n3_ := Aside0.mk (kD BK295.out)
                 have n4_ := Aside0.mk (b1 HB.out)
                 clear HO_16
                 clear HO_17
                 clear HO_79
                 clear BK295
                 clear HB
                 have HO_16 := n0_
                 have HO_17 := n1_
                 have HO_79 := n2_
                 have BK295 := n3_
                 have HB := n4_
                 clear n0_ n1_ n2_ n3_ n4_
                 have p296 : 0 ≤ ((ji39) : Int) := oT (by first | (with_reducible assumption) | assumption)
                 have q296 : (ji39) < (t285.length : Int) := oT (by first | (with_reducible assumption) | assumption)
                 obtain ⟨ad296, e296, hx296_0, hx296_1, hx296_2, hx296_3, hx296_4, hx296_5, hx296_6⟩ := at_T26 (Kd.R_reads' HO_17.out).2.2 (ji39) p296 q296
                 obtain rfl : ad294 = ad296 := (by injection e296)
                 replace p296 := eq_true p296
                 replace q296 := eq_true q296
                 refine start_ (n := 12) (S := fun w' => w'.cell? ⟨gb295, 0, none⟩ = some (.int .i64 ((rd_T26 t285 x81_3).f0)) ∧ w'.cell? ⟨gb295, 1, none⟩ = some (.string ((rd_T26 t285 x81_3).f1)) ∧ w'.cell? ⟨gb295, 2, none⟩ = some (.int .i64 ((rd_T26 t285 x81_3).f2)) ∧ w'.cell? ⟨gb295, 3, none⟩ = some (.int .i64 ((rd_T26 t285 x81_3).f3.f0)) ∧ w'.cell? ⟨gb295, 4, none⟩ = some (.int .i64 ((rd_T26 t285 x81_3).f3.f1)) ∧ w'.cell? ⟨gb295, 5, none⟩ = some (.int .i64 ((rd_T26 t285 x81_3).f4)) ∧ w'.cell? ⟨gb295, 6, none⟩ = some (.bool ((rd_T26 t285 x81_3).f5)) ∧ w'.cell? (ad294.add (((ji39)).toNat * 7)) = some (.int .i64 ((rd_T26 t285 (ji39)).f0)) ∧ w'.cell? ⟨(ad294.add (((ji39)).toNat * 7)).block, (ad294.add (((ji39)).toNat * 7)).off + 1, none⟩ = some (.string ((rd_T26 t285 (ji39)).f1)) ∧ w'.cell? ⟨(ad294.add (((ji39)).toNat * 7)).block, (ad294.add (((ji39)).toNat * 7)).off + 2, none⟩ = some (.int .i64 ((rd_T26 t285 (ji39)).f2)) ∧ w'.cell? ⟨(ad294.add (((ji39)).toNat * 7)).block, (ad294.add (((ji39)).toNat * 7)).off + 3, none⟩ = some (.int .i64 ((rd_T26 t285 (ji39)).f3.f0)) ∧ w'.cell? ⟨(ad294.add (((ji39)).toNat * 7)).block, (ad294.add (((ji39)).toNat * 7)).off + 4, none⟩ = some (.int .i64 ((rd_T26 t285 (ji39)).f3.f1)) ∧ w'.cell? ⟨(ad294.add (((ji39)).toNat * 7)).block, (ad294.add (((ji39)).toNat * 7)).off + 5, none⟩ = some (.int .i64 ((rd_T26 t285 (ji39)).f4)) ∧ w'.cell? ⟨(ad294.add (((ji39)).toNat * 7)).block, (ad294.add (((ji39)).toNat * 7)).off + 6, none⟩ = some (.bool ((rd_T26 t285 (ji39)).f5))) (ds := []) #[false, false, false, false, false, false, false, false, false, false, false, false] (by kernel_rfl) rfl rfl ⟨(kC BK295.out 0).trans rfl, (kC BK295.out 1).trans rfl, (kC BK295.out 2).trans rfl, (kC BK295.out 3).trans rfl, (kC BK295.out 4).trans rfl, (kC BK295.out 5).trans rfl, (kC BK295.out 6).trans rfl, hx296_0, hx296_1, hx296_2, hx296_3, hx296_4, hx296_5, hx296_6⟩ (fun hHeld => ?_); refine with_tabW cohousinglaw16_FactsOrder.tab12 cohousinglaw16_FactsOrder.bits12 (fun HT_ HW_ => ?_)
                 generalize w43.drew = w44 at HO_16 HO_17 HO_79 BK295 HB hx296_0 hx296_1 hx296_2 hx296_3 hx296_4 hx296_5 hx296_6 hHeld ⊢
                 refine pure_ (i := 0) (N := some 86) (v := ?_) (a' := ?_) #[true, false, false, false, false, false, false, false, false, false, false, false] rfl rfl (any_of HT_.out (by kernel_rfl)) (fun _ _ _ h => h) (Or.inl ⟨by rfl, ?_⟩) ?_ ?_
                 rotate_left
                 ·intro w'
                  go_simp
                  with_reducible rfl
                 rotate_left
                 ·simp only [Act.put, List.setIfInBounds_toArray, List.set_cons_zero, List.set_cons_succ, i64_w, i32_w]
                  rfl
                 refine pure_ (i := 1) (N := some 87) (v := ?_) (a' := ?_) #[true, true, false, false, false, false, false, false, false, false, false, false] rfl rfl (any_of HT_.out (by kernel_rfl)) (fun _ _ _ h => h) (Or.inl ⟨by rfl, ?_⟩) ?_ ?_
                 rotate_left
                 ·intro w'
                  go_simp
                  with_reducible rfl
                 rotate_left
                 ·simp only [Act.put, List.setIfInBounds_toArray, List.set_cons_zero, List.set_cons_succ, i64_w, i32_w]
                  rfl
                 refine pure_ (i := 2) (N := some 88) (v := ?_) (a' := ?_) #[true, true, true, false, false, false, false, false, false, false, false, false] rfl rfl (any_of HT_.out (by kernel_rfl)) (fun _ _ _ h => h) (Or.inl ⟨by rfl, ?_⟩) ?_ ?_
                 rotate_left
                 ·intro w'
                  go_simp
                  with_reducible rfl
                 rotate_left
                 ·simp only [Act.put, List.setIfInBounds_toArray, List.set_cons_zero, List.set_cons_succ, i64_w, i32_w]
                  rfl
                 refine pure_ (i := 3) (N := some 89) (v := ?_) (a' := ?_) #[true, true, true, true, false, false, false, false, false, false, false, false] rfl rfl (any_of HT_.out (by kernel_rfl)) (fun _ _ _ h => h) (Or.inl ⟨by rfl, ?_⟩) ?_ ?_
                 rotate_left
                 ·intro w'
                  go_simp
                  with_reducible rfl
                 rotate_left
                 ·simp only [Act.put, List.setIfInBounds_toArray, List.set_cons_zero, List.set_cons_succ, i64_w, i32_w]
                  rfl
                 refine pure_ (i := 4) (N := some 90) (v := ?_) (a' := ?_) #[true, true, true, true, true, false, false, false, false, false, false, false] rfl rfl (any_of HT_.out (by kernel_rfl)) (fun _ _ _ h => h) (Or.inl ⟨by rfl, ?_⟩) ?_ ?_
                 rotate_left
                 ·intro w'
                  go_simp
                  with_reducible rfl
                 rotate_left
                 ·simp only [Act.put, List.setIfInBounds_toArray, List.set_cons_zero, List.set_cons_succ, i64_w, i32_w]
                  rfl
                 refine pure_ (i := 5) (N := some 91) (v := ?_) (a' := ?_) #[true, true, true, true, true, true, false, false, false, false, false, false] rfl rfl (any_of HT_.out (by kernel_rfl)) (fun _ _ _ h => h) (Or.inl ⟨by rfl, ?_⟩) ?_ ?_
                 rotate_left
                 ·intro w'
                  go_simp
                  with_reducible rfl
                 rotate_left
                 ·simp only [Act.put, List.setIfInBounds_toArray, List.set_cons_zero, List.set_cons_succ, i64_w, i32_w]
                  rfl
                 refine pure_ (i := 6) (N := some 92) (v := ?_) (a' := ?_) #[true, true, true, true, true, true, true, false, false, false, false, false] rfl rfl (any_of HT_.out (by kernel_rfl)) (fun _ _ _ h => h) (Or.inl ⟨by rfl, ?_⟩) ?_ ?_
                 rotate_left
                 ·intro w'
                  go_simp
                  with_reducible rfl
                 rotate_left
                 ·simp only [Act.put, List.setIfInBounds_toArray, List.set_cons_zero, List.set_cons_succ, i64_w, i32_w]
                  rfl
                 refine take_ (i := 7) (N := some 93) (v := ?_) (a' := ?_) #[true, true, true, true, true, true, true, true, false, false, false, false] rfl rfl (take_ofW HT_.out HW_.out (by kernel_rfl)) (fun _ _ _ h => h) (Or.inl ⟨by rfl, ?_⟩) hHeld ?_ ?_
                 rotate_left
                 ·rintro w' ⟨s0, s1, s2, s3, s4, s5, s6, s7, s8, s9, s10, s11, s12, s13⟩
                  go_simp
                  with_reducible rfl
                 rotate_left
                 ·simp only [Act.put, List.setIfInBounds_toArray, List.set_cons_zero, List.set_cons_succ, i64_w, i32_w]
                  rfl
                 refine take_ (i := 8) (N := some 94) (v := ?_) (a' := ?_) #[true, true, true, true, true, true, true, true, true, false, false, false] rfl rfl (take_ofW HT_.out HW_.out (by kernel_rfl)) (fun _ _ _ h => h) (Or.inl ⟨by rfl, ?_⟩) hHeld ?_ ?_
                 rotate_left
                 ·rintro w' ⟨s0, s1, s2, s3, s4, s5, s6, s7, s8, s9, s10, s11, s12, s13⟩
                  go_simp
                  with_reducible rfl
                 rotate_left
                 ·simp only [Act.put, List.setIfInBounds_toArray, List.set_cons_zero, List.set_cons_succ, i64_w, i32_w]
                  rfl
                 refine one_ (i := 9) (N := some 95) #[true, true, true, true, true, true, true, true, true, true, false, false] rfl rfl (one_of HT_.out (by kernel_rfl)) (by decide) (fun K hK => ?_)
                 refine goes_ Tryz.func26 (by kernel_rfl) rfl #[.agg #[.int .i64 ((rd_T26 t285 (ji39)).f0), .string ((rd_T26 t285 (ji39)).f1), .int .i64 ((rd_T26 t285 (ji39)).f2), .int .i64 ((rd_T26 t285 (ji39)).f3.f0), .int .i64 ((rd_T26 t285 (ji39)).f3.f1), .int .i64 ((rd_T26 t285 (ji39)).f4), .bool ((rd_T26 t285 (ji39)).f5)], .agg #[.int .i64 ((rd_T26 t285 x81_3).f0), .string ((rd_T26 t285 x81_3).f1), .int .i64 ((rd_T26 t285 x81_3).f2), .int .i64 ((rd_T26 t285 x81_3).f3.f0), .int .i64 ((rd_T26 t285 x81_3).f3.f1), .int .i64 ((rd_T26 t285 x81_3).f4), .bool ((rd_T26 t285 x81_3).f5)]] (by rfl) rfl rfl (by (try simp only [List.map_toArray, List.map_cons, List.map_nil]); first | done | (simp only [hji39]; rfl) | rfl | (simp only [List.length_drop, List.length_take]; rfl)) ?_
                 with_reducible refine (cohousingref16_Before.calls ((rd_T26 t285 (ji39)).f0) ((rd_T26 t285 (ji39)).f1) ((rd_T26 t285 (ji39)).f2) ((rd_T26 t285 (ji39)).f3.f0) ((rd_T26 t285 (ji39)).f3.f1) ((rd_T26 t285 (ji39)).f4) ((rd_T26 t285 (ji39)).f5) ((rd_T26 t285 x81_3).f0) ((rd_T26 t285 x81_3).f1) ((rd_T26 t285 x81_3).f2) ((rd_T26 t285 x81_3).f3.f0) ((rd_T26 t285 x81_3).f3.f1) ((rd_T26 t285 x81_3).f4) ((rd_T26 t285 x81_3).f5) t297 _ A42.out).mono ?_
                 rintro e w45 ⟨rfl, hb⟩
                 have HS7_ := (hb.cell (World.block_lt_of_cell? _ _ (hHeld.2.2.2.2.2.2.2.1))).trans (hHeld.2.2.2.2.2.2.2.1)
                 have HS8_ := (hb.cell (World.block_lt_of_cell? _ _ (hHeld.2.2.2.2.2.2.2.2.1))).trans (hHeld.2.2.2.2.2.2.2.2.1)
                 have HS9_ := (hb.cell (World.block_lt_of_cell? _ _ (hHeld.2.2.2.2.2.2.2.2.2.1))).trans (hHeld.2.2.2.2.2.2.2.2.2.1)
                 have HS10_ := (hb.cell (World.block_lt_of_cell? _ _ (hHeld.2.2.2.2.2.2.2.2.2.2.1))).trans (hHeld.2.2.2.2.2.2.2.2.2.2.1)
                 have HS11_ := (hb.cell (World.block_lt_of_cell? _ _ (hHeld.2.2.2.2.2.2.2.2.2.2.2.1))).trans (hHeld.2.2.2.2.2.2.2.2.2.2.2.1)
                 have HS12_ := (hb.cell (World.block_lt_of_cell? _ _ (hHeld.2.2.2.2.2.2.2.2.2.2.2.2.1))).trans (hHeld.2.2.2.2.2.2.2.2.2.2.2.2.1)
                 have HS13_ := (hb.cell (World.block_lt_of_cell? _ _ (hHeld.2.2.2.2.2.2.2.2.2.2.2.2.2))).trans (hHeld.2.2.2.2.2.2.2.2.2.2.2.2.2)
                 refine ⟨_, rfl, ?_⟩
                 have n0_ := Aside0.mk (Kd.R_below (by (with_reducible repeat (first | apply Kd.R_alloc | apply Kd.R_drewN | apply Kd.R_drew)); exact HO_16.out) hb)
                 have n1_ := Aside0.mk (Kd.R_below (by (with_reducible repeat (first | apply Kd.R_alloc | apply Kd.R_drewN | apply Kd.R_drew)); exact HO_17.out) hb)
                 have n2_ := Aside0.mk (Kd.R_below (by (with_reducible repeat (first | apply Kd.R_alloc | apply Kd.R_drewN | apply Kd.R_drew)); exact HO_79.out) hb)
                 have n3_ := Aside0.mk (kB (g := gb295) (o := .cells #[.int .i64 ((rd_T26 t285 x81_3).f0), .string ((rd_T26 t285 x81_3).f1), .int .i64 ((rd_T26 t285 x81_3).f2), .int .i64 ((rd_T26 t285 x81_3).f3.f0), .int .i64 ((rd_T26 t285 x81_3).f3.f1), .int .i64 ((rd_T26 t285 x81_3).f4), .bool ((rd_T26 t285 x81_3).f5)] 26 (0, 0)) (by (with_reducible repeat (first | refine kN ?_ _ | refine kD ?_ | refine kA ?_ _)); exact BK295.out) hb)
                 have n4_ := Aside0.mk (bT (by repeat (first | (with_reducible first | exact HB.out | apply bA | apply bN | apply b1 | refine bS ?_ GE295.out) | exact HB.out)) hb)
                 clear HO_16
                 clear HO_17
                 clear HO_79
                 clear BK295
                 clear HB
                 have HO_16 := n0_
                 have HO_17 := n1_
                 have HO_79 := n2_
                 have BK295 := n3_
                 have HB := n4_
                 clear n0_ n1_ n2_ n3_ n4_
                 (try clear hb)
                 (try clear hb2)
                 (try clear hk)
                 (try clear hi)
                 refine hK.out _ _ ⟨(kC BK295.out 0).trans rfl, (kC BK295.out 1).trans rfl, (kC BK295.out 2).trans rfl, (kC BK295.out 3).trans rfl, (kC BK295.out 4).trans rfl, (kC BK295.out 5).trans rfl, (kC BK295.out 6).trans rfl, HS7_, HS8_, HS9_, HS10_, HS11_, HS12_, HS13_⟩ (fun hHeld => ?_)
                 clear hK K
                 refine norm_ (a' := ?_) ?_ ?_
                 rotate_left
                 ·show Act.put _ (some 95) _ = _
                  simp only [Act.put, List.setIfInBounds_toArray, List.set_cons_zero, List.set_cons_succ, i64_w, i32_w]
                  rfl
                 refine pure_ (i := 10) (N := some 96) (v := ?_) (a' := ?_) #[true, true, true, true, true, true, true, true, true, true, true, false] rfl rfl (any_of HT_.out (by kernel_rfl)) (fun _ _ _ h => h) (Or.inl ⟨by rfl, ?_⟩) ?_ ?_
                 rotate_left
                 ·intro w'
                  go_simp
                  with_reducible rfl
                 rotate_left
                 ·simp only [Act.put, List.setIfInBounds_toArray, List.set_cons_zero, List.set_cons_succ, i64_w, i32_w]
                  rfl
                 refine pure_ (i := 11) (N := some 97) (v := ?_) (a' := ?_) #[true, true, true, true, true, true, true, true, true, true, true, true] rfl rfl (any_of HT_.out (by kernel_rfl)) (fun _ _ _ h => h) (Or.inl ⟨by rfl, ?_⟩) ?_ ?_
                 rotate_left
                 ·intro w'
                  go_simp
                  with_reducible rfl
                 rotate_left
                 ·simp only [Act.put, List.setIfInBounds_toArray, List.set_cons_zero, List.set_cons_succ, i64_w, i32_w]
                  rfl
                 refine done_ (done_of HT_.out (by kernel_rfl)) ?_
                 try go_wp2
                 go_meet
                 case rel => exact ⟨_, (!t297), (by first | rfl | (simp; done) | (simp [*]; done)), H', ⟨by have := HJ9.out; have := HJ19.out; have := HK3.out; first | omega | exact Nat.le_refl _⟩, ⟨by (with_reducible repeat (first | apply Kd.R_alloc | apply Kd.R_drewN | apply Kd.R_drew)); exact HO_16.out⟩, ⟨by (with_reducible repeat (first | apply Kd.R_alloc | apply Kd.R_drewN | apply Kd.R_drew)); exact HO_17.out⟩, ⟨by (with_reducible repeat (first | apply Kd.R_alloc | apply Kd.R_drewN | apply Kd.R_drew)); exact HO_79.out⟩, ⟨by (with_reducible repeat (first | refine kN ?_ _ | refine kD ?_ | refine kA ?_ _)); exact BK295.out⟩, ⟨by repeat (first | (with_reducible first | exact HB.out | apply bA | apply bN | apply b1 | refine bS ?_ GE295.out) | exact HB.out)⟩⟩
                ·rw [if_neg c41] at H
                 exact absurd H (by simp)
               ·rw [if_neg c40] at H
                exact absurd H (by simp)
              ·rw [if_neg c38] at H
               have c38b0 : decide (0 < x81_3) = false := dF c38
               clear c38
               (first | rw [c38b0] | (simp only [i64_w, i32_w]; rw [c38b0]) | skip)
               have H' := Aside0.mk H
               clear H
               try go_wp2
               have n0_ : Aside0 (Kd.R k26 26 (((((((w36.setCell ⟨gb295, 0, none⟩ (.int .i64 ((rd_T26 t285 x81_3).f0))).setCell ⟨gb295, 1, none⟩ (.string ((rd_T26 t285 x81_3).f1))).setCell ⟨gb295, 2, none⟩ (.int .i64 ((rd_T26 t285 x81_3).f2))).setCell ⟨gb295, 3, none⟩ (.int .i64 ((rd_T26 t285 x81_3).f3.f0))).setCell ⟨gb295, 4, none⟩ (.int .i64 ((rd_T26 t285 x81_3).f3.f1))).setCell ⟨gb295, 5, none⟩ (.int .i64 ((rd_T26 t285 x81_3).f4))).setCell ⟨gb295, 6, none⟩ (.bool ((rd_T26 t285 x81_3).f5))) w.heap.size (fun k_ => some k_ ≠ (.slice (some ad294) t285.length co31 : Value).ownBlock ∧ some k_ ≠ (.slice (some ad294) t285.length co31 : Value).ownBlock ∧ k_ ≠ gb295) (.slice Ao23 t282.length co23) t282) := ⟨by (with_reducible repeat (first | apply Kd.R_alloc | apply Kd.R_drewN | apply Kd.R_drew)); exact Kd.R_mono (Kd.R_far (p := ⟨gb295, 6, none⟩) (Kd.R_far (p := ⟨gb295, 5, none⟩) (Kd.R_far (p := ⟨gb295, 4, none⟩) (Kd.R_far (p := ⟨gb295, 3, none⟩) (Kd.R_far (p := ⟨gb295, 2, none⟩) (Kd.R_far (p := ⟨gb295, 1, none⟩) (Kd.R_far (p := ⟨gb295, 0, none⟩) (Kd.R_mono HO_16.out (fun k_ hk => (⟨hk, hk.2⟩ : _ ∧ k_ ≠ gb295))) (fun _ hk => hk.2) (.int .i64 ((rd_T26 t285 x81_3).f0))) (fun _ hk => hk.2) (.string ((rd_T26 t285 x81_3).f1))) (fun _ hk => hk.2) (.int .i64 ((rd_T26 t285 x81_3).f2))) (fun _ hk => hk.2) (.int .i64 ((rd_T26 t285 x81_3).f3.f0))) (fun _ hk => hk.2) (.int .i64 ((rd_T26 t285 x81_3).f3.f1))) (fun _ hk => hk.2) (.int .i64 ((rd_T26 t285 x81_3).f4))) (fun _ hk => hk.2) (.bool ((rd_T26 t285 x81_3).f5))) (fun _ hk => ⟨hk.1.1.1, ⟨hk.1.1.2, hk.1.2⟩⟩)⟩
               have n1_ : Aside0 (Kd.R k26 26 (((((((w36.setCell ⟨gb295, 0, none⟩ (.int .i64 ((rd_T26 t285 x81_3).f0))).setCell ⟨gb295, 1, none⟩ (.string ((rd_T26 t285 x81_3).f1))).setCell ⟨gb295, 2, none⟩ (.int .i64 ((rd_T26 t285 x81_3).f2))).setCell ⟨gb295, 3, none⟩ (.int .i64 ((rd_T26 t285 x81_3).f3.f0))).setCell ⟨gb295, 4, none⟩ (.int .i64 ((rd_T26 t285 x81_3).f3.f1))).setCell ⟨gb295, 5, none⟩ (.int .i64 ((rd_T26 t285 x81_3).f4))).setCell ⟨gb295, 6, none⟩ (.bool ((rd_T26 t285 x81_3).f5))) w.heap.size (fun k_ => some k_ ≠ (.slice Ao23 t282.length co23 : Value).ownBlock ∧ k_ ≠ gb295) (.slice (some ad294) t285.length co31) t285) := ⟨by (with_reducible repeat (first | apply Kd.R_alloc | apply Kd.R_drewN | apply Kd.R_drew)); exact Kd.R_mono (Kd.R_far (p := ⟨gb295, 6, none⟩) (Kd.R_far (p := ⟨gb295, 5, none⟩) (Kd.R_far (p := ⟨gb295, 4, none⟩) (Kd.R_far (p := ⟨gb295, 3, none⟩) (Kd.R_far (p := ⟨gb295, 2, none⟩) (Kd.R_far (p := ⟨gb295, 1, none⟩) (Kd.R_far (p := ⟨gb295, 0, none⟩) (Kd.R_mono HO_17.out (fun k_ hk => (⟨hk, hk.2⟩ : _ ∧ k_ ≠ gb295))) (fun _ hk => hk.2) (.int .i64 ((rd_T26 t285 x81_3).f0))) (fun _ hk => hk.2) (.string ((rd_T26 t285 x81_3).f1))) (fun _ hk => hk.2) (.int .i64 ((rd_T26 t285 x81_3).f2))) (fun _ hk => hk.2) (.int .i64 ((rd_T26 t285 x81_3).f3.f0))) (fun _ hk => hk.2) (.int .i64 ((rd_T26 t285 x81_3).f3.f1))) (fun _ hk => hk.2) (.int .i64 ((rd_T26 t285 x81_3).f4))) (fun _ hk => hk.2) (.bool ((rd_T26 t285 x81_3).f5))) (fun _ hk => ⟨hk.1.1, hk.1.2⟩)⟩
               have n2_ : Aside0 (Kd.R k26 26 (((((((w36.setCell ⟨gb295, 0, none⟩ (.int .i64 ((rd_T26 t285 x81_3).f0))).setCell ⟨gb295, 1, none⟩ (.string ((rd_T26 t285 x81_3).f1))).setCell ⟨gb295, 2, none⟩ (.int .i64 ((rd_T26 t285 x81_3).f2))).setCell ⟨gb295, 3, none⟩ (.int .i64 ((rd_T26 t285 x81_3).f3.f0))).setCell ⟨gb295, 4, none⟩ (.int .i64 ((rd_T26 t285 x81_3).f3.f1))).setCell ⟨gb295, 5, none⟩ (.int .i64 ((rd_T26 t285 x81_3).f4))).setCell ⟨gb295, 6, none⟩ (.bool ((rd_T26 t285 x81_3).f5))) w.heap.size (fun k_ => some k_ ≠ (.slice Ao23 t282.length co23 : Value).ownBlock ∧ k_ ≠ gb295) (.slice (some ad294) t285.length co31) t285) := ⟨by (with_reducible repeat (first | apply Kd.R_alloc | apply Kd.R_drewN | apply Kd.R_drew)); exact Kd.R_mono (Kd.R_far (p := ⟨gb295, 6, none⟩) (Kd.R_far (p := ⟨gb295, 5, none⟩) (Kd.R_far (p := ⟨gb295, 4, none⟩) (Kd.R_far (p := ⟨gb295, 3, none⟩) (Kd.R_far (p := ⟨gb295, 2, none⟩) (Kd.R_far (p := ⟨gb295, 1, none⟩) (Kd.R_far (p := ⟨gb295, 0, none⟩) (Kd.R_mono HO_79.out (fun k_ hk => (⟨hk, hk.2⟩ : _ ∧ k_ ≠ gb295))) (fun _ hk => hk.2) (.int .i64 ((rd_T26 t285 x81_3).f0))) (fun _ hk => hk.2) (.string ((rd_T26 t285 x81_3).f1))) (fun _ hk => hk.2) (.int .i64 ((rd_T26 t285 x81_3).f2))) (fun _ hk => hk.2) (.int .i64 ((rd_T26 t285 x81_3).f3.f0))) (fun _ hk => hk.2) (.int .i64 ((rd_T26 t285 x81_3).f3.f1))) (fun _ hk => hk.2) (.int .i64 ((rd_T26 t285 x81_3).f4))) (fun _ hk => hk.2) (.bool ((rd_T26 t285 x81_3).f5))) (fun _ hk => ⟨hk.1.1, hk.1.2⟩)⟩
               have n3_ : Aside0 ((((((((w36.setCell ⟨gb295, 0, none⟩ (.int .i64 ((rd_T26 t285 x81_3).f0))).setCell ⟨gb295, 1, none⟩ (.string ((rd_T26 t285 x81_3).f1))).setCell ⟨gb295, 2, none⟩ (.int .i64 ((rd_T26 t285 x81_3).f2))).setCell ⟨gb295, 3, none⟩ (.int .i64 ((rd_T26 t285 x81_3).f3.f0))).setCell ⟨gb295, 4, none⟩ (.int .i64 ((rd_T26 t285 x81_3).f3.f1))).setCell ⟨gb295, 5, none⟩ (.int .i64 ((rd_T26 t285 x81_3).f4))).setCell ⟨gb295, 6, none⟩ (.bool ((rd_T26 t285 x81_3).f5))).heap[gb295]? = some (.cells #[.int .i64 ((rd_T26 t285 x81_3).f0), .string ((rd_T26 t285 x81_3).f1), .int .i64 ((rd_T26 t285 x81_3).f2), .int .i64 ((rd_T26 t285 x81_3).f3.f0), .int .i64 ((rd_T26 t285 x81_3).f3.f1), .int .i64 ((rd_T26 t285 x81_3).f4), .bool ((rd_T26 t285 x81_3).f5)] 26 (0, 0))) := ⟨by (with_reducible repeat (first | refine kN ?_ _ | refine kD ?_ | refine kA ?_ _)); refine blk_put (cs := #[.int .i64 ((rd_T26 t285 x81_3).f0), .string ((rd_T26 t285 x81_3).f1), .int .i64 ((rd_T26 t285 x81_3).f2), .int .i64 ((rd_T26 t285 x81_3).f3.f0), .int .i64 ((rd_T26 t285 x81_3).f3.f1), .int .i64 ((rd_T26 t285 x81_3).f4), .bool false]) ?_ 6 _ rfl; (with_reducible repeat (first | refine kN ?_ _ | refine kD ?_ | refine kA ?_ _)); refine blk_put (cs := #[.int .i64 ((rd_T26 t285 x81_3).f0), .string ((rd_T26 t285 x81_3).f1), .int .i64 ((rd_T26 t285 x81_3).f2), .int .i64 ((rd_T26 t285 x81_3).f3.f0), .int .i64 ((rd_T26 t285 x81_3).f3.f1), .int .i64 0, .bool false]) ?_ 5 _ rfl; (with_reducible repeat (first | refine kN ?_ _ | refine kD ?_ | refine kA ?_ _)); refine blk_put (cs := #[.int .i64 ((rd_T26 t285 x81_3).f0), .string ((rd_T26 t285 x81_3).f1), .int .i64 ((rd_T26 t285 x81_3).f2), .int .i64 ((rd_T26 t285 x81_3).f3.f0), .int .i64 0, .int .i64 0, .bool false]) ?_ 4 _ rfl; (with_reducible repeat (first | refine kN ?_ _ | refine kD ?_ | refine kA ?_ _)); refine blk_put (cs := #[.int .i64 ((rd_T26 t285 x81_3).f0), .string ((rd_T26 t285 x81_3).f1), .int .i64 ((rd_T26 t285 x81_3).f2), .int .i64 0, .int .i64 0, .int .i64 0, .bool false]) ?_ 3 _ rfl; (with_reducible repeat (first | refine kN ?_ _ | refine kD ?_ | refine kA ?_ _)); refine blk_put (cs := #[.int .i64 ((rd_T26 t285 x81_3).f0), .string ((rd_T26 t285 x81_3).f1), .int .i64 0, .int .i64 0, .int .i64 0, .int .i64 0, .bool false]) ?_ 2 _ rfl; (with_reducible repeat (first | refine kN ?_ _ | refine kD ?_ | refine kA ?_ _)); refine blk_put (cs := #[.int .i64 ((rd_T26 t285 x81_3).f0), .string (⟨#[]⟩ : ByteArray), .int .i64 0, .int .i64 0, .int .i64 0, .int .i64 0, .bool false]) ?_ 1 _ rfl; (with_reducible repeat (first | refine kN ?_ _ | refine kD ?_ | refine kA ?_ _)); refine blk_put (cs := #[.int .i64 0, .string (⟨#[]⟩ : ByteArray), .int .i64 0, .int .i64 0, .int .i64 0, .int .i64 0, .bool false]) ?_ 0 _ rfl; (with_reducible repeat (first | refine kN ?_ _ | refine kD ?_ | refine kA ?_ _)); exact BK295.out⟩
               have n4_ : Aside0 (Below w.heap.size w (((((((w36.setCell ⟨gb295, 0, none⟩ (.int .i64 ((rd_T26 t285 x81_3).f0))).setCell ⟨gb295, 1, none⟩ (.string ((rd_T26 t285 x81_3).f1))).setCell ⟨gb295, 2, none⟩ (.int .i64 ((rd_T26 t285 x81_3).f2))).setCell ⟨gb295, 3, none⟩ (.int .i64 ((rd_T26 t285 x81_3).f3.f0))).setCell ⟨gb295, 4, none⟩ (.int .i64 ((rd_T26 t285 x81_3).f3.f1))).setCell ⟨gb295, 5, none⟩ (.int .i64 ((rd_T26 t285 x81_3).f4))).setCell ⟨gb295, 6, none⟩ (.bool ((rd_T26 t285 x81_3).f5)))) := ⟨by repeat (first | (with_reducible first | exact HB.out | apply bA | apply bN | apply b1 | refine bS ?_ GE295.out) | exact HB.out)⟩
               (try clear HO_16)
               (try clear HO_17)
               (try clear HO_79)
               (try clear BK295)
               (try clear HB)
               generalize (((((((w36.setCell ⟨gb295, 0, none⟩ (.int .i64 ((rd_T26 t285 x81_3).f0))).setCell ⟨gb295, 1, none⟩ (.string ((rd_T26 t285 x81_3).f1))).setCell ⟨gb295, 2, none⟩ (.int .i64 ((rd_T26 t285 x81_3).f2))).setCell ⟨gb295, 3, none⟩ (.int .i64 ((rd_T26 t285 x81_3).f3.f0))).setCell ⟨gb295, 4, none⟩ (.int .i64 ((rd_T26 t285 x81_3).f3.f1))).setCell ⟨gb295, 5, none⟩ (.int .i64 ((rd_T26 t285 x81_3).f4))).setCell ⟨gb295, 6, none⟩ (.bool ((rd_T26 t285 x81_3).f5))) = w46 at n0_ n1_ n2_ n3_ n4_ ⊢
               have HO_16 := n0_
               have HO_17 := n1_
               have HO_79 := n2_
               have BK295 := n3_
               have HB := n4_
               clear n0_ n1_ n2_ n3_ n4_
               have n0_ := Aside0.mk (Kd.R_drew HO_16.out)
               have n1_ := Aside0.mk (Kd.R_drew HO_17.out)
               have n2_ := Aside0.mk (Kd.R_drew HO_79.out)
               have n3_ := Aside0.mk (kD BK295.out)
               have n4_ := Aside0.mk (b1 HB.out)
               clear HO_16
               clear HO_17
               clear HO_79
               clear BK295
               clear HB
               have HO_16 := n0_
               have HO_17 := n1_
               have HO_79 := n2_
               have BK295 := n3_
               have HB := n4_
               clear n0_ n1_ n2_ n3_ n4_
               refine start_ (n := 12) (S := fun w' => True) (ds := []) #[false, false, false, false, false, false, false, false, false, false, false, false] (by kernel_rfl) rfl rfl trivial (fun hHeld => ?_); refine with_tabW cohousinglaw16_FactsOrder.tab12 cohousinglaw16_FactsOrder.bits12 (fun HT_ HW_ => ?_)
               generalize w46.drew = w47 at HO_16 HO_17 HO_79 BK295 HB hHeld ⊢
               refine pure_ (i := 0) (N := some 86) (v := ?_) (a' := ?_) #[true, false, false, false, false, false, false, false, false, false, false, false] rfl rfl (any_of HT_.out (by kernel_rfl)) (fun _ _ _ h => h) (Or.inl ⟨by rfl, ?_⟩) ?_ ?_
               rotate_left
               ·intro w'
                go_simp
                with_reducible rfl
               rotate_left
               ·simp only [Act.put, List.setIfInBounds_toArray, List.set_cons_zero, List.set_cons_succ, i64_w, i32_w]
                rfl
               refine pure_ (i := 1) (N := some 87) (v := ?_) (a' := ?_) #[true, true, false, false, false, false, false, false, false, false, false, false] rfl rfl (any_of HT_.out (by kernel_rfl)) (fun _ _ _ h => h) (Or.inl ⟨by rfl, ?_⟩) ?_ ?_
               rotate_left
               ·intro w'
                go_simp
                with_reducible rfl
               rotate_left
               ·simp only [Act.put, List.setIfInBounds_toArray, List.set_cons_zero, List.set_cons_succ, i64_w, i32_w]
                rfl
               refine pure_ (i := 2) (N := some 88) (v := ?_) (a' := ?_) #[true, true, true, false, false, false, false, false, false, false, false, false] rfl rfl (any_of HT_.out (by kernel_rfl)) (fun _ _ _ h => h) (Or.inl ⟨by rfl, ?_⟩) ?_ ?_
               rotate_left
               ·intro w'
                go_simp
                with_reducible rfl
               rotate_left
               ·simp only [Act.put, List.setIfInBounds_toArray, List.set_cons_zero, List.set_cons_succ, i64_w, i32_w]
                rfl
               refine pure_ (i := 3) (N := some 89) (v := undef) (a' := ?_) #[true, true, true, true, false, false, false, false, false, false, false, false] rfl rfl (any_of HT_.out (by kernel_rfl)) (fun _ _ _ h => h) (Or.inr ⟨by rfl, rfl⟩) ?_ ?_
               rotate_left
               ·simp only [Act.put, List.setIfInBounds_toArray, List.set_cons_zero, List.set_cons_succ, i64_w, i32_w]
                rfl
               refine pure_ (i := 4) (N := some 90) (v := undef) (a' := ?_) #[true, true, true, true, true, false, false, false, false, false, false, false] rfl rfl (any_of HT_.out (by kernel_rfl)) (fun _ _ _ h => h) (Or.inr ⟨by rfl, rfl⟩) ?_ ?_
               rotate_left
               ·simp only [Act.put, List.setIfInBounds_toArray, List.set_cons_zero, List.set_cons_succ, i64_w, i32_w]
                rfl
               refine pure_ (i := 5) (N := some 91) (v := undef) (a' := ?_) #[true, true, true, true, true, true, false, false, false, false, false, false] rfl rfl (any_of HT_.out (by kernel_rfl)) (fun _ _ _ h => h) (Or.inr ⟨by rfl, rfl⟩) ?_ ?_
               rotate_left
               ·simp only [Act.put, List.setIfInBounds_toArray, List.set_cons_zero, List.set_cons_succ, i64_w, i32_w]
                rfl
               refine pure_ (i := 6) (N := some 92) (v := undef) (a' := ?_) #[true, true, true, true, true, true, true, false, false, false, false, false] rfl rfl (any_of HT_.out (by kernel_rfl)) (fun _ _ _ h => h) (Or.inr ⟨by rfl, rfl⟩) ?_ ?_
               rotate_left
               ·simp only [Act.put, List.setIfInBounds_toArray, List.set_cons_zero, List.set_cons_succ, i64_w, i32_w]
                rfl
               refine pure_ (i := 7) (N := some 93) (v := undef) (a' := ?_) #[true, true, true, true, true, true, true, true, false, false, false, false] rfl rfl (any_of HT_.out (by kernel_rfl)) (fun _ _ _ h => h) (Or.inr ⟨by rfl, rfl⟩) ?_ ?_
               rotate_left
               ·simp only [Act.put, List.setIfInBounds_toArray, List.set_cons_zero, List.set_cons_succ, i64_w, i32_w]
                rfl
               refine pure_ (i := 8) (N := some 94) (v := undef) (a' := ?_) #[true, true, true, true, true, true, true, true, true, false, false, false] rfl rfl (any_of HT_.out (by kernel_rfl)) (fun _ _ _ h => h) (Or.inr ⟨by rfl, rfl⟩) ?_ ?_
               rotate_left
               ·simp only [Act.put, List.setIfInBounds_toArray, List.set_cons_zero, List.set_cons_succ, i64_w, i32_w]
                rfl
               refine pure_ (i := 9) (N := some 95) (v := undef) (a' := ?_) #[true, true, true, true, true, true, true, true, true, true, false, false] rfl rfl (any_of HT_.out (by kernel_rfl)) (fun _ _ _ h => h) (Or.inr ⟨by rfl, rfl⟩) ?_ ?_
               rotate_left
               ·simp only [Act.put, List.setIfInBounds_toArray, List.set_cons_zero, List.set_cons_succ, i64_w, i32_w]
                rfl
               refine pure_ (i := 10) (N := some 96) (v := undef) (a' := ?_) #[true, true, true, true, true, true, true, true, true, true, true, false] rfl rfl (any_of HT_.out (by kernel_rfl)) (fun _ _ _ h => h) (Or.inr ⟨by rfl, rfl⟩) ?_ ?_
               rotate_left
               ·simp only [Act.put, List.setIfInBounds_toArray, List.set_cons_zero, List.set_cons_succ, i64_w, i32_w]
                rfl
               refine pure_ (i := 11) (N := some 97) (v := ?_) (a' := ?_) #[true, true, true, true, true, true, true, true, true, true, true, true] rfl rfl (any_of HT_.out (by kernel_rfl)) (fun _ _ _ h => h) (Or.inl ⟨by rfl, ?_⟩) ?_ ?_
               rotate_left
               ·intro w'
                go_simp
                with_reducible rfl
               rotate_left
               ·simp only [Act.put, List.setIfInBounds_toArray, List.set_cons_zero, List.set_cons_succ, i64_w, i32_w]
                rfl
               refine done_ (done_of HT_.out (by kernel_rfl)) ?_
               try go_wp2
               go_meet
               case rel => exact ⟨_, (false), (by first | rfl | (simp; done) | (simp [*]; done)), H', ⟨by have := HJ9.out; have := HJ19.out; have := HK3.out; first | omega | exact Nat.le_refl _⟩, ⟨by (with_reducible repeat (first | apply Kd.R_alloc | apply Kd.R_drewN | apply Kd.R_drew)); exact HO_16.out⟩, ⟨by (with_reducible repeat (first | apply Kd.R_alloc | apply Kd.R_drewN | apply Kd.R_drew)); exact HO_17.out⟩, ⟨by (with_reducible repeat (first | apply Kd.R_alloc | apply Kd.R_drewN | apply Kd.R_drew)); exact HO_79.out⟩, ⟨by (with_reducible repeat (first | refine kN ?_ _ | refine kD ?_ | refine kA ?_ _)); exact BK295.out⟩, ⟨by repeat (first | (with_reducible first | exact HB.out | apply bA | apply bN | apply b1 | refine bS ?_ GE295.out) | exact HB.out)⟩⟩
             case rest =>
              clear HC35
              try clear c1
              try clear c2
              try clear p2
              try clear q2
              try clear hx2
              try clear c3
              try clear c4
              try clear p6
              try clear c7
              try clear c9
              try clear c10
              try clear c12
              try clear c12b0
              try clear c12b1
              try clear c13
              try clear c13b0
              try clear c13b1
              try clear c16
              try clear c22
              try clear c25
              try clear c25b0
              try clear c25b1
              try clear c26
              try clear c26b0
              try clear c26b1
              try clear p29
              try clear q29
              try clear hx29
              try clear c30
              try clear c32
              try clear c32b0
              try clear c33
              try clear c33b0
              try clear c34
              try clear c34b0
              try clear c38
              try clear c38b0
              try clear c40
              try clear c40b0
              try clear c41
              try clear c41b0
              try clear hcz37_0
              try clear hcz37_1
              try clear hcz37_2
              try clear hcz37_3
              try clear hcz37_4
              try clear hcz37_5
              try clear hcz37_6
              try clear hfz37_0
              try clear hfz37_1
              try clear hfz37_2
              try clear hfz37_3
              try clear hfz37_4
              try clear hfz37_5
              try clear hfz37_6
              try clear hx294_0
              try clear hx294_1
              try clear hx294_2
              try clear hx294_3
              try clear hx294_4
              try clear hx294_5
              try clear hx294_6
              try clear hx296_0
              try clear hx296_1
              try clear hx296_2
              try clear hx296_3
              try clear hx296_4
              try clear hx296_5
              try clear hx296_6
              try clear p2
              try clear p294
              try clear p296
              try clear q294
              try clear q296
              obtain ⟨kq, x97_34, rfl, HA, HJ34, HO_16, HO_17, HO_79, BK295, HB⟩ := hcut
              cases kq with
              | zero => exact absurd HA.out (by simp [cohousinglaw16_FactsOrder.j3])
              | succ kj34 =>
               have H := HA.out
               clear HA
               simp only [cohousinglaw16_FactsOrder.j3] at H
               by_cases c48 : x97_34 = true
               ·subst c48
                have H1 : (none) = some r := by rw [if_pos rfl] at H; exact H
                clear H
                have H := H1
                clear H1
                exact absurd H (by simp)
               ·replace c48 := Bool.eq_false_iff.mpr c48
                subst c48
                have H1 : (cohousinglaw16_FactsOrder.l1 kj34 l0 a2 a3 a4 a5 a6 x15_3 t282 t285 false t285 (t285.length : Int) x81_3 l0 (l0.length : Int) 0 ((rd_T26 t285 x81_3).f0) ((rd_T26 t285 x81_3).f1) ((rd_T26 t285 x81_3).f2) ((rd_T26 t285 x81_3).f3.f0) ((rd_T26 t285 x81_3).f3.f1) ((rd_T26 t285 x81_3).f4) ((rd_T26 t285 x81_3).f5)) = some r := by rw [if_neg (show ¬ (false = true) by decide)] at H; exact H
                clear H
                have H := H1
                clear H1
                have H' := Aside0.mk H
                clear H
                go_wp2
                go_loopg [23, 100] kj34 (fun kq v23 v100 w' => ∃ (x23_5 : Bool) (x100_5 : Int), v23 = .bool x23_5 ∧ v100 = .int .i64 x100_5 ∧ Aside0 (cohousinglaw16_FactsOrder.l1 kq l0 a2 a3 a4 a5 a6 x15_3 t282 t285 x23_5 t285 (t285.length : Int) x81_3 l0 (l0.length : Int) x100_5 ((rd_T26 t285 x81_3).f0) ((rd_T26 t285 x81_3).f1) ((rd_T26 t285 x81_3).f2) ((rd_T26 t285 x81_3).f3.f0) ((rd_T26 t285 x81_3).f3.f1) ((rd_T26 t285 x81_3).f4) ((rd_T26 t285 x81_3).f5) = some r) ∧ Aside0 (kq ≤ kj34) ∧ Aside0 (Kd.R k26 26 w' w.heap.size (fun k_ => some k_ ≠ ((.slice (some ad294) t285.length co31) : Value).ownBlock ∧ some k_ ≠ ((.slice (some ad294) t285.length co31) : Value).ownBlock ∧ k_ ≠ gb295) (.slice Ao23 t282.length co23) t282) ∧ Aside0 (Kd.R k26 26 w' w.heap.size (fun k_ => some k_ ≠ ((.slice Ao23 t282.length co23) : Value).ownBlock ∧ k_ ≠ gb295) (.slice (some ad294) t285.length co31) t285) ∧ Aside0 (Kd.R k26 26 w' w.heap.size (fun k_ => some k_ ≠ ((.slice Ao23 t282.length co23) : Value).ownBlock ∧ k_ ≠ gb295) (.slice (some ad294) t285.length co31) t285) ∧ Aside0 (w'.heap[gb295]? = some (.cells #[.int .i64 ((rd_T26 t285 x81_3).f0), .string ((rd_T26 t285 x81_3).f1), .int .i64 ((rd_T26 t285 x81_3).f2), .int .i64 ((rd_T26 t285 x81_3).f3.f0), .int .i64 ((rd_T26 t285 x81_3).f3.f1), .int .i64 ((rd_T26 t285 x81_3).f4), .bool ((rd_T26 t285 x81_3).f5)] 26 (0, 0))) ∧ Aside0 (Below w.heap.size w w'))
                case atStart => exact ⟨(false), (0), (by first | rfl | (simp; done) | (simp [*]; done)), (by first | rfl | (simp; done) | (simp [*]; done)), H', ⟨Nat.le_refl _⟩, ⟨by (with_reducible repeat (first | apply Kd.R_alloc | apply Kd.R_drewN | apply Kd.R_drew)); exact HO_16.out⟩, ⟨by (with_reducible repeat (first | apply Kd.R_alloc | apply Kd.R_drewN | apply Kd.R_drew)); exact HO_17.out⟩, ⟨by (with_reducible repeat (first | apply Kd.R_alloc | apply Kd.R_drewN | apply Kd.R_drew)); exact HO_79.out⟩, ⟨by (with_reducible repeat (first | refine kN ?_ _ | refine kD ?_ | refine kA ?_ _)); exact BK295.out⟩, ⟨by repeat (first | (with_reducible first | exact HB.out | apply bA | apply bN | apply b1 | refine bS ?_ GE295.out) | exact HB.out)⟩⟩
                case round =>
                 clear H'
                 try clear c1
                 try clear c2
                 try clear p2
                 try clear q2
                 try clear hx2
                 try clear c3
                 try clear c4
                 try clear p6
                 try clear c7
                 try clear c9
                 try clear c10
                 try clear c12
                 try clear c12b0
                 try clear c12b1
                 try clear c13
                 try clear c13b0
                 try clear c13b1
                 try clear c16
                 try clear c22
                 try clear c25
                 try clear c25b0
                 try clear c25b1
                 try clear c26
                 try clear c26b0
                 try clear c26b1
                 try clear p29
                 try clear q29
                 try clear hx29
                 try clear c30
                 try clear c32
                 try clear c32b0
                 try clear c33
                 try clear c33b0
                 try clear c34
                 try clear c34b0
                 try clear c38
                 try clear c38b0
                 try clear c40
                 try clear c40b0
                 try clear c41
                 try clear c41b0
                 try clear c48
                 try clear hcz37_0
                 try clear hcz37_1
                 try clear hcz37_2
                 try clear hcz37_3
                 try clear hcz37_4
                 try clear hcz37_5
                 try clear hcz37_6
                 try clear hfz37_0
                 try clear hfz37_1
                 try clear hfz37_2
                 try clear hfz37_3
                 try clear hfz37_4
                 try clear hfz37_5
                 try clear hfz37_6
                 try clear hx294_0
                 try clear hx294_1
                 try clear hx294_2
                 try clear hx294_3
                 try clear hx294_4
                 try clear hx294_5
                 try clear hx294_6
                 try clear hx296_0
                 try clear hx296_1
                 try clear hx296_2
                 try clear hx296_3
                 try clear hx296_4
                 try clear hx296_5
                 try clear hx296_6
                 try clear p2
                 try clear p29
                 try clear p294
                 try clear p296
                 try clear p6
                 try clear q2
                 try clear q29
                 try clear q294
                 try clear q296
                 obtain ⟨x23_5, x100_5, rfl, rfl, HA, HK5, HO_16, HO_17, HO_79, BK295, HB⟩ := hrel
                 cases gk with
                 | zero => exact absurd HA.out (by simp [cohousinglaw16_FactsOrder.l1])
                 | succ k5 =>
                  have H := HA.out
                  clear HA
                  simp only [cohousinglaw16_FactsOrder.l1] at H
                  by_cases c49 : x100_5 < (l0.length : Int)
                  ·rw [if_pos c49] at H
                   have c49b0 : decide (x100_5 < (l0.length : Int)) = true := dT c49
                   clear c49
                   by_cases c50 : 0 ≤ x100_5
                   ·rw [if_pos c50] at H
                    have c50b0 : decide (0 ≤ x100_5) = true := dT c50
                    clear c50
                    by_cases c51 : x100_5 < (l0.length : Int)
                    ·rw [if_pos c51] at H
                     have c51b0 : decide (x100_5 < (l0.length : Int)) = true := dT c51
                     clear c51
                     by_cases c52 : x23_5 = true
                     ·subst c52
                      have H1 : (cohousinglaw16_FactsOrder.l1 k5 l0 a2 a3 a4 a5 a6 x15_3 t282 t285 true t285 (t285.length : Int) x81_3 l0 (l0.length : Int) (wrap64 (x100_5 + 1)) ((rd_T26 t285 x81_3).f0) ((rd_T26 t285 x81_3).f1) ((rd_T26 t285 x81_3).f2) ((rd_T26 t285 x81_3).f3.f0) ((rd_T26 t285 x81_3).f3.f1) ((rd_T26 t285 x81_3).f4) ((rd_T26 t285 x81_3).f5)) = some r := by rw [if_pos rfl] at H; exact H
                      clear H
                      have H := H1
                      clear H1
                      have H' := Aside0.mk H
                      clear H
                      have p298 : 0 ≤ (x100_5 : Int) := oT (by first | (with_reducible assumption) | assumption)
                      have q298 : x100_5 < (l0.length : Int) := oT (by first | (with_reducible assumption) | assumption)
                      obtain ⟨ad298, e298, hx298_0, hx298_1, hx298_2, hx298_3, hx298_4, hx298_5, hx298_6⟩ := at_T26 HR0.out x100_5 p298 q298
                      cases e298
                      replace hx298_0 := (HB.out.cell (World.block_lt_of_cell? w _ hx298_0)).trans hx298_0
                      replace hx298_1 := (HB.out.cell (World.block_lt_of_cell? w _ hx298_1)).trans hx298_1
                      replace hx298_2 := (HB.out.cell (World.block_lt_of_cell? w _ hx298_2)).trans hx298_2
                      replace hx298_3 := (HB.out.cell (World.block_lt_of_cell? w _ hx298_3)).trans hx298_3
                      replace hx298_4 := (HB.out.cell (World.block_lt_of_cell? w _ hx298_4)).trans hx298_4
                      replace hx298_5 := (HB.out.cell (World.block_lt_of_cell? w _ hx298_5)).trans hx298_5
                      replace hx298_6 := (HB.out.cell (World.block_lt_of_cell? w _ hx298_6)).trans hx298_6
                      replace p298 := eq_true p298
                      replace q298 := eq_true q298
                      go_wp2_with (first | ((with_reducible refine gate_dst (N := 25) rfl ?_); (try (refine gate_guard (by rfl) ?_; dsimp only)); refine box_event ?hg (N := 25) ?hd (cs := #[.int .i64 0, .string (⟨#[]⟩ : ByteArray), .int .i64 0, .int .i64 0, .int .i64 0, .int .i64 0, .bool false]) (t := 26) ?hr ?_; (case hd => rfl); (case hg => rfl); (case hr => first | (go_simp; done) | (go_simp; rfl)); intro gb299 hg w53 hbox hb; have n0_ := Aside0.mk (Kd.R_below (Kd.R_elderB (by (with_reducible repeat (first | apply Kd.R_alloc | apply Kd.R_drewN | apply Kd.R_drew)); exact HO_16.out) gb299 (Nat.le_of_eq hg.symm)) hb); have n1_ := Aside0.mk (Kd.R_below (Kd.R_elderB (by (with_reducible repeat (first | apply Kd.R_alloc | apply Kd.R_drewN | apply Kd.R_drew)); exact HO_17.out) gb299 (Nat.le_of_eq hg.symm)) hb); have n2_ := Aside0.mk (Kd.R_below (Kd.R_elderB (by (with_reducible repeat (first | apply Kd.R_alloc | apply Kd.R_drewN | apply Kd.R_drew)); exact HO_79.out) gb299 (Nat.le_of_eq hg.symm)) hb); have n3_ := Aside0.mk (kB (g := gb295) (o := .cells #[.int .i64 ((rd_T26 t285 x81_3).f0), .string ((rd_T26 t285 x81_3).f1), .int .i64 ((rd_T26 t285 x81_3).f2), .int .i64 ((rd_T26 t285 x81_3).f3.f0), .int .i64 ((rd_T26 t285 x81_3).f3.f1), .int .i64 ((rd_T26 t285 x81_3).f4), .bool ((rd_T26 t285 x81_3).f5)] 26 (0, 0)) (by (with_reducible repeat (first | refine kN ?_ _ | refine kD ?_ | refine kA ?_ _)); exact BK295.out) hb); have n4_ := Aside0.mk (bT (by repeat (first | (with_reducible first | exact HB.out | apply bA | apply bN | apply b1 | refine bS ?_ GE295.out) | exact HB.out)) hb); have n5_ := Aside0.mk (hbox); have n6_ := Aside0.mk ((by rw [hg]; exact (bZ (by repeat (first | (with_reducible first | exact HB.out | apply bA | apply bN | apply b1 | refine bS ?_ GE295.out) | exact HB.out))) : w.heap.size ≤ gb299)); have n7_ := n6_; have n8_ := Aside0.mk ((by rw [hg]; exact Nat.ne_of_lt (blk_lt (g := gb295) (o := .cells #[.int .i64 ((rd_T26 t285 x81_3).f0), .string ((rd_T26 t285 x81_3).f1), .int .i64 ((rd_T26 t285 x81_3).f2), .int .i64 ((rd_T26 t285 x81_3).f3.f0), .int .i64 ((rd_T26 t285 x81_3).f3.f1), .int .i64 ((rd_T26 t285 x81_3).f4), .bool ((rd_T26 t285 x81_3).f5)] 26 (0, 0)) (by (with_reducible repeat (first | refine kN ?_ _ | refine kD ?_ | refine kA ?_ _)); exact BK295.out)) : gb295 ≠ gb299)); have n9_ := Aside0.mk n8_.out.symm; clear HO_16; clear HO_17; clear HO_79; clear BK295; clear HB; have HO_16 := n0_; have HO_17 := n1_; have HO_79 := n2_; have BK295 := n3_; have HB := n4_; have BK299 := n5_; have GW299 := n6_; have GE299 := n7_; have NB295_299 := n8_; have NB299_295 := n9_; clear n0_ n1_ n2_ n3_ n4_ n5_ n6_ n7_ n8_ n9_; clear hb hbox hg; have hnb54 := NB299_295.out; have hnc54 := NB295_299.out; have hcz55_0 : w53.cell? ⟨gb299, 0, none⟩ = some (.int .i64 0) := (kC BK299.out 0).trans rfl; have hcz55_1 : w53.cell? ⟨gb299, 1, none⟩ = some (.string (⟨#[]⟩ : ByteArray)) := (kC BK299.out 1).trans rfl; have hcz55_2 : w53.cell? ⟨gb299, 2, none⟩ = some (.int .i64 0) := (kC BK299.out 2).trans rfl; have hcz55_3 : w53.cell? ⟨gb299, 3, none⟩ = some (.int .i64 0) := (kC BK299.out 3).trans rfl; have hcz55_4 : w53.cell? ⟨gb299, 4, none⟩ = some (.int .i64 0) := (kC BK299.out 4).trans rfl; have hcz55_5 : w53.cell? ⟨gb299, 5, none⟩ = some (.int .i64 0) := (kC BK299.out 5).trans rfl; have hcz55_6 : w53.cell? ⟨gb299, 6, none⟩ = some (.bool false) := (kC BK299.out 6).trans rfl; have hfz55_0 := blk_frozen BK299.out 0; have hfz55_1 := blk_frozen BK299.out 1; have hfz55_2 := blk_frozen BK299.out 2; have hfz55_3 := blk_frozen BK299.out 3; have hfz55_4 := blk_frozen BK299.out 4; have hfz55_5 := blk_frozen BK299.out 5; have hfz55_6 := blk_frozen BK299.out 6))
                      go_roundg k5
                      case measure => have := HJ9.out; have := HJ19.out; have := HK3.out; have := HJ34.out; have := HK5.out; omega
                      case rel => exact ⟨(true), (wrap64 (x100_5 + 1)), (by first | rfl | (simp; done) | (simp [*]; done)), (by first | rfl | (simp; done) | (simp [*]; done)), H', ⟨by have := HJ9.out; have := HJ19.out; have := HK3.out; have := HJ34.out; have := HK5.out; omega⟩, ⟨by (with_reducible repeat (first | apply Kd.R_alloc | apply Kd.R_drewN | apply Kd.R_drew)); exact Kd.R_mono (Kd.R_far (p := ⟨gb299, 6, none⟩) (Kd.R_far (p := ⟨gb299, 5, none⟩) (Kd.R_far (p := ⟨gb299, 4, none⟩) (Kd.R_far (p := ⟨gb299, 3, none⟩) (Kd.R_far (p := ⟨gb299, 2, none⟩) (Kd.R_far (p := ⟨gb299, 1, none⟩) (Kd.R_far (p := ⟨gb299, 0, none⟩) (Kd.R_mono HO_16.out (fun k_ hk => (⟨hk, hk.2⟩ : _ ∧ k_ ≠ gb299))) (fun _ hk => hk.2) (.int .i64 ((rd_T26 l0 x100_5).f0))) (fun _ hk => hk.2) (.string ((rd_T26 l0 x100_5).f1))) (fun _ hk => hk.2) (.int .i64 ((rd_T26 l0 x100_5).f2))) (fun _ hk => hk.2) (.int .i64 ((rd_T26 l0 x100_5).f3.f0))) (fun _ hk => hk.2) (.int .i64 ((rd_T26 l0 x100_5).f3.f1))) (fun _ hk => hk.2) (.int .i64 ((rd_T26 l0 x100_5).f4))) (fun _ hk => hk.2) (.bool ((rd_T26 l0 x100_5).f5))) (fun _ hk => ⟨hk.1.1.1, ⟨hk.1.1.2.1, hk.1.1.2.2⟩⟩)⟩, ⟨by (with_reducible repeat (first | apply Kd.R_alloc | apply Kd.R_drewN | apply Kd.R_drew)); exact Kd.R_mono (Kd.R_far (p := ⟨gb299, 6, none⟩) (Kd.R_far (p := ⟨gb299, 5, none⟩) (Kd.R_far (p := ⟨gb299, 4, none⟩) (Kd.R_far (p := ⟨gb299, 3, none⟩) (Kd.R_far (p := ⟨gb299, 2, none⟩) (Kd.R_far (p := ⟨gb299, 1, none⟩) (Kd.R_far (p := ⟨gb299, 0, none⟩) (Kd.R_mono HO_17.out (fun k_ hk => (⟨hk, hk.2⟩ : _ ∧ k_ ≠ gb299))) (fun _ hk => hk.2) (.int .i64 ((rd_T26 l0 x100_5).f0))) (fun _ hk => hk.2) (.string ((rd_T26 l0 x100_5).f1))) (fun _ hk => hk.2) (.int .i64 ((rd_T26 l0 x100_5).f2))) (fun _ hk => hk.2) (.int .i64 ((rd_T26 l0 x100_5).f3.f0))) (fun _ hk => hk.2) (.int .i64 ((rd_T26 l0 x100_5).f3.f1))) (fun _ hk => hk.2) (.int .i64 ((rd_T26 l0 x100_5).f4))) (fun _ hk => hk.2) (.bool ((rd_T26 l0 x100_5).f5))) (fun _ hk => ⟨hk.1.1.1, hk.1.1.2⟩)⟩, ⟨by (with_reducible repeat (first | apply Kd.R_alloc | apply Kd.R_drewN | apply Kd.R_drew)); exact Kd.R_mono (Kd.R_far (p := ⟨gb299, 6, none⟩) (Kd.R_far (p := ⟨gb299, 5, none⟩) (Kd.R_far (p := ⟨gb299, 4, none⟩) (Kd.R_far (p := ⟨gb299, 3, none⟩) (Kd.R_far (p := ⟨gb299, 2, none⟩) (Kd.R_far (p := ⟨gb299, 1, none⟩) (Kd.R_far (p := ⟨gb299, 0, none⟩) (Kd.R_mono HO_79.out (fun k_ hk => (⟨hk, hk.2⟩ : _ ∧ k_ ≠ gb299))) (fun _ hk => hk.2) (.int .i64 ((rd_T26 l0 x100_5).f0))) (fun _ hk => hk.2) (.string ((rd_T26 l0 x100_5).f1))) (fun _ hk => hk.2) (.int .i64 ((rd_T26 l0 x100_5).f2))) (fun _ hk => hk.2) (.int .i64 ((rd_T26 l0 x100_5).f3.f0))) (fun _ hk => hk.2) (.int .i64 ((rd_T26 l0 x100_5).f3.f1))) (fun _ hk => hk.2) (.int .i64 ((rd_T26 l0 x100_5).f4))) (fun _ hk => hk.2) (.bool ((rd_T26 l0 x100_5).f5))) (fun _ hk => ⟨hk.1.1.1, hk.1.1.2⟩)⟩, ⟨by (with_reducible repeat (first | refine kN ?_ _ | refine kD ?_ | refine kA ?_ _)); refine kF ?_ NB295_299.out _; (with_reducible repeat (first | refine kN ?_ _ | refine kD ?_ | refine kA ?_ _)); refine kF ?_ NB295_299.out _; (with_reducible repeat (first | refine kN ?_ _ | refine kD ?_ | refine kA ?_ _)); refine kF ?_ NB295_299.out _; (with_reducible repeat (first | refine kN ?_ _ | refine kD ?_ | refine kA ?_ _)); refine kF ?_ NB295_299.out _; (with_reducible repeat (first | refine kN ?_ _ | refine kD ?_ | refine kA ?_ _)); refine kF ?_ NB295_299.out _; (with_reducible repeat (first | refine kN ?_ _ | refine kD ?_ | refine kA ?_ _)); refine kF ?_ NB295_299.out _; (with_reducible repeat (first | refine kN ?_ _ | refine kD ?_ | refine kA ?_ _)); refine kF ?_ NB295_299.out _; (with_reducible repeat (first | refine kN ?_ _ | refine kD ?_ | refine kA ?_ _)); exact BK295.out⟩, ⟨by repeat (first | (with_reducible first | exact HB.out | apply bA | apply bN | apply b1 | refine bS ?_ GE295.out | refine bS ?_ GE299.out) | exact HB.out)⟩⟩
                     ·replace c52 := Bool.eq_false_iff.mpr c52
                      subst c52
                      have H1 : (cohousinglaw16_FactsOrder.l1 k5 l0 a2 a3 a4 a5 a6 x15_3 t282 t285 (((rd_T26 t285 x81_3).f0) == ((rd_T26 l0 x100_5).f0) && (((rd_T26 t285 x81_3).f1).toList == (((rd_T26 l0 x100_5).f1).toList) && (((rd_T26 t285 x81_3).f2) == ((rd_T26 l0 x100_5).f2) && ((((rd_T26 t285 x81_3).f3.f0) == ((rd_T26 l0 x100_5).f3.f0) && (((rd_T26 t285 x81_3).f3.f1) == ((rd_T26 l0 x100_5).f3.f1))) && (((rd_T26 t285 x81_3).f4) == ((rd_T26 l0 x100_5).f4) && (((rd_T26 t285 x81_3).f5) == ((rd_T26 l0 x100_5).f5))))))) t285 (t285.length : Int) x81_3 l0 (l0.length : Int) (wrap64 (x100_5 + 1)) ((rd_T26 t285 x81_3).f0) ((rd_T26 t285 x81_3).f1) ((rd_T26 t285 x81_3).f2) ((rd_T26 t285 x81_3).f3.f0) ((rd_T26 t285 x81_3).f3.f1) ((rd_T26 t285 x81_3).f4) ((rd_T26 t285 x81_3).f5)) = some r := by rw [if_neg (show ¬ (false = true) by decide)] at H; exact H
                      clear H
                      have H := H1
                      clear H1
                      have H' := Aside0.mk H
                      clear H
                      have p298 : 0 ≤ (x100_5 : Int) := oT (by first | (with_reducible assumption) | assumption)
                      have q298 : x100_5 < (l0.length : Int) := oT (by first | (with_reducible assumption) | assumption)
                      obtain ⟨ad298, e298, hx298_0, hx298_1, hx298_2, hx298_3, hx298_4, hx298_5, hx298_6⟩ := at_T26 HR0.out x100_5 p298 q298
                      cases e298
                      replace hx298_0 := (HB.out.cell (World.block_lt_of_cell? w _ hx298_0)).trans hx298_0
                      replace hx298_1 := (HB.out.cell (World.block_lt_of_cell? w _ hx298_1)).trans hx298_1
                      replace hx298_2 := (HB.out.cell (World.block_lt_of_cell? w _ hx298_2)).trans hx298_2
                      replace hx298_3 := (HB.out.cell (World.block_lt_of_cell? w _ hx298_3)).trans hx298_3
                      replace hx298_4 := (HB.out.cell (World.block_lt_of_cell? w _ hx298_4)).trans hx298_4
                      replace hx298_5 := (HB.out.cell (World.block_lt_of_cell? w _ hx298_5)).trans hx298_5
                      replace hx298_6 := (HB.out.cell (World.block_lt_of_cell? w _ hx298_6)).trans hx298_6
                      replace p298 := eq_true p298
                      replace q298 := eq_true q298
                      go_wp2_with (first | ((with_reducible refine gate_dst (N := 25) rfl ?_); (try (refine gate_guard (by rfl) ?_; dsimp only)); refine box_event ?hg (N := 25) ?hd (cs := #[.int .i64 0, .string (⟨#[]⟩ : ByteArray), .int .i64 0, .int .i64 0, .int .i64 0, .int .i64 0, .bool false]) (t := 26) ?hr ?_; (case hd => rfl); (case hg => rfl); (case hr => first | (go_simp; done) | (go_simp; rfl)); intro gb299 hg w56 hbox hb; have n0_ := Aside0.mk (Kd.R_below (Kd.R_elderB (by (with_reducible repeat (first | apply Kd.R_alloc | apply Kd.R_drewN | apply Kd.R_drew)); exact HO_16.out) gb299 (Nat.le_of_eq hg.symm)) hb); have n1_ := Aside0.mk (Kd.R_below (Kd.R_elderB (by (with_reducible repeat (first | apply Kd.R_alloc | apply Kd.R_drewN | apply Kd.R_drew)); exact HO_17.out) gb299 (Nat.le_of_eq hg.symm)) hb); have n2_ := Aside0.mk (Kd.R_below (Kd.R_elderB (by (with_reducible repeat (first | apply Kd.R_alloc | apply Kd.R_drewN | apply Kd.R_drew)); exact HO_79.out) gb299 (Nat.le_of_eq hg.symm)) hb); have n3_ := Aside0.mk (kB (g := gb295) (o := .cells #[.int .i64 ((rd_T26 t285 x81_3).f0), .string ((rd_T26 t285 x81_3).f1), .int .i64 ((rd_T26 t285 x81_3).f2), .int .i64 ((rd_T26 t285 x81_3).f3.f0), .int .i64 ((rd_T26 t285 x81_3).f3.f1), .int .i64 ((rd_T26 t285 x81_3).f4), .bool ((rd_T26 t285 x81_3).f5)] 26 (0, 0)) (by (with_reducible repeat (first | refine kN ?_ _ | refine kD ?_ | refine kA ?_ _)); exact BK295.out) hb); have n4_ := Aside0.mk (bT (by repeat (first | (with_reducible first | exact HB.out | apply bA | apply bN | apply b1 | refine bS ?_ GE295.out) | exact HB.out)) hb); have n5_ := Aside0.mk (hbox); have n6_ := Aside0.mk ((by rw [hg]; exact (bZ (by repeat (first | (with_reducible first | exact HB.out | apply bA | apply bN | apply b1 | refine bS ?_ GE295.out) | exact HB.out))) : w.heap.size ≤ gb299)); have n7_ := n6_; have n8_ := Aside0.mk ((by rw [hg]; exact Nat.ne_of_lt (blk_lt (g := gb295) (o := .cells #[.int .i64 ((rd_T26 t285 x81_3).f0), .string ((rd_T26 t285 x81_3).f1), .int .i64 ((rd_T26 t285 x81_3).f2), .int .i64 ((rd_T26 t285 x81_3).f3.f0), .int .i64 ((rd_T26 t285 x81_3).f3.f1), .int .i64 ((rd_T26 t285 x81_3).f4), .bool ((rd_T26 t285 x81_3).f5)] 26 (0, 0)) (by (with_reducible repeat (first | refine kN ?_ _ | refine kD ?_ | refine kA ?_ _)); exact BK295.out)) : gb295 ≠ gb299)); have n9_ := Aside0.mk n8_.out.symm; clear HO_16; clear HO_17; clear HO_79; clear BK295; clear HB; have HO_16 := n0_; have HO_17 := n1_; have HO_79 := n2_; have BK295 := n3_; have HB := n4_; have BK299 := n5_; have GW299 := n6_; have GE299 := n7_; have NB295_299 := n8_; have NB299_295 := n9_; clear n0_ n1_ n2_ n3_ n4_ n5_ n6_ n7_ n8_ n9_; clear hb hbox hg; have hnb57 := NB299_295.out; have hnc57 := NB295_299.out; have hcz58_0 : w56.cell? ⟨gb299, 0, none⟩ = some (.int .i64 0) := (kC BK299.out 0).trans rfl; have hcz58_1 : w56.cell? ⟨gb299, 1, none⟩ = some (.string (⟨#[]⟩ : ByteArray)) := (kC BK299.out 1).trans rfl; have hcz58_2 : w56.cell? ⟨gb299, 2, none⟩ = some (.int .i64 0) := (kC BK299.out 2).trans rfl; have hcz58_3 : w56.cell? ⟨gb299, 3, none⟩ = some (.int .i64 0) := (kC BK299.out 3).trans rfl; have hcz58_4 : w56.cell? ⟨gb299, 4, none⟩ = some (.int .i64 0) := (kC BK299.out 4).trans rfl; have hcz58_5 : w56.cell? ⟨gb299, 5, none⟩ = some (.int .i64 0) := (kC BK299.out 5).trans rfl; have hcz58_6 : w56.cell? ⟨gb299, 6, none⟩ = some (.bool false) := (kC BK299.out 6).trans rfl; have hfz58_0 := blk_frozen BK299.out 0; have hfz58_1 := blk_frozen BK299.out 1; have hfz58_2 := blk_frozen BK299.out 2; have hfz58_3 := blk_frozen BK299.out 3; have hfz58_4 := blk_frozen BK299.out 4; have hfz58_5 := blk_frozen BK299.out 5; have hfz58_6 := blk_frozen BK299.out 6; have hcz59_0 : w56.cell? ⟨gb295, 0, none⟩ = some (.int .i64 ((rd_T26 t285 x81_3).f0)) := (kC BK295.out 0).trans rfl; have hcz59_1 : w56.cell? ⟨gb295, 1, none⟩ = some (.string ((rd_T26 t285 x81_3).f1)) := (kC BK295.out 1).trans rfl; have hcz59_2 : w56.cell? ⟨gb295, 2, none⟩ = some (.int .i64 ((rd_T26 t285 x81_3).f2)) := (kC BK295.out 2).trans rfl; have hcz59_3 : w56.cell? ⟨gb295, 3, none⟩ = some (.int .i64 ((rd_T26 t285 x81_3).f3.f0)) := (kC BK295.out 3).trans rfl; have hcz59_4 : w56.cell? ⟨gb295, 4, none⟩ = some (.int .i64 ((rd_T26 t285 x81_3).f3.f1)) := (kC BK295.out 4).trans rfl; have hcz59_5 : w56.cell? ⟨gb295, 5, none⟩ = some (.int .i64 ((rd_T26 t285 x81_3).f4)) := (kC BK295.out 5).trans rfl; have hcz59_6 : w56.cell? ⟨gb295, 6, none⟩ = some (.bool ((rd_T26 t285 x81_3).f5)) := (kC BK295.out 6).trans rfl; have hfz59_0 := blk_frozen BK295.out 0; have hfz59_1 := blk_frozen BK295.out 1; have hfz59_2 := blk_frozen BK295.out 2; have hfz59_3 := blk_frozen BK295.out 3; have hfz59_4 := blk_frozen BK295.out 4; have hfz59_5 := blk_frozen BK295.out 5; have hfz59_6 := blk_frozen BK295.out 6))
                      go_roundg k5
                      case measure => have := HJ9.out; have := HJ19.out; have := HK3.out; have := HJ34.out; have := HK5.out; omega
                      case rel => exact ⟨((((rd_T26 t285 x81_3).f0) == ((rd_T26 l0 x100_5).f0) && (((rd_T26 t285 x81_3).f1).toList == (((rd_T26 l0 x100_5).f1).toList) && (((rd_T26 t285 x81_3).f2) == ((rd_T26 l0 x100_5).f2) && ((((rd_T26 t285 x81_3).f3.f0) == ((rd_T26 l0 x100_5).f3.f0) && (((rd_T26 t285 x81_3).f3.f1) == ((rd_T26 l0 x100_5).f3.f1))) && (((rd_T26 t285 x81_3).f4) == ((rd_T26 l0 x100_5).f4) && (((rd_T26 t285 x81_3).f5) == ((rd_T26 l0 x100_5).f5)))))))), (wrap64 (x100_5 + 1)), (by first | rfl | (simp; done) | (simp [*]; done)), (by first | rfl | (simp; done) | (simp [*]; done)), H', ⟨by have := HJ9.out; have := HJ19.out; have := HK3.out; have := HJ34.out; have := HK5.out; omega⟩, ⟨by (with_reducible repeat (first | apply Kd.R_alloc | apply Kd.R_drewN | apply Kd.R_drew)); exact Kd.R_mono (Kd.R_far (p := ⟨gb299, 6, none⟩) (Kd.R_far (p := ⟨gb299, 5, none⟩) (Kd.R_far (p := ⟨gb299, 4, none⟩) (Kd.R_far (p := ⟨gb299, 3, none⟩) (Kd.R_far (p := ⟨gb299, 2, none⟩) (Kd.R_far (p := ⟨gb299, 1, none⟩) (Kd.R_far (p := ⟨gb299, 0, none⟩) (Kd.R_mono HO_16.out (fun k_ hk => (⟨hk, hk.2⟩ : _ ∧ k_ ≠ gb299))) (fun _ hk => hk.2) (.int .i64 ((rd_T26 l0 x100_5).f0))) (fun _ hk => hk.2) (.string ((rd_T26 l0 x100_5).f1))) (fun _ hk => hk.2) (.int .i64 ((rd_T26 l0 x100_5).f2))) (fun _ hk => hk.2) (.int .i64 ((rd_T26 l0 x100_5).f3.f0))) (fun _ hk => hk.2) (.int .i64 ((rd_T26 l0 x100_5).f3.f1))) (fun _ hk => hk.2) (.int .i64 ((rd_T26 l0 x100_5).f4))) (fun _ hk => hk.2) (.bool ((rd_T26 l0 x100_5).f5))) (fun _ hk => ⟨hk.1.1.1, ⟨hk.1.1.2.1, hk.1.1.2.2⟩⟩)⟩, ⟨by (with_reducible repeat (first | apply Kd.R_alloc | apply Kd.R_drewN | apply Kd.R_drew)); exact Kd.R_mono (Kd.R_far (p := ⟨gb299, 6, none⟩) (Kd.R_far (p := ⟨gb299, 5, none⟩) (Kd.R_far (p := ⟨gb299, 4, none⟩) (Kd.R_far (p := ⟨gb299, 3, none⟩) (Kd.R_far (p := ⟨gb299, 2, none⟩) (Kd.R_far (p := ⟨gb299, 1, none⟩) (Kd.R_far (p := ⟨gb299, 0, none⟩) (Kd.R_mono HO_17.out (fun k_ hk => (⟨hk, hk.2⟩ : _ ∧ k_ ≠ gb299))) (fun _ hk => hk.2) (.int .i64 ((rd_T26 l0 x100_5).f0))) (fun _ hk => hk.2) (.string ((rd_T26 l0 x100_5).f1))) (fun _ hk => hk.2) (.int .i64 ((rd_T26 l0 x100_5).f2))) (fun _ hk => hk.2) (.int .i64 ((rd_T26 l0 x100_5).f3.f0))) (fun _ hk => hk.2) (.int .i64 ((rd_T26 l0 x100_5).f3.f1))) (fun _ hk => hk.2) (.int .i64 ((rd_T26 l0 x100_5).f4))) (fun _ hk => hk.2) (.bool ((rd_T26 l0 x100_5).f5))) (fun _ hk => ⟨hk.1.1.1, hk.1.1.2⟩)⟩, ⟨by (with_reducible repeat (first | apply Kd.R_alloc | apply Kd.R_drewN | apply Kd.R_drew)); exact Kd.R_mono (Kd.R_far (p := ⟨gb299, 6, none⟩) (Kd.R_far (p := ⟨gb299, 5, none⟩) (Kd.R_far (p := ⟨gb299, 4, none⟩) (Kd.R_far (p := ⟨gb299, 3, none⟩) (Kd.R_far (p := ⟨gb299, 2, none⟩) (Kd.R_far (p := ⟨gb299, 1, none⟩) (Kd.R_far (p := ⟨gb299, 0, none⟩) (Kd.R_mono HO_79.out (fun k_ hk => (⟨hk, hk.2⟩ : _ ∧ k_ ≠ gb299))) (fun _ hk => hk.2) (.int .i64 ((rd_T26 l0 x100_5).f0))) (fun _ hk => hk.2) (.string ((rd_T26 l0 x100_5).f1))) (fun _ hk => hk.2) (.int .i64 ((rd_T26 l0 x100_5).f2))) (fun _ hk => hk.2) (.int .i64 ((rd_T26 l0 x100_5).f3.f0))) (fun _ hk => hk.2) (.int .i64 ((rd_T26 l0 x100_5).f3.f1))) (fun _ hk => hk.2) (.int .i64 ((rd_T26 l0 x100_5).f4))) (fun _ hk => hk.2) (.bool ((rd_T26 l0 x100_5).f5))) (fun _ hk => ⟨hk.1.1.1, hk.1.1.2⟩)⟩, ⟨by (with_reducible repeat (first | refine kN ?_ _ | refine kD ?_ | refine kA ?_ _)); refine kF ?_ NB295_299.out _; (with_reducible repeat (first | refine kN ?_ _ | refine kD ?_ | refine kA ?_ _)); refine kF ?_ NB295_299.out _; (with_reducible repeat (first | refine kN ?_ _ | refine kD ?_ | refine kA ?_ _)); refine kF ?_ NB295_299.out _; (with_reducible repeat (first | refine kN ?_ _ | refine kD ?_ | refine kA ?_ _)); refine kF ?_ NB295_299.out _; (with_reducible repeat (first | refine kN ?_ _ | refine kD ?_ | refine kA ?_ _)); refine kF ?_ NB295_299.out _; (with_reducible repeat (first | refine kN ?_ _ | refine kD ?_ | refine kA ?_ _)); refine kF ?_ NB295_299.out _; (with_reducible repeat (first | refine kN ?_ _ | refine kD ?_ | refine kA ?_ _)); refine kF ?_ NB295_299.out _; (with_reducible repeat (first | refine kN ?_ _ | refine kD ?_ | refine kA ?_ _)); exact BK295.out⟩, ⟨by repeat (first | (with_reducible first | exact HB.out | apply bA | apply bN | apply b1 | refine bS ?_ GE295.out | refine bS ?_ GE299.out) | exact HB.out)⟩⟩
                    ·rw [if_neg c51] at H
                     exact absurd H (by simp)
                   ·rw [if_neg c50] at H
                    exact absurd H (by simp)
                  ·rw [if_neg c49] at H
                   have c49b0 : decide (x100_5 < (l0.length : Int)) = false := dF c49
                   clear c49
                   by_cases c60 : x15_3 = true
                   ·subst c60
                    have H1 : (if x23_5 = true then (cohousinglaw16_FactsOrder.l0 k5 l0 a2 a3 a4 a5 a6 true t282 t285 t285 (t285.length : Int) (wrap64 (x81_3 + 1))) else (none)) = some r := by rw [if_pos rfl] at H; exact H
                    clear H
                    have H := H1
                    clear H1
                    by_cases c61 : x23_5 = true
                    ·subst c61
                     have H1 : (cohousinglaw16_FactsOrder.l0 k5 l0 a2 a3 a4 a5 a6 true t282 t285 t285 (t285.length : Int) (wrap64 (x81_3 + 1))) = some r := by rw [if_pos rfl] at H; exact H
                     clear H
                     have H := H1
                     clear H1
                     have H' := Aside0.mk H
                     clear H
                     go_wp2
                     go_roundg k5
                     case measure => have := HJ9.out; have := HJ19.out; have := HK3.out; have := HJ34.out; have := HK5.out; omega
                     case rel => exact ⟨(true), (wrap64 (x81_3 + 1)), (by first | rfl | (simp; done) | (simp [*]; done)), (by first | rfl | (simp; done) | (simp [*]; done)), H', ⟨by have := HJ9.out; have := HJ19.out; have := HK3.out; have := HJ34.out; have := HK5.out; omega⟩, ⟨by (with_reducible repeat (first | apply Kd.R_alloc | apply Kd.R_drewN | apply Kd.R_drew)); exact Kd.R_mono HO_16.out (fun _ hk => ⟨hk.1, hk.2.1⟩)⟩, ⟨by (with_reducible repeat (first | apply Kd.R_alloc | apply Kd.R_drewN | apply Kd.R_drew)); exact Kd.R_mono HO_17.out (fun _ hk => hk.1)⟩, ⟨by (with_reducible repeat (first | apply Kd.R_alloc | apply Kd.R_drewN | apply Kd.R_drew)); exact Kd.R_mono HO_79.out (fun _ hk => hk.1)⟩, ⟨by repeat (first | (with_reducible first | exact HB.out | apply bA | apply bN | apply b1 | refine bS ?_ GE295.out) | exact HB.out)⟩⟩
                    ·replace c61 := Bool.eq_false_iff.mpr c61
                     subst c61
                     have H1 : (none) = some r := by rw [if_neg (show ¬ (false = true) by decide)] at H; exact H
                     clear H
                     have H := H1
                     clear H1
                     exact absurd H (by simp)
                   ·replace c60 := Bool.eq_false_iff.mpr c60
                    subst c60
                    have H1 : (none) = some r := by rw [if_neg (show ¬ (false = true) by decide)] at H; exact H
                    clear H
                    have H := H1
                    clear H1
                    exact absurd H (by simp)
            ·rw [if_neg c34] at H
             exact absurd H (by simp)
           ·rw [if_neg c33] at H
            exact absurd H (by simp)
          ·rw [if_neg c32] at H
           have c32b0 : decide (x81_3 < (t285.length : Int)) = false := dF c32
           clear c32
           have H' := Aside0.mk H
           clear H
           go_wp2
           go_loopg [15, 118] k3 (fun kq v15 v118 w' => ∃ (x15_4 : Bool) (x118_4 : Int), v15 = .bool x15_4 ∧ v118 = .int .i64 x118_4 ∧ Aside0 (cohousinglaw16_FactsOrder.l2 kq l0 a2 a3 a4 a5 a6 x15_4 t282 t285 l0 (l0.length : Int) x118_4 = some r) ∧ Aside0 (kq ≤ k3) ∧ Aside0 (Kd.R k26 26 w' w.heap.size (fun k_ => some k_ ≠ ((.slice Ao31 t285.length co31) : Value).ownBlock) (.slice Ao23 t282.length co23) t282) ∧ Aside0 (Kd.R k26 26 w' w.heap.size (fun k_ => some k_ ≠ ((.slice Ao23 t282.length co23) : Value).ownBlock) (.slice Ao31 t285.length co31) t285) ∧ Aside0 (Below w.heap.size w w'))
           case atStart => exact ⟨(x15_3), (0), (by first | rfl | (simp; done) | (simp [*]; done)), (by first | rfl | (simp; done) | (simp [*]; done)), H', ⟨Nat.le_refl _⟩, ⟨by (with_reducible repeat (first | apply Kd.R_alloc | apply Kd.R_drewN | apply Kd.R_drew)); exact Kd.R_mono HO_16.out (fun _ hk => hk.1)⟩, ⟨by (with_reducible repeat (first | apply Kd.R_alloc | apply Kd.R_drewN | apply Kd.R_drew)); exact HO_17.out⟩, ⟨by repeat (first | (with_reducible first | exact HB.out | apply bA | apply bN | apply b1) | exact HB.out)⟩⟩
           case round =>
            clear H'
            try clear c1
            try clear c2
            try clear p2
            try clear q2
            try clear hx2
            try clear c3
            try clear c4
            try clear c5
            try clear c6
            try clear p6
            try clear c7
            try clear c9
            try clear c10
            try clear c12
            try clear c12b0
            try clear c12b1
            try clear c13
            try clear c13b0
            try clear c13b1
            try clear c16
            try clear c22
            try clear c25
            try clear c25b0
            try clear c25b1
            try clear c26
            try clear c26b0
            try clear c26b1
            try clear p29
            try clear q29
            try clear hx29
            try clear c30
            try clear c32
            try clear c32b0
            try clear c33
            try clear c33b0
            try clear c34
            try clear c34b0
            try clear c38
            try clear c38b0
            try clear c40
            try clear c40b0
            try clear c41
            try clear c41b0
            try clear c48
            try clear c49
            try clear c49b0
            try clear c50
            try clear c50b0
            try clear c51
            try clear c51b0
            try clear c52
            try clear c54
            try clear c57
            try clear c60
            try clear c61
            try clear hcz37_0
            try clear hcz37_1
            try clear hcz37_2
            try clear hcz37_3
            try clear hcz37_4
            try clear hcz37_5
            try clear hcz37_6
            try clear hcz55_0
            try clear hcz55_1
            try clear hcz55_2
            try clear hcz55_3
            try clear hcz55_4
            try clear hcz55_5
            try clear hcz55_6
            try clear hcz58_0
            try clear hcz58_1
            try clear hcz58_2
            try clear hcz58_3
            try clear hcz58_4
            try clear hcz58_5
            try clear hcz58_6
            try clear hcz59_0
            try clear hcz59_1
            try clear hcz59_2
            try clear hcz59_3
            try clear hcz59_4
            try clear hcz59_5
            try clear hcz59_6
            try clear hfz37_0
            try clear hfz37_1
            try clear hfz37_2
            try clear hfz37_3
            try clear hfz37_4
            try clear hfz37_5
            try clear hfz37_6
            try clear hfz55_0
            try clear hfz55_1
            try clear hfz55_2
            try clear hfz55_3
            try clear hfz55_4
            try clear hfz55_5
            try clear hfz55_6
            try clear hfz58_0
            try clear hfz58_1
            try clear hfz58_2
            try clear hfz58_3
            try clear hfz58_4
            try clear hfz58_5
            try clear hfz58_6
            try clear hfz59_0
            try clear hfz59_1
            try clear hfz59_2
            try clear hfz59_3
            try clear hfz59_4
            try clear hfz59_5
            try clear hfz59_6
            try clear hx294_0
            try clear hx294_1
            try clear hx294_2
            try clear hx294_3
            try clear hx294_4
            try clear hx294_5
            try clear hx294_6
            try clear hx296_0
            try clear hx296_1
            try clear hx296_2
            try clear hx296_3
            try clear hx296_4
            try clear hx296_5
            try clear hx296_6
            try clear hx298_0
            try clear hx298_1
            try clear hx298_2
            try clear hx298_3
            try clear hx298_4
            try clear hx298_5
            try clear hx298_6
            try clear p2
            try clear p29
            try clear p294
            try clear p296
            try clear p298
            try clear p6
            try clear q2
            try clear q29
            try clear q294
            try clear q296
            try clear q298
            obtain ⟨x15_4, x118_4, rfl, rfl, HA, HK4, HO_16, HO_17, HB⟩ := hrel
            cases gk with
            | zero => exact absurd HA.out (by simp [cohousinglaw16_FactsOrder.l2])
            | succ k4 =>
             have H := HA.out
             clear HA
             simp only [cohousinglaw16_FactsOrder.l2] at H
             by_cases c62 : x118_4 < (l0.length : Int)
             ·rw [if_pos c62] at H
              have c62b0 : decide (x118_4 < (l0.length : Int)) = true := dT c62
              clear c62
              by_cases c63 : 0 ≤ x118_4
              ·rw [if_pos c63] at H
               have c63b0 : decide (0 ≤ x118_4) = true := dT c63
               clear c63
               by_cases c64 : x118_4 < (l0.length : Int)
               ·rw [if_pos c64] at H
                have c64b0 : decide (x118_4 < (l0.length : Int)) = true := dT c64
                clear c64
                have H' := Aside0.mk H
                clear H
                have p300 : 0 ≤ (x118_4 : Int) := oT (by first | (with_reducible assumption) | assumption)
                have q300 : x118_4 < (l0.length : Int) := oT (by first | (with_reducible assumption) | assumption)
                obtain ⟨ad300, e300, hx300_0, hx300_1, hx300_2, hx300_3, hx300_4, hx300_5, hx300_6⟩ := at_T26 HR0.out x118_4 p300 q300
                cases e300
                replace hx300_0 := (HB.out.cell (World.block_lt_of_cell? w _ hx300_0)).trans hx300_0
                replace hx300_1 := (HB.out.cell (World.block_lt_of_cell? w _ hx300_1)).trans hx300_1
                replace hx300_2 := (HB.out.cell (World.block_lt_of_cell? w _ hx300_2)).trans hx300_2
                replace hx300_3 := (HB.out.cell (World.block_lt_of_cell? w _ hx300_3)).trans hx300_3
                replace hx300_4 := (HB.out.cell (World.block_lt_of_cell? w _ hx300_4)).trans hx300_4
                replace hx300_5 := (HB.out.cell (World.block_lt_of_cell? w _ hx300_5)).trans hx300_5
                replace hx300_6 := (HB.out.cell (World.block_lt_of_cell? w _ hx300_6)).trans hx300_6
                replace p300 := eq_true p300
                replace q300 := eq_true q300
                go_wp2_with (first | ((with_reducible refine gate_dst (N := 27) rfl ?_); (try (refine gate_guard (by rfl) ?_; dsimp only)); refine box_event ?hg (N := 27) ?hd (cs := #[.int .i64 0, .string (⟨#[]⟩ : ByteArray), .int .i64 0, .int .i64 0, .int .i64 0, .int .i64 0, .bool false]) (t := 26) ?hr ?_; (case hd => rfl); (case hg => rfl); (case hr => first | (go_simp; done) | (go_simp; rfl)); intro gb301 hg w65 hbox hb; have n0_ := Aside0.mk (Kd.R_below (Kd.R_elderB (by (with_reducible repeat (first | apply Kd.R_alloc | apply Kd.R_drewN | apply Kd.R_drew)); exact HO_16.out) gb301 (Nat.le_of_eq hg.symm)) hb); have n1_ := Aside0.mk (Kd.R_below (Kd.R_elderB (by (with_reducible repeat (first | apply Kd.R_alloc | apply Kd.R_drewN | apply Kd.R_drew)); exact HO_17.out) gb301 (Nat.le_of_eq hg.symm)) hb); have n2_ := Aside0.mk (bT (by repeat (first | (with_reducible first | exact HB.out | apply bA | apply bN | apply b1) | exact HB.out)) hb); have n3_ := Aside0.mk (hbox); have n4_ := Aside0.mk ((by rw [hg]; exact (bZ (by repeat (first | (with_reducible first | exact HB.out | apply bA | apply bN | apply b1) | exact HB.out))) : w.heap.size ≤ gb301)); have n5_ := n4_; clear HO_16; clear HO_17; clear HB; have HO_16 := n0_; have HO_17 := n1_; have HB := n2_; have BK301 := n3_; have GW301 := n4_; have GE301 := n5_; clear n0_ n1_ n2_ n3_ n4_ n5_; clear hb hbox hg; have hcz66_0 : w65.cell? ⟨gb301, 0, none⟩ = some (.int .i64 0) := (kC BK301.out 0).trans rfl; have hcz66_1 : w65.cell? ⟨gb301, 1, none⟩ = some (.string (⟨#[]⟩ : ByteArray)) := (kC BK301.out 1).trans rfl; have hcz66_2 : w65.cell? ⟨gb301, 2, none⟩ = some (.int .i64 0) := (kC BK301.out 2).trans rfl; have hcz66_3 : w65.cell? ⟨gb301, 3, none⟩ = some (.int .i64 0) := (kC BK301.out 3).trans rfl; have hcz66_4 : w65.cell? ⟨gb301, 4, none⟩ = some (.int .i64 0) := (kC BK301.out 4).trans rfl; have hcz66_5 : w65.cell? ⟨gb301, 5, none⟩ = some (.int .i64 0) := (kC BK301.out 5).trans rfl; have hcz66_6 : w65.cell? ⟨gb301, 6, none⟩ = some (.bool false) := (kC BK301.out 6).trans rfl; have hfz66_0 := blk_frozen BK301.out 0; have hfz66_1 := blk_frozen BK301.out 1; have hfz66_2 := blk_frozen BK301.out 2; have hfz66_3 := blk_frozen BK301.out 3; have hfz66_4 := blk_frozen BK301.out 4; have hfz66_5 := blk_frozen BK301.out 5; have hfz66_6 := blk_frozen BK301.out 6))
                go_loopg [28, 124] k4 (fun kq v28 v124 w' => ∃ (x28_5 : Bool) (x124_5 : Int), v28 = .bool x28_5 ∧ v124 = .int .i64 x124_5 ∧ Aside0 (cohousinglaw16_FactsOrder.l3 kq l0 a2 a3 a4 a5 a6 x15_4 t282 t285 x28_5 l0 (l0.length : Int) x118_4 t285 (t285.length : Int) x124_5 ((rd_T26 l0 x118_4).f0) ((rd_T26 l0 x118_4).f1) ((rd_T26 l0 x118_4).f2) ((rd_T26 l0 x118_4).f3.f0) ((rd_T26 l0 x118_4).f3.f1) ((rd_T26 l0 x118_4).f4) ((rd_T26 l0 x118_4).f5) = some r) ∧ Aside0 (kq ≤ k4) ∧ Aside0 (Kd.R k26 26 w' w.heap.size (fun k_ => some k_ ≠ ((.slice Ao31 t285.length co31) : Value).ownBlock ∧ some k_ ≠ ((.slice Ao31 t285.length co31) : Value).ownBlock ∧ k_ ≠ gb301) (.slice Ao23 t282.length co23) t282) ∧ Aside0 (Kd.R k26 26 w' w.heap.size (fun k_ => some k_ ≠ ((.slice Ao23 t282.length co23) : Value).ownBlock ∧ k_ ≠ gb301) (.slice Ao31 t285.length co31) t285) ∧ Aside0 (Kd.R k26 26 w' w.heap.size (fun k_ => some k_ ≠ ((.slice Ao23 t282.length co23) : Value).ownBlock ∧ k_ ≠ gb301) (.slice Ao31 t285.length co31) t285) ∧ Aside0 (w'.heap[gb301]? = some (.cells #[.int .i64 ((rd_T26 l0 x118_4).f0), .string ((rd_T26 l0 x118_4).f1), .int .i64 ((rd_T26 l0 x118_4).f2), .int .i64 ((rd_T26 l0 x118_4).f3.f0), .int .i64 ((rd_T26 l0 x118_4).f3.f1), .int .i64 ((rd_T26 l0 x118_4).f4), .bool ((rd_T26 l0 x118_4).f5)] 26 (0, 0))) ∧ Aside0 (Below w.heap.size w w'))
                case atStart => exact ⟨(false), (0), (by first | rfl | (simp; done) | (simp [*]; done)), (by first | rfl | (simp; done) | (simp [*]; done)), H', ⟨Nat.le_refl _⟩, ⟨by (with_reducible repeat (first | apply Kd.R_alloc | apply Kd.R_drewN | apply Kd.R_drew)); exact Kd.R_mono (Kd.R_far (p := ⟨gb301, 6, none⟩) (Kd.R_far (p := ⟨gb301, 5, none⟩) (Kd.R_far (p := ⟨gb301, 4, none⟩) (Kd.R_far (p := ⟨gb301, 3, none⟩) (Kd.R_far (p := ⟨gb301, 2, none⟩) (Kd.R_far (p := ⟨gb301, 1, none⟩) (Kd.R_far (p := ⟨gb301, 0, none⟩) (Kd.R_mono HO_16.out (fun k_ hk => (⟨hk, hk.2⟩ : _ ∧ k_ ≠ gb301))) (fun _ hk => hk.2) (.int .i64 ((rd_T26 l0 x118_4).f0))) (fun _ hk => hk.2) (.string ((rd_T26 l0 x118_4).f1))) (fun _ hk => hk.2) (.int .i64 ((rd_T26 l0 x118_4).f2))) (fun _ hk => hk.2) (.int .i64 ((rd_T26 l0 x118_4).f3.f0))) (fun _ hk => hk.2) (.int .i64 ((rd_T26 l0 x118_4).f3.f1))) (fun _ hk => hk.2) (.int .i64 ((rd_T26 l0 x118_4).f4))) (fun _ hk => hk.2) (.bool ((rd_T26 l0 x118_4).f5))) (fun _ hk => ⟨hk.1.1, ⟨hk.1.1, hk.1.2⟩⟩)⟩, ⟨by (with_reducible repeat (first | apply Kd.R_alloc | apply Kd.R_drewN | apply Kd.R_drew)); exact Kd.R_mono (Kd.R_far (p := ⟨gb301, 6, none⟩) (Kd.R_far (p := ⟨gb301, 5, none⟩) (Kd.R_far (p := ⟨gb301, 4, none⟩) (Kd.R_far (p := ⟨gb301, 3, none⟩) (Kd.R_far (p := ⟨gb301, 2, none⟩) (Kd.R_far (p := ⟨gb301, 1, none⟩) (Kd.R_far (p := ⟨gb301, 0, none⟩) (Kd.R_mono HO_17.out (fun k_ hk => (⟨hk, hk.2⟩ : _ ∧ k_ ≠ gb301))) (fun _ hk => hk.2) (.int .i64 ((rd_T26 l0 x118_4).f0))) (fun _ hk => hk.2) (.string ((rd_T26 l0 x118_4).f1))) (fun _ hk => hk.2) (.int .i64 ((rd_T26 l0 x118_4).f2))) (fun _ hk => hk.2) (.int .i64 ((rd_T26 l0 x118_4).f3.f0))) (fun _ hk => hk.2) (.int .i64 ((rd_T26 l0 x118_4).f3.f1))) (fun _ hk => hk.2) (.int .i64 ((rd_T26 l0 x118_4).f4))) (fun _ hk => hk.2) (.bool ((rd_T26 l0 x118_4).f5))) (fun _ hk => ⟨hk.1.1, hk.1.2⟩)⟩, ⟨by (with_reducible repeat (first | apply Kd.R_alloc | apply Kd.R_drewN | apply Kd.R_drew)); exact Kd.R_mono (Kd.R_far (p := ⟨gb301, 6, none⟩) (Kd.R_far (p := ⟨gb301, 5, none⟩) (Kd.R_far (p := ⟨gb301, 4, none⟩) (Kd.R_far (p := ⟨gb301, 3, none⟩) (Kd.R_far (p := ⟨gb301, 2, none⟩) (Kd.R_far (p := ⟨gb301, 1, none⟩) (Kd.R_far (p := ⟨gb301, 0, none⟩) (Kd.R_mono HO_17.out (fun k_ hk => (⟨hk, hk.2⟩ : _ ∧ k_ ≠ gb301))) (fun _ hk => hk.2) (.int .i64 ((rd_T26 l0 x118_4).f0))) (fun _ hk => hk.2) (.string ((rd_T26 l0 x118_4).f1))) (fun _ hk => hk.2) (.int .i64 ((rd_T26 l0 x118_4).f2))) (fun _ hk => hk.2) (.int .i64 ((rd_T26 l0 x118_4).f3.f0))) (fun _ hk => hk.2) (.int .i64 ((rd_T26 l0 x118_4).f3.f1))) (fun _ hk => hk.2) (.int .i64 ((rd_T26 l0 x118_4).f4))) (fun _ hk => hk.2) (.bool ((rd_T26 l0 x118_4).f5))) (fun _ hk => ⟨hk.1.1, hk.1.2⟩)⟩, ⟨by (with_reducible repeat (first | refine kN ?_ _ | refine kD ?_ | refine kA ?_ _)); refine blk_put (cs := #[.int .i64 ((rd_T26 l0 x118_4).f0), .string ((rd_T26 l0 x118_4).f1), .int .i64 ((rd_T26 l0 x118_4).f2), .int .i64 ((rd_T26 l0 x118_4).f3.f0), .int .i64 ((rd_T26 l0 x118_4).f3.f1), .int .i64 ((rd_T26 l0 x118_4).f4), .bool false]) ?_ 6 _ rfl; (with_reducible repeat (first | refine kN ?_ _ | refine kD ?_ | refine kA ?_ _)); refine blk_put (cs := #[.int .i64 ((rd_T26 l0 x118_4).f0), .string ((rd_T26 l0 x118_4).f1), .int .i64 ((rd_T26 l0 x118_4).f2), .int .i64 ((rd_T26 l0 x118_4).f3.f0), .int .i64 ((rd_T26 l0 x118_4).f3.f1), .int .i64 0, .bool false]) ?_ 5 _ rfl; (with_reducible repeat (first | refine kN ?_ _ | refine kD ?_ | refine kA ?_ _)); refine blk_put (cs := #[.int .i64 ((rd_T26 l0 x118_4).f0), .string ((rd_T26 l0 x118_4).f1), .int .i64 ((rd_T26 l0 x118_4).f2), .int .i64 ((rd_T26 l0 x118_4).f3.f0), .int .i64 0, .int .i64 0, .bool false]) ?_ 4 _ rfl; (with_reducible repeat (first | refine kN ?_ _ | refine kD ?_ | refine kA ?_ _)); refine blk_put (cs := #[.int .i64 ((rd_T26 l0 x118_4).f0), .string ((rd_T26 l0 x118_4).f1), .int .i64 ((rd_T26 l0 x118_4).f2), .int .i64 0, .int .i64 0, .int .i64 0, .bool false]) ?_ 3 _ rfl; (with_reducible repeat (first | refine kN ?_ _ | refine kD ?_ | refine kA ?_ _)); refine blk_put (cs := #[.int .i64 ((rd_T26 l0 x118_4).f0), .string ((rd_T26 l0 x118_4).f1), .int .i64 0, .int .i64 0, .int .i64 0, .int .i64 0, .bool false]) ?_ 2 _ rfl; (with_reducible repeat (first | refine kN ?_ _ | refine kD ?_ | refine kA ?_ _)); refine blk_put (cs := #[.int .i64 ((rd_T26 l0 x118_4).f0), .string (⟨#[]⟩ : ByteArray), .int .i64 0, .int .i64 0, .int .i64 0, .int .i64 0, .bool false]) ?_ 1 _ rfl; (with_reducible repeat (first | refine kN ?_ _ | refine kD ?_ | refine kA ?_ _)); refine blk_put (cs := #[.int .i64 0, .string (⟨#[]⟩ : ByteArray), .int .i64 0, .int .i64 0, .int .i64 0, .int .i64 0, .bool false]) ?_ 0 _ rfl; (with_reducible repeat (first | refine kN ?_ _ | refine kD ?_ | refine kA ?_ _)); exact BK301.out⟩, ⟨by repeat (first | (with_reducible first | exact HB.out | apply bA | apply bN | apply b1 | refine bS ?_ GE301.out) | exact HB.out)⟩⟩
                case round =>
                 clear H'
                 try clear c1
                 try clear c2
                 try clear p2
                 try clear q2
                 try clear hx2
                 try clear c3
                 try clear p3
                 try clear q3
                 try clear hx3
                 try clear c4
                 try clear c5
                 try clear c6
                 try clear p6
                 try clear c7
                 try clear c9
                 try clear c10
                 try clear c12
                 try clear c12b0
                 try clear c12b1
                 try clear c13
                 try clear c13b0
                 try clear c13b1
                 try clear c16
                 try clear c22
                 try clear c25
                 try clear c25b0
                 try clear c25b1
                 try clear c26
                 try clear c26b0
                 try clear c26b1
                 try clear p29
                 try clear q29
                 try clear hx29
                 try clear c30
                 try clear p30
                 try clear q30
                 try clear hx30
                 try clear c32
                 try clear c32b0
                 try clear c33
                 try clear c33b0
                 try clear c34
                 try clear c34b0
                 try clear c38
                 try clear c38b0
                 try clear c40
                 try clear c40b0
                 try clear c41
                 try clear c41b0
                 try clear c48
                 try clear c49
                 try clear c49b0
                 try clear c50
                 try clear c50b0
                 try clear c51
                 try clear c51b0
                 try clear c52
                 try clear c54
                 try clear c57
                 try clear c60
                 try clear c61
                 try clear c62
                 try clear c62b0
                 try clear c63
                 try clear c63b0
                 try clear c64
                 try clear c64b0
                 try clear p64
                 try clear hcz37_0
                 try clear hcz37_1
                 try clear hcz37_2
                 try clear hcz37_3
                 try clear hcz37_4
                 try clear hcz37_5
                 try clear hcz37_6
                 try clear hcz55_0
                 try clear hcz55_1
                 try clear hcz55_2
                 try clear hcz55_3
                 try clear hcz55_4
                 try clear hcz55_5
                 try clear hcz55_6
                 try clear hcz58_0
                 try clear hcz58_1
                 try clear hcz58_2
                 try clear hcz58_3
                 try clear hcz58_4
                 try clear hcz58_5
                 try clear hcz58_6
                 try clear hcz59_0
                 try clear hcz59_1
                 try clear hcz59_2
                 try clear hcz59_3
                 try clear hcz59_4
                 try clear hcz59_5
                 try clear hcz59_6
                 try clear hcz66_0
                 try clear hcz66_1
                 try clear hcz66_2
                 try clear hcz66_3
                 try clear hcz66_4
                 try clear hcz66_5
                 try clear hcz66_6
                 try clear hfz37_0
                 try clear hfz37_1
                 try clear hfz37_2
                 try clear hfz37_3
                 try clear hfz37_4
                 try clear hfz37_5
                 try clear hfz37_6
                 try clear hfz55_0
                 try clear hfz55_1
                 try clear hfz55_2
                 try clear hfz55_3
                 try clear hfz55_4
                 try clear hfz55_5
                 try clear hfz55_6
                 try clear hfz58_0
                 try clear hfz58_1
                 try clear hfz58_2
                 try clear hfz58_3
                 try clear hfz58_4
                 try clear hfz58_5
                 try clear hfz58_6
                 try clear hfz59_0
                 try clear hfz59_1
                 try clear hfz59_2
                 try clear hfz59_3
                 try clear hfz59_4
                 try clear hfz59_5
                 try clear hfz59_6
                 try clear hfz66_0
                 try clear hfz66_1
                 try clear hfz66_2
                 try clear hfz66_3
                 try clear hfz66_4
                 try clear hfz66_5
                 try clear hfz66_6
                 try clear hx294_0
                 try clear hx294_1
                 try clear hx294_2
                 try clear hx294_3
                 try clear hx294_4
                 try clear hx294_5
                 try clear hx294_6
                 try clear hx296_0
                 try clear hx296_1
                 try clear hx296_2
                 try clear hx296_3
                 try clear hx296_4
                 try clear hx296_5
                 try clear hx296_6
                 try clear hx298_0
                 try clear hx298_1
                 try clear hx298_2
                 try clear hx298_3
                 try clear hx298_4
                 try clear hx298_5
                 try clear hx298_6
                 try clear hx300_0
                 try clear hx300_1
                 try clear hx300_2
                 try clear hx300_3
                 try clear hx300_4
                 try clear hx300_5
                 try clear hx300_6
                 try clear p2
                 try clear p29
                 try clear p294
                 try clear p296
                 try clear p298
                 try clear p300
                 try clear p6
                 try clear q2
                 try clear q29
                 try clear q294
                 try clear q296
                 try clear q298
                 try clear q300
                 obtain ⟨x28_5, x124_5, rfl, rfl, HA, HK5, HO_16, HO_17, HO_122, BK301, HB⟩ := hrel
                 cases gk with
                 | zero => exact absurd HA.out (by simp [cohousinglaw16_FactsOrder.l3])
                 | succ k5 =>
                  have H := HA.out
                  clear HA
                  simp only [cohousinglaw16_FactsOrder.l3] at H
                  by_cases c67 : x124_5 < (t285.length : Int)
                  ·rw [if_pos c67] at H
                   have c67b0 : decide (x124_5 < (t285.length : Int)) = true := dT c67
                   clear c67
                   by_cases c68 : 0 ≤ x124_5
                   ·rw [if_pos c68] at H
                    have c68b0 : decide (0 ≤ x124_5) = true := dT c68
                    clear c68
                    by_cases c69 : x124_5 < (t285.length : Int)
                    ·rw [if_pos c69] at H
                     have c69b0 : decide (x124_5 < (t285.length : Int)) = true := dT c69
                     clear c69
                     by_cases c70 : x28_5 = true
                     ·subst c70
                      have H1 : (cohousinglaw16_FactsOrder.l3 k5 l0 a2 a3 a4 a5 a6 x15_4 t282 t285 true l0 (l0.length : Int) x118_4 t285 (t285.length : Int) (wrap64 (x124_5 + 1)) ((rd_T26 l0 x118_4).f0) ((rd_T26 l0 x118_4).f1) ((rd_T26 l0 x118_4).f2) ((rd_T26 l0 x118_4).f3.f0) ((rd_T26 l0 x118_4).f3.f1) ((rd_T26 l0 x118_4).f4) ((rd_T26 l0 x118_4).f5)) = some r := by rw [if_pos rfl] at H; exact H
                      clear H
                      have H := H1
                      clear H1
                      have H' := Aside0.mk H
                      clear H
                      have p302 : 0 ≤ (x124_5 : Int) := oT (by first | (with_reducible assumption) | assumption)
                      have q302 : x124_5 < (t285.length : Int) := oT (by first | (with_reducible assumption) | assumption)
                      obtain ⟨ad302, e302, hx302_0, hx302_1, hx302_2, hx302_3, hx302_4, hx302_5, hx302_6⟩ := at_T26 (Kd.R_reads' HO_122.out).2.2 x124_5 p302 q302
                      cases e302
                      replace p302 := eq_true p302
                      replace q302 := eq_true q302
                      go_wp2_with (first | ((with_reducible refine gate_dst (N := 30) rfl ?_); (try (refine gate_guard (by rfl) ?_; dsimp only)); refine box_event ?hg (N := 30) ?hd (cs := #[.int .i64 0, .string (⟨#[]⟩ : ByteArray), .int .i64 0, .int .i64 0, .int .i64 0, .int .i64 0, .bool false]) (t := 26) ?hr ?_; (case hd => rfl); (case hg => rfl); (case hr => first | (go_simp; done) | (go_simp; rfl)); intro gb303 hg w71 hbox hb; have n0_ := Aside0.mk (Kd.R_below (Kd.R_elderB (by (with_reducible repeat (first | apply Kd.R_alloc | apply Kd.R_drewN | apply Kd.R_drew)); exact HO_16.out) gb303 (Nat.le_of_eq hg.symm)) hb); have n1_ := Aside0.mk (Kd.R_below (Kd.R_elderB (by (with_reducible repeat (first | apply Kd.R_alloc | apply Kd.R_drewN | apply Kd.R_drew)); exact HO_17.out) gb303 (Nat.le_of_eq hg.symm)) hb); have n2_ := Aside0.mk (Kd.R_below (Kd.R_elderB (by (with_reducible repeat (first | apply Kd.R_alloc | apply Kd.R_drewN | apply Kd.R_drew)); exact HO_122.out) gb303 (Nat.le_of_eq hg.symm)) hb); have n3_ := Aside0.mk (kB (g := gb301) (o := .cells #[.int .i64 ((rd_T26 l0 x118_4).f0), .string ((rd_T26 l0 x118_4).f1), .int .i64 ((rd_T26 l0 x118_4).f2), .int .i64 ((rd_T26 l0 x118_4).f3.f0), .int .i64 ((rd_T26 l0 x118_4).f3.f1), .int .i64 ((rd_T26 l0 x118_4).f4), .bool ((rd_T26 l0 x118_4).f5)] 26 (0, 0)) (by (with_reducible repeat (first | refine kN ?_ _ | refine kD ?_ | refine kA ?_ _)); exact BK301.out) hb); have n4_ := Aside0.mk (bT (by repeat (first | (with_reducible first | exact HB.out | apply bA | apply bN | apply b1 | refine bS ?_ GE301.out) | exact HB.out)) hb); have n5_ := Aside0.mk (hbox); have n6_ := Aside0.mk ((by rw [hg]; exact (bZ (by repeat (first | (with_reducible first | exact HB.out | apply bA | apply bN | apply b1 | refine bS ?_ GE301.out) | exact HB.out))) : w.heap.size ≤ gb303)); have n7_ := n6_; have n8_ := Aside0.mk ((by rw [hg]; exact Nat.ne_of_lt (blk_lt (g := gb301) (o := .cells #[.int .i64 ((rd_T26 l0 x118_4).f0), .string ((rd_T26 l0 x118_4).f1), .int .i64 ((rd_T26 l0 x118_4).f2), .int .i64 ((rd_T26 l0 x118_4).f3.f0), .int .i64 ((rd_T26 l0 x118_4).f3.f1), .int .i64 ((rd_T26 l0 x118_4).f4), .bool ((rd_T26 l0 x118_4).f5)] 26 (0, 0)) (by (with_reducible repeat (first | refine kN ?_ _ | refine kD ?_ | refine kA ?_ _)); exact BK301.out)) : gb301 ≠ gb303)); have n9_ := Aside0.mk n8_.out.symm; clear HO_16; clear HO_17; clear HO_122; clear BK301; clear HB; have HO_16 := n0_; have HO_17 := n1_; have HO_122 := n2_; have BK301 := n3_; have HB := n4_; have BK303 := n5_; have GW303 := n6_; have GE303 := n7_; have NB301_303 := n8_; have NB303_301 := n9_; clear n0_ n1_ n2_ n3_ n4_ n5_ n6_ n7_ n8_ n9_; clear hb hbox hg; have hnb72 := NB303_301.out; have hnc72 := NB301_303.out; have hcz73_0 : w71.cell? ⟨gb303, 0, none⟩ = some (.int .i64 0) := (kC BK303.out 0).trans rfl; have hcz73_1 : w71.cell? ⟨gb303, 1, none⟩ = some (.string (⟨#[]⟩ : ByteArray)) := (kC BK303.out 1).trans rfl; have hcz73_2 : w71.cell? ⟨gb303, 2, none⟩ = some (.int .i64 0) := (kC BK303.out 2).trans rfl; have hcz73_3 : w71.cell? ⟨gb303, 3, none⟩ = some (.int .i64 0) := (kC BK303.out 3).trans rfl; have hcz73_4 : w71.cell? ⟨gb303, 4, none⟩ = some (.int .i64 0) := (kC BK303.out 4).trans rfl; have hcz73_5 : w71.cell? ⟨gb303, 5, none⟩ = some (.int .i64 0) := (kC BK303.out 5).trans rfl; have hcz73_6 : w71.cell? ⟨gb303, 6, none⟩ = some (.bool false) := (kC BK303.out 6).trans rfl; have hfz73_0 := blk_frozen BK303.out 0; have hfz73_1 := blk_frozen BK303.out 1; have hfz73_2 := blk_frozen BK303.out 2; have hfz73_3 := blk_frozen BK303.out 3; have hfz73_4 := blk_frozen BK303.out 4; have hfz73_5 := blk_frozen BK303.out 5; have hfz73_6 := blk_frozen BK303.out 6))
                      go_roundg k5
                      case measure => have := HJ9.out; have := HJ19.out; have := HK3.out; have := HK4.out; have := HK5.out; omega
                      case rel => exact ⟨(true), (wrap64 (x124_5 + 1)), (by first | rfl | (simp; done) | (simp [*]; done)), (by first | rfl | (simp; done) | (simp [*]; done)), H', ⟨by have := HJ9.out; have := HJ19.out; have := HK3.out; have := HK4.out; have := HK5.out; omega⟩, ⟨by (with_reducible repeat (first | apply Kd.R_alloc | apply Kd.R_drewN | apply Kd.R_drew)); exact Kd.R_mono (Kd.R_far (p := ⟨gb303, 6, none⟩) (Kd.R_far (p := ⟨gb303, 5, none⟩) (Kd.R_far (p := ⟨gb303, 4, none⟩) (Kd.R_far (p := ⟨gb303, 3, none⟩) (Kd.R_far (p := ⟨gb303, 2, none⟩) (Kd.R_far (p := ⟨gb303, 1, none⟩) (Kd.R_far (p := ⟨gb303, 0, none⟩) (Kd.R_mono HO_16.out (fun k_ hk => (⟨hk, hk.2⟩ : _ ∧ k_ ≠ gb303))) (fun _ hk => hk.2) (.int .i64 ((rd_T26 t285 x124_5).f0))) (fun _ hk => hk.2) (.string ((rd_T26 t285 x124_5).f1))) (fun _ hk => hk.2) (.int .i64 ((rd_T26 t285 x124_5).f2))) (fun _ hk => hk.2) (.int .i64 ((rd_T26 t285 x124_5).f3.f0))) (fun _ hk => hk.2) (.int .i64 ((rd_T26 t285 x124_5).f3.f1))) (fun _ hk => hk.2) (.int .i64 ((rd_T26 t285 x124_5).f4))) (fun _ hk => hk.2) (.bool ((rd_T26 t285 x124_5).f5))) (fun _ hk => ⟨hk.1.1.1, ⟨hk.1.1.2.1, hk.1.1.2.2⟩⟩)⟩, ⟨by (with_reducible repeat (first | apply Kd.R_alloc | apply Kd.R_drewN | apply Kd.R_drew)); exact Kd.R_mono (Kd.R_far (p := ⟨gb303, 6, none⟩) (Kd.R_far (p := ⟨gb303, 5, none⟩) (Kd.R_far (p := ⟨gb303, 4, none⟩) (Kd.R_far (p := ⟨gb303, 3, none⟩) (Kd.R_far (p := ⟨gb303, 2, none⟩) (Kd.R_far (p := ⟨gb303, 1, none⟩) (Kd.R_far (p := ⟨gb303, 0, none⟩) (Kd.R_mono HO_17.out (fun k_ hk => (⟨hk, hk.2⟩ : _ ∧ k_ ≠ gb303))) (fun _ hk => hk.2) (.int .i64 ((rd_T26 t285 x124_5).f0))) (fun _ hk => hk.2) (.string ((rd_T26 t285 x124_5).f1))) (fun _ hk => hk.2) (.int .i64 ((rd_T26 t285 x124_5).f2))) (fun _ hk => hk.2) (.int .i64 ((rd_T26 t285 x124_5).f3.f0))) (fun _ hk => hk.2) (.int .i64 ((rd_T26 t285 x124_5).f3.f1))) (fun _ hk => hk.2) (.int .i64 ((rd_T26 t285 x124_5).f4))) (fun _ hk => hk.2) (.bool ((rd_T26 t285 x124_5).f5))) (fun _ hk => ⟨hk.1.1.1, hk.1.1.2⟩)⟩, ⟨by (with_reducible repeat (first | apply Kd.R_alloc | apply Kd.R_drewN | apply Kd.R_drew)); exact Kd.R_mono (Kd.R_far (p := ⟨gb303, 6, none⟩) (Kd.R_far (p := ⟨gb303, 5, none⟩) (Kd.R_far (p := ⟨gb303, 4, none⟩) (Kd.R_far (p := ⟨gb303, 3, none⟩) (Kd.R_far (p := ⟨gb303, 2, none⟩) (Kd.R_far (p := ⟨gb303, 1, none⟩) (Kd.R_far (p := ⟨gb303, 0, none⟩) (Kd.R_mono HO_122.out (fun k_ hk => (⟨hk, hk.2⟩ : _ ∧ k_ ≠ gb303))) (fun _ hk => hk.2) (.int .i64 ((rd_T26 t285 x124_5).f0))) (fun _ hk => hk.2) (.string ((rd_T26 t285 x124_5).f1))) (fun _ hk => hk.2) (.int .i64 ((rd_T26 t285 x124_5).f2))) (fun _ hk => hk.2) (.int .i64 ((rd_T26 t285 x124_5).f3.f0))) (fun _ hk => hk.2) (.int .i64 ((rd_T26 t285 x124_5).f3.f1))) (fun _ hk => hk.2) (.int .i64 ((rd_T26 t285 x124_5).f4))) (fun _ hk => hk.2) (.bool ((rd_T26 t285 x124_5).f5))) (fun _ hk => ⟨hk.1.1.1, hk.1.1.2⟩)⟩, ⟨by (with_reducible repeat (first | refine kN ?_ _ | refine kD ?_ | refine kA ?_ _)); refine kF ?_ NB301_303.out _; (with_reducible repeat (first | refine kN ?_ _ | refine kD ?_ | refine kA ?_ _)); refine kF ?_ NB301_303.out _; (with_reducible repeat (first | refine kN ?_ _ | refine kD ?_ | refine kA ?_ _)); refine kF ?_ NB301_303.out _; (with_reducible repeat (first | refine kN ?_ _ | refine kD ?_ | refine kA ?_ _)); refine kF ?_ NB301_303.out _; (with_reducible repeat (first | refine kN ?_ _ | refine kD ?_ | refine kA ?_ _)); refine kF ?_ NB301_303.out _; (with_reducible repeat (first | refine kN ?_ _ | refine kD ?_ | refine kA ?_ _)); refine kF ?_ NB301_303.out _; (with_reducible repeat (first | refine kN ?_ _ | refine kD ?_ | refine kA ?_ _)); refine kF ?_ NB301_303.out _; (with_reducible repeat (first | refine kN ?_ _ | refine kD ?_ | refine kA ?_ _)); exact BK301.out⟩, ⟨by repeat (first | (with_reducible first | exact HB.out | apply bA | apply bN | apply b1 | refine bS ?_ GE301.out | refine bS ?_ GE303.out) | exact HB.out)⟩⟩
                     ·replace c70 := Bool.eq_false_iff.mpr c70
                      subst c70
                      have H1 : (cohousinglaw16_FactsOrder.l3 k5 l0 a2 a3 a4 a5 a6 x15_4 t282 t285 (((rd_T26 t285 x124_5).f0) == ((rd_T26 l0 x118_4).f0) && ((((rd_T26 t285 x124_5).f1).toList) == ((rd_T26 l0 x118_4).f1).toList && (((rd_T26 t285 x124_5).f2) == ((rd_T26 l0 x118_4).f2) && ((((rd_T26 t285 x124_5).f3.f0) == ((rd_T26 l0 x118_4).f3.f0) && (((rd_T26 t285 x124_5).f3.f1) == ((rd_T26 l0 x118_4).f3.f1))) && (((rd_T26 t285 x124_5).f4) == ((rd_T26 l0 x118_4).f4) && (((rd_T26 t285 x124_5).f5) == ((rd_T26 l0 x118_4).f5))))))) l0 (l0.length : Int) x118_4 t285 (t285.length : Int) (wrap64 (x124_5 + 1)) ((rd_T26 l0 x118_4).f0) ((rd_T26 l0 x118_4).f1) ((rd_T26 l0 x118_4).f2) ((rd_T26 l0 x118_4).f3.f0) ((rd_T26 l0 x118_4).f3.f1) ((rd_T26 l0 x118_4).f4) ((rd_T26 l0 x118_4).f5)) = some r := by rw [if_neg (show ¬ (false = true) by decide)] at H; exact H
                      clear H
                      have H := H1
                      clear H1
                      have H' := Aside0.mk H
                      clear H
                      have p302 : 0 ≤ (x124_5 : Int) := oT (by first | (with_reducible assumption) | assumption)
                      have q302 : x124_5 < (t285.length : Int) := oT (by first | (with_reducible assumption) | assumption)
                      obtain ⟨ad302, e302, hx302_0, hx302_1, hx302_2, hx302_3, hx302_4, hx302_5, hx302_6⟩ := at_T26 (Kd.R_reads' HO_122.out).2.2 x124_5 p302 q302
                      cases e302
                      replace p302 := eq_true p302
                      replace q302 := eq_true q302
                      go_wp2_with (first | ((with_reducible refine gate_dst (N := 30) rfl ?_); (try (refine gate_guard (by rfl) ?_; dsimp only)); refine box_event ?hg (N := 30) ?hd (cs := #[.int .i64 0, .string (⟨#[]⟩ : ByteArray), .int .i64 0, .int .i64 0, .int .i64 0, .int .i64 0, .bool false]) (t := 26) ?hr ?_; (case hd => rfl); (case hg => rfl); (case hr => first | (go_simp; done) | (go_simp; rfl)); intro gb303 hg w74 hbox hb; have n0_ := Aside0.mk (Kd.R_below (Kd.R_elderB (by (with_reducible repeat (first | apply Kd.R_alloc | apply Kd.R_drewN | apply Kd.R_drew)); exact HO_16.out) gb303 (Nat.le_of_eq hg.symm)) hb); have n1_ := Aside0.mk (Kd.R_below (Kd.R_elderB (by (with_reducible repeat (first | apply Kd.R_alloc | apply Kd.R_drewN | apply Kd.R_drew)); exact HO_17.out) gb303 (Nat.le_of_eq hg.symm)) hb); have n2_ := Aside0.mk (Kd.R_below (Kd.R_elderB (by (with_reducible repeat (first | apply Kd.R_alloc | apply Kd.R_drewN | apply Kd.R_drew)); exact HO_122.out) gb303 (Nat.le_of_eq hg.symm)) hb); have n3_ := Aside0.mk (kB (g := gb301) (o := .cells #[.int .i64 ((rd_T26 l0 x118_4).f0), .string ((rd_T26 l0 x118_4).f1), .int .i64 ((rd_T26 l0 x118_4).f2), .int .i64 ((rd_T26 l0 x118_4).f3.f0), .int .i64 ((rd_T26 l0 x118_4).f3.f1), .int .i64 ((rd_T26 l0 x118_4).f4), .bool ((rd_T26 l0 x118_4).f5)] 26 (0, 0)) (by (with_reducible repeat (first | refine kN ?_ _ | refine kD ?_ | refine kA ?_ _)); exact BK301.out) hb); have n4_ := Aside0.mk (bT (by repeat (first | (with_reducible first | exact HB.out | apply bA | apply bN | apply b1 | refine bS ?_ GE301.out) | exact HB.out)) hb); have n5_ := Aside0.mk (hbox); have n6_ := Aside0.mk ((by rw [hg]; exact (bZ (by repeat (first | (with_reducible first | exact HB.out | apply bA | apply bN | apply b1 | refine bS ?_ GE301.out) | exact HB.out))) : w.heap.size ≤ gb303)); have n7_ := n6_; have n8_ := Aside0.mk ((by rw [hg]; exact Nat.ne_of_lt (blk_lt (g := gb301) (o := .cells #[.int .i64 ((rd_T26 l0 x118_4).f0), .string ((rd_T26 l0 x118_4).f1), .int .i64 ((rd_T26 l0 x118_4).f2), .int .i64 ((rd_T26 l0 x118_4).f3.f0), .int .i64 ((rd_T26 l0 x118_4).f3.f1), .int .i64 ((rd_T26 l0 x118_4).f4), .bool ((rd_T26 l0 x118_4).f5)] 26 (0, 0)) (by (with_reducible repeat (first | refine kN ?_ _ | refine kD ?_ | refine kA ?_ _)); exact BK301.out)) : gb301 ≠ gb303)); have n9_ := Aside0.mk n8_.out.symm; clear HO_16; clear HO_17; clear HO_122; clear BK301; clear HB; have HO_16 := n0_; have HO_17 := n1_; have HO_122 := n2_; have BK301 := n3_; have HB := n4_; have BK303 := n5_; have GW303 := n6_; have GE303 := n7_; have NB301_303 := n8_; have NB303_301 := n9_; clear n0_ n1_ n2_ n3_ n4_ n5_ n6_ n7_ n8_ n9_; clear hb hbox hg; have hnb75 := NB303_301.out; have hnc75 := NB301_303.out; have hcz76_0 : w74.cell? ⟨gb303, 0, none⟩ = some (.int .i64 0) := (kC BK303.out 0).trans rfl; have hcz76_1 : w74.cell? ⟨gb303, 1, none⟩ = some (.string (⟨#[]⟩ : ByteArray)) := (kC BK303.out 1).trans rfl; have hcz76_2 : w74.cell? ⟨gb303, 2, none⟩ = some (.int .i64 0) := (kC BK303.out 2).trans rfl; have hcz76_3 : w74.cell? ⟨gb303, 3, none⟩ = some (.int .i64 0) := (kC BK303.out 3).trans rfl; have hcz76_4 : w74.cell? ⟨gb303, 4, none⟩ = some (.int .i64 0) := (kC BK303.out 4).trans rfl; have hcz76_5 : w74.cell? ⟨gb303, 5, none⟩ = some (.int .i64 0) := (kC BK303.out 5).trans rfl; have hcz76_6 : w74.cell? ⟨gb303, 6, none⟩ = some (.bool false) := (kC BK303.out 6).trans rfl; have hfz76_0 := blk_frozen BK303.out 0; have hfz76_1 := blk_frozen BK303.out 1; have hfz76_2 := blk_frozen BK303.out 2; have hfz76_3 := blk_frozen BK303.out 3; have hfz76_4 := blk_frozen BK303.out 4; have hfz76_5 := blk_frozen BK303.out 5; have hfz76_6 := blk_frozen BK303.out 6; have hcz77_0 : w74.cell? ⟨gb301, 0, none⟩ = some (.int .i64 ((rd_T26 l0 x118_4).f0)) := (kC BK301.out 0).trans rfl; have hcz77_1 : w74.cell? ⟨gb301, 1, none⟩ = some (.string ((rd_T26 l0 x118_4).f1)) := (kC BK301.out 1).trans rfl; have hcz77_2 : w74.cell? ⟨gb301, 2, none⟩ = some (.int .i64 ((rd_T26 l0 x118_4).f2)) := (kC BK301.out 2).trans rfl; have hcz77_3 : w74.cell? ⟨gb301, 3, none⟩ = some (.int .i64 ((rd_T26 l0 x118_4).f3.f0)) := (kC BK301.out 3).trans rfl; have hcz77_4 : w74.cell? ⟨gb301, 4, none⟩ = some (.int .i64 ((rd_T26 l0 x118_4).f3.f1)) := (kC BK301.out 4).trans rfl; have hcz77_5 : w74.cell? ⟨gb301, 5, none⟩ = some (.int .i64 ((rd_T26 l0 x118_4).f4)) := (kC BK301.out 5).trans rfl; have hcz77_6 : w74.cell? ⟨gb301, 6, none⟩ = some (.bool ((rd_T26 l0 x118_4).f5)) := (kC BK301.out 6).trans rfl; have hfz77_0 := blk_frozen BK301.out 0; have hfz77_1 := blk_frozen BK301.out 1; have hfz77_2 := blk_frozen BK301.out 2; have hfz77_3 := blk_frozen BK301.out 3; have hfz77_4 := blk_frozen BK301.out 4; have hfz77_5 := blk_frozen BK301.out 5; have hfz77_6 := blk_frozen BK301.out 6))
                      go_roundg k5
                      case measure => have := HJ9.out; have := HJ19.out; have := HK3.out; have := HK4.out; have := HK5.out; omega
                      case rel => exact ⟨((((rd_T26 t285 x124_5).f0) == ((rd_T26 l0 x118_4).f0) && ((((rd_T26 t285 x124_5).f1).toList) == ((rd_T26 l0 x118_4).f1).toList && (((rd_T26 t285 x124_5).f2) == ((rd_T26 l0 x118_4).f2) && ((((rd_T26 t285 x124_5).f3.f0) == ((rd_T26 l0 x118_4).f3.f0) && (((rd_T26 t285 x124_5).f3.f1) == ((rd_T26 l0 x118_4).f3.f1))) && (((rd_T26 t285 x124_5).f4) == ((rd_T26 l0 x118_4).f4) && (((rd_T26 t285 x124_5).f5) == ((rd_T26 l0 x118_4).f5)))))))), (wrap64 (x124_5 + 1)), (by first | rfl | (simp; done) | (simp [*]; done)), (by first | rfl | (simp; done) | (simp [*]; done)), H', ⟨by have := HJ9.out; have := HJ19.out; have := HK3.out; have := HK4.out; have := HK5.out; omega⟩, ⟨by (with_reducible repeat (first | apply Kd.R_alloc | apply Kd.R_drewN | apply Kd.R_drew)); exact Kd.R_mono (Kd.R_far (p := ⟨gb303, 6, none⟩) (Kd.R_far (p := ⟨gb303, 5, none⟩) (Kd.R_far (p := ⟨gb303, 4, none⟩) (Kd.R_far (p := ⟨gb303, 3, none⟩) (Kd.R_far (p := ⟨gb303, 2, none⟩) (Kd.R_far (p := ⟨gb303, 1, none⟩) (Kd.R_far (p := ⟨gb303, 0, none⟩) (Kd.R_mono HO_16.out (fun k_ hk => (⟨hk, hk.2⟩ : _ ∧ k_ ≠ gb303))) (fun _ hk => hk.2) (.int .i64 ((rd_T26 t285 x124_5).f0))) (fun _ hk => hk.2) (.string ((rd_T26 t285 x124_5).f1))) (fun _ hk => hk.2) (.int .i64 ((rd_T26 t285 x124_5).f2))) (fun _ hk => hk.2) (.int .i64 ((rd_T26 t285 x124_5).f3.f0))) (fun _ hk => hk.2) (.int .i64 ((rd_T26 t285 x124_5).f3.f1))) (fun _ hk => hk.2) (.int .i64 ((rd_T26 t285 x124_5).f4))) (fun _ hk => hk.2) (.bool ((rd_T26 t285 x124_5).f5))) (fun _ hk => ⟨hk.1.1.1, ⟨hk.1.1.2.1, hk.1.1.2.2⟩⟩)⟩, ⟨by (with_reducible repeat (first | apply Kd.R_alloc | apply Kd.R_drewN | apply Kd.R_drew)); exact Kd.R_mono (Kd.R_far (p := ⟨gb303, 6, none⟩) (Kd.R_far (p := ⟨gb303, 5, none⟩) (Kd.R_far (p := ⟨gb303, 4, none⟩) (Kd.R_far (p := ⟨gb303, 3, none⟩) (Kd.R_far (p := ⟨gb303, 2, none⟩) (Kd.R_far (p := ⟨gb303, 1, none⟩) (Kd.R_far (p := ⟨gb303, 0, none⟩) (Kd.R_mono HO_17.out (fun k_ hk => (⟨hk, hk.2⟩ : _ ∧ k_ ≠ gb303))) (fun _ hk => hk.2) (.int .i64 ((rd_T26 t285 x124_5).f0))) (fun _ hk => hk.2) (.string ((rd_T26 t285 x124_5).f1))) (fun _ hk => hk.2) (.int .i64 ((rd_T26 t285 x124_5).f2))) (fun _ hk => hk.2) (.int .i64 ((rd_T26 t285 x124_5).f3.f0))) (fun _ hk => hk.2) (.int .i64 ((rd_T26 t285 x124_5).f3.f1))) (fun _ hk => hk.2) (.int .i64 ((rd_T26 t285 x124_5).f4))) (fun _ hk => hk.2) (.bool ((rd_T26 t285 x124_5).f5))) (fun _ hk => ⟨hk.1.1.1, hk.1.1.2⟩)⟩, ⟨by (with_reducible repeat (first | apply Kd.R_alloc | apply Kd.R_drewN | apply Kd.R_drew)); exact Kd.R_mono (Kd.R_far (p := ⟨gb303, 6, none⟩) (Kd.R_far (p := ⟨gb303, 5, none⟩) (Kd.R_far (p := ⟨gb303, 4, none⟩) (Kd.R_far (p := ⟨gb303, 3, none⟩) (Kd.R_far (p := ⟨gb303, 2, none⟩) (Kd.R_far (p := ⟨gb303, 1, none⟩) (Kd.R_far (p := ⟨gb303, 0, none⟩) (Kd.R_mono HO_122.out (fun k_ hk => (⟨hk, hk.2⟩ : _ ∧ k_ ≠ gb303))) (fun _ hk => hk.2) (.int .i64 ((rd_T26 t285 x124_5).f0))) (fun _ hk => hk.2) (.string ((rd_T26 t285 x124_5).f1))) (fun _ hk => hk.2) (.int .i64 ((rd_T26 t285 x124_5).f2))) (fun _ hk => hk.2) (.int .i64 ((rd_T26 t285 x124_5).f3.f0))) (fun _ hk => hk.2) (.int .i64 ((rd_T26 t285 x124_5).f3.f1))) (fun _ hk => hk.2) (.int .i64 ((rd_T26 t285 x124_5).f4))) (fun _ hk => hk.2) (.bool ((rd_T26 t285 x124_5).f5))) (fun _ hk => ⟨hk.1.1.1, hk.1.1.2⟩)⟩, ⟨by (with_reducible repeat (first | refine kN ?_ _ | refine kD ?_ | refine kA ?_ _)); refine kF ?_ NB301_303.out _; (with_reducible repeat (first | refine kN ?_ _ | refine kD ?_ | refine kA ?_ _)); refine kF ?_ NB301_303.out _; (with_reducible repeat (first | refine kN ?_ _ | refine kD ?_ | refine kA ?_ _)); refine kF ?_ NB301_303.out _; (with_reducible repeat (first | refine kN ?_ _ | refine kD ?_ | refine kA ?_ _)); refine kF ?_ NB301_303.out _; (with_reducible repeat (first | refine kN ?_ _ | refine kD ?_ | refine kA ?_ _)); refine kF ?_ NB301_303.out _; (with_reducible repeat (first | refine kN ?_ _ | refine kD ?_ | refine kA ?_ _)); refine kF ?_ NB301_303.out _; (with_reducible repeat (first | refine kN ?_ _ | refine kD ?_ | refine kA ?_ _)); refine kF ?_ NB301_303.out _; (with_reducible repeat (first | refine kN ?_ _ | refine kD ?_ | refine kA ?_ _)); exact BK301.out⟩, ⟨by repeat (first | (with_reducible first | exact HB.out | apply bA | apply bN | apply b1 | refine bS ?_ GE301.out | refine bS ?_ GE303.out) | exact HB.out)⟩⟩
                    ·rw [if_neg c69] at H
                     exact absurd H (by simp)
                   ·rw [if_neg c68] at H
                    exact absurd H (by simp)
                  ·rw [if_neg c67] at H
                   have c67b0 : decide (x124_5 < (t285.length : Int)) = false := dF c67
                   clear c67
                   by_cases c78 : x15_4 = true
                   ·subst c78
                    have H1 : (if x28_5 = true then (cohousinglaw16_FactsOrder.l2 k5 l0 a2 a3 a4 a5 a6 true t282 t285 l0 (l0.length : Int) (wrap64 (x118_4 + 1))) else (none)) = some r := by rw [if_pos rfl] at H; exact H
                    clear H
                    have H := H1
                    clear H1
                    by_cases c79 : x28_5 = true
                    ·subst c79
                     have H1 : (cohousinglaw16_FactsOrder.l2 k5 l0 a2 a3 a4 a5 a6 true t282 t285 l0 (l0.length : Int) (wrap64 (x118_4 + 1))) = some r := by rw [if_pos rfl] at H; exact H
                     clear H
                     have H := H1
                     clear H1
                     have H' := Aside0.mk H
                     clear H
                     go_wp2
                     go_roundg k5
                     case measure => have := HJ9.out; have := HJ19.out; have := HK3.out; have := HK4.out; have := HK5.out; omega
                     case rel => exact ⟨(true), (wrap64 (x118_4 + 1)), (by first | rfl | (simp; done) | (simp [*]; done)), (by first | rfl | (simp; done) | (simp [*]; done)), H', ⟨by have := HJ9.out; have := HJ19.out; have := HK3.out; have := HK4.out; have := HK5.out; omega⟩, ⟨by (with_reducible repeat (first | apply Kd.R_alloc | apply Kd.R_drewN | apply Kd.R_drew)); exact Kd.R_mono HO_16.out (fun _ hk => hk.1)⟩, ⟨by (with_reducible repeat (first | apply Kd.R_alloc | apply Kd.R_drewN | apply Kd.R_drew)); exact Kd.R_mono HO_17.out (fun _ hk => hk.1)⟩, ⟨by repeat (first | (with_reducible first | exact HB.out | apply bA | apply bN | apply b1 | refine bS ?_ GE301.out) | exact HB.out)⟩⟩
                    ·replace c79 := Bool.eq_false_iff.mpr c79
                     subst c79
                     have H1 : (none) = some r := by rw [if_neg (show ¬ (false = true) by decide)] at H; exact H
                     clear H
                     have H := H1
                     clear H1
                     exact absurd H (by simp)
                   ·replace c78 := Bool.eq_false_iff.mpr c78
                    subst c78
                    have H1 : (none) = some r := by rw [if_neg (show ¬ (false = true) by decide)] at H; exact H
                    clear H
                    have H := H1
                    clear H1
                    exact absurd H (by simp)
               ·rw [if_neg c64] at H
                exact absurd H (by simp)
              ·rw [if_neg c63] at H
               exact absurd H (by simp)
             ·rw [if_neg c62] at H
              have c62b0 : decide (x118_4 < (l0.length : Int)) = false := dF c62
              clear c62
              replace H := Option.bind_eq_some_iff.mp H
              obtain ⟨⟨t304, t305, t306⟩, A800, H⟩ := H
              replace H : ((facts_Value.f t282 a2 a3 a5 a6).bind fun bt307 => (if x15_4 = true then (if t304 = bt307.1 then (if (t305 == bt307.2.1) = true then (if t306 = bt307.2.2 then ((facts_Days.f l0 a2 a3 a4 a6).bind fun bt310 => ((facts_Days.f t282 a2 a3 a4 a6).bind fun bt314 => ((cohousingref04_Same.f k4 bt310.1 bt314.1).bind fun t318 => (if t318 = true then (if bt310.2 = bt314.2 then ((facts_Differ.f l0 a2 a3 a5 a6).bind fun bt319 => ((facts_Differ.f t282 a2 a3 a5 a6).bind fun bt323 => ((cohousingref04_Same.f k4 bt319.1 bt323.1).bind fun t327 => (if t327 = true then (if bt319.2 = bt323.2 then (some true) else (none)) else (none))))) else (none)) else (none))))) else (none)) else (none)) else (none)) else (none))) = some r := H
              have A80 := Aside0.mk A800
              clear A800
              replace H := Option.bind_eq_some_iff.mp H
              obtain ⟨⟨t307, t308, t309⟩, A810, H⟩ := H
              replace H : (if x15_4 = true then (if t304 = t307 then (if (t305 == t308) = true then (if t306 = t309 then ((facts_Days.f l0 a2 a3 a4 a6).bind fun bt310 => ((facts_Days.f t282 a2 a3 a4 a6).bind fun bt314 => ((cohousingref04_Same.f k4 bt310.1 bt314.1).bind fun t318 => (if t318 = true then (if bt310.2 = bt314.2 then ((facts_Differ.f l0 a2 a3 a5 a6).bind fun bt319 => ((facts_Differ.f t282 a2 a3 a5 a6).bind fun bt323 => ((cohousingref04_Same.f k4 bt319.1 bt323.1).bind fun t327 => (if t327 = true then (if bt319.2 = bt323.2 then (some true) else (none)) else (none))))) else (none)) else (none))))) else (none)) else (none)) else (none)) else (none)) = some r := H
              have A81 := Aside0.mk A810
              clear A810
              by_cases c82 : x15_4 = true
              ·subst c82
               have H1 : (if t304 = t307 then (if (t305 == t308) = true then (if t306 = t309 then ((facts_Days.f l0 a2 a3 a4 a6).bind fun bt310 => ((facts_Days.f t282 a2 a3 a4 a6).bind fun bt314 => ((cohousingref04_Same.f k4 bt310.1 bt314.1).bind fun t318 => (if t318 = true then (if bt310.2 = bt314.2 then ((facts_Differ.f l0 a2 a3 a5 a6).bind fun bt319 => ((facts_Differ.f t282 a2 a3 a5 a6).bind fun bt323 => ((cohousingref04_Same.f k4 bt319.1 bt323.1).bind fun t327 => (if t327 = true then (if bt319.2 = bt323.2 then (some true) else (none)) else (none))))) else (none)) else (none))))) else (none)) else (none)) else (none)) = some r := by rw [if_pos rfl] at H; exact H
               clear H
               have H := H1
               clear H1
               by_cases c83 : t304 = t307
               ·rw [if_pos c83] at H
                have c83b0 : (t304 == t307) = true := beq_iff_eq.mpr c83
                have c83b1 : (t304 != t307) = false := bne_eq_false_iff_eq.mpr c83
                clear c83
                by_cases c84 : (t305 == t308) = true
                ·rw [if_pos c84] at H
                 have c84b0 : (t305 == t308) = true := c84
                 (try (have c84b1 : decide (t305 = t308) = true := by simpa using c84))
                 (try (have c84b2 : (t305 == t308) = true := by simpa using c84))
                 clear c84
                 by_cases c85 : t306 = t309
                 ·rw [if_pos c85] at H
                  have c85b0 : (t306 == t309) = true := beq_iff_eq.mpr c85
                  have c85b1 : (t306 != t309) = false := bne_eq_false_iff_eq.mpr c85
                  clear c85
                  replace H := Option.bind_eq_some_iff.mp H
                  obtain ⟨⟨t310, t311⟩, A860, H⟩ := H
                  replace H : ((facts_Days.f t282 a2 a3 a4 a6).bind fun bt314 => ((cohousingref04_Same.f k4 t310 bt314.1).bind fun t318 => (if t318 = true then (if t311 = bt314.2 then ((facts_Differ.f l0 a2 a3 a5 a6).bind fun bt319 => ((facts_Differ.f t282 a2 a3 a5 a6).bind fun bt323 => ((cohousingref04_Same.f k4 bt319.1 bt323.1).bind fun t327 => (if t327 = true then (if bt319.2 = bt323.2 then (some true) else (none)) else (none))))) else (none)) else (none)))) = some r := H
                  have A86 := Aside0.mk A860
                  clear A860
                  replace H := Option.bind_eq_some_iff.mp H
                  obtain ⟨⟨t314, t315⟩, A870, H⟩ := H
                  replace H : ((cohousingref04_Same.f k4 t310 t314).bind fun t318 => (if t318 = true then (if t311 = t315 then ((facts_Differ.f l0 a2 a3 a5 a6).bind fun bt319 => ((facts_Differ.f t282 a2 a3 a5 a6).bind fun bt323 => ((cohousingref04_Same.f k4 bt319.1 bt323.1).bind fun t327 => (if t327 = true then (if bt319.2 = bt323.2 then (some true) else (none)) else (none))))) else (none)) else (none))) = some r := H
                  have A87 := Aside0.mk A870
                  clear A870
                  replace H := Option.bind_eq_some_iff.mp H
                  obtain ⟨t318, A880, H⟩ := H
                  replace H : (if t318 = true then (if t311 = t315 then ((facts_Differ.f l0 a2 a3 a5 a6).bind fun bt319 => ((facts_Differ.f t282 a2 a3 a5 a6).bind fun bt323 => ((cohousingref04_Same.f k4 bt319.1 bt323.1).bind fun t327 => (if t327 = true then (if bt319.2 = bt323.2 then (some true) else (none)) else (none))))) else (none)) else (none)) = some r := H
                  have A88 := Aside0.mk A880
                  clear A880
                  by_cases c89 : t318 = true
                  ·subst c89
                   have H1 : (if t311 = t315 then ((facts_Differ.f l0 a2 a3 a5 a6).bind fun bt319 => ((facts_Differ.f t282 a2 a3 a5 a6).bind fun bt323 => ((cohousingref04_Same.f k4 bt319.1 bt323.1).bind fun t327 => (if t327 = true then (if bt319.2 = bt323.2 then (some true) else (none)) else (none))))) else (none)) = some r := by rw [if_pos rfl] at H; exact H
                   clear H
                   have H := H1
                   clear H1
                   by_cases c90 : t311 = t315
                   ·rw [if_pos c90] at H
                    have c90b0 : (t311 == t315) = true := beq_iff_eq.mpr c90
                    have c90b1 : (t311 != t315) = false := bne_eq_false_iff_eq.mpr c90
                    clear c90
                    replace H := Option.bind_eq_some_iff.mp H
                    obtain ⟨⟨t319, t320⟩, A910, H⟩ := H
                    replace H : ((facts_Differ.f t282 a2 a3 a5 a6).bind fun bt323 => ((cohousingref04_Same.f k4 t319 bt323.1).bind fun t327 => (if t327 = true then (if t320 = bt323.2 then (some true) else (none)) else (none)))) = some r := H
                    have A91 := Aside0.mk A910
                    clear A910
                    replace H := Option.bind_eq_some_iff.mp H
                    obtain ⟨⟨t323, t324⟩, A920, H⟩ := H
                    replace H : ((cohousingref04_Same.f k4 t319 t323).bind fun t327 => (if t327 = true then (if t320 = t324 then (some true) else (none)) else (none))) = some r := H
                    have A92 := Aside0.mk A920
                    clear A920
                    replace H := Option.bind_eq_some_iff.mp H
                    obtain ⟨t327, A930, H⟩ := H
                    replace H : (if t327 = true then (if t320 = t324 then (some true) else (none)) else (none)) = some r := H
                    have A93 := Aside0.mk A930
                    clear A930
                    by_cases c94 : t327 = true
                    ·subst c94
                     have H1 : (if t320 = t324 then (some true) else (none)) = some r := by rw [if_pos rfl] at H; exact H
                     clear H
                     have H := H1
                     clear H1
                     by_cases c95 : t320 = t324
                     ·rw [if_pos c95] at H
                      have c95b0 : (t320 == t324) = true := beq_iff_eq.mpr c95
                      have c95b1 : (t320 != t324) = false := bne_eq_false_iff_eq.mpr c95
                      clear c95
                      obtain rfl := Option.some.inj H
                      go_wp2_with (first | ((with_reducible refine gate_callee (f := 12) rfl ?_); refine goesL_ (some 146) rfl rfl Tryz.func12 (by kernel_rfl) rfl #[.slice A0 l0.length c0, .int .i64 a2, .string a3, .int .i64 a5, .int .i64 a6] rfl (by (try simp only [List.map_toArray, List.map_cons, List.map_nil]); first | done | rfl | (simp only [List.length_drop, List.length_take]; rfl)) ?_; (with_reducible refine (facts_Value.calls _ _ l0 a2 a3 a5 a6 t304 t305 t306 _ ?side1 ?side2 A80.out).mono ?_); (case side1 => repeat (first | exact (Kd.C_below HR0.out HB.out) | (with_reducible refine Kd.C_alloc ?_ _) | (with_reducible refine Kd.C_drewN ?_ _) | (with_reducible refine Kd.C_drew ?_))); (case side2 => exact HC0.out); rintro e w96 ⟨rfl, hb⟩; refine ⟨_, rfl, ?_⟩; have n0_ := Aside0.mk (Kd.R_below (by (with_reducible repeat (first | apply Kd.R_alloc | apply Kd.R_drewN | apply Kd.R_drew)); exact HO_16.out) hb); have n1_ := Aside0.mk (Kd.R_below (by (with_reducible repeat (first | apply Kd.R_alloc | apply Kd.R_drewN | apply Kd.R_drew)); exact HO_17.out) hb); have n2_ := Aside0.mk (bT (by repeat (first | (with_reducible first | exact HB.out | apply bA | apply bN | apply b1) | exact HB.out)) hb); clear HO_16; clear HO_17; clear HB; have HO_16 := n0_; have HO_17 := n1_; have HB := n2_; clear n0_ n1_ n2_; (try clear hb); (try clear hb2); (try clear hk); (try clear hi)) | ((with_reducible refine gate_callee (f := 12) rfl ?_); refine goesL_ (some 156) rfl rfl Tryz.func12 (by kernel_rfl) rfl #[.slice Ao23 t282.length co23, .int .i64 a2, .string a3, .int .i64 a5, .int .i64 a6] rfl (by (try simp only [List.map_toArray, List.map_cons, List.map_nil]); first | done | rfl | (simp only [List.length_drop, List.length_take]; rfl)) ?_; (with_reducible refine (facts_Value.calls _ _ t282 a2 a3 a5 a6 t307 t308 t309 _ ?side1 ?side2 A81.out).mono ?_); (case side1 => repeat (first | exact (Kd.R_reads' HO_16.out).2.2 | (with_reducible refine Kd.C_alloc ?_ _) | (with_reducible refine Kd.C_drewN ?_ _) | (with_reducible refine Kd.C_drew ?_))); (case side2 => exact (Kd.R_reads' HO_16.out).2.1); rintro e w97 ⟨rfl, hb⟩; refine ⟨_, rfl, ?_⟩; have n0_ := Aside0.mk (Kd.R_below (by (with_reducible repeat (first | apply Kd.R_alloc | apply Kd.R_drewN | apply Kd.R_drew)); exact HO_16.out) hb); have n1_ := Aside0.mk (Kd.R_below (by (with_reducible repeat (first | apply Kd.R_alloc | apply Kd.R_drewN | apply Kd.R_drew)); exact HO_17.out) hb); have n2_ := Aside0.mk (bT (by repeat (first | (with_reducible first | exact HB.out | apply bA | apply bN | apply b1) | exact HB.out)) hb); clear HO_16; clear HO_17; clear HB; have HO_16 := n0_; have HO_17 := n1_; have HB := n2_; clear n0_ n1_ n2_; (try clear hb); (try clear hb2); (try clear hk); (try clear hi)) | ((with_reducible refine gate_callee (f := 13) rfl ?_); refine goesL_ (some 182) rfl rfl Tryz.func13 (by kernel_rfl) rfl #[.slice A0 l0.length c0, .int .i64 a2, .string a3, .int .i64 a4, .int .i64 a6] rfl (by (try simp only [List.map_toArray, List.map_cons, List.map_nil]); first | done | rfl | (simp only [List.length_drop, List.length_take]; rfl)) ?_; (with_reducible refine (facts_Days.calls _ _ l0 a2 a3 a4 a6 t310 t311 _ ?side1 ?side2 A86.out).mono ?_); (case side1 => repeat (first | exact (Kd.C_below HR0.out HB.out) | (with_reducible refine Kd.C_alloc ?_ _) | (with_reducible refine Kd.C_drewN ?_ _) | (with_reducible refine Kd.C_drew ?_))); (case side2 => exact HC0.out); rintro e w98 ⟨v312, rfl, ho0, hb⟩; refine ⟨_, rfl, ?_⟩; have n0_ := Aside0.mk (Kd.R_below (by (with_reducible repeat (first | apply Kd.R_alloc | apply Kd.R_drewN | apply Kd.R_drew)); exact HO_16.out) hb); have n1_ := Aside0.mk (Kd.R_below (by (with_reducible repeat (first | apply Kd.R_alloc | apply Kd.R_drewN | apply Kd.R_drew)); exact HO_17.out) hb); have n2_ := Aside0.mk (Kd.R_lower ho0 (bZ (by repeat (first | (with_reducible first | exact HB.out | apply bA | apply bN | apply b1) | exact HB.out)))); have n3_ := Aside0.mk (bT (by repeat (first | (with_reducible first | exact HB.out | apply bA | apply bN | apply b1) | exact HB.out)) hb); clear HO_16; clear HO_17; clear HB; have HO_16 := n0_; have HO_17 := n1_; have HO313 := n2_; have HB := n3_; clear n0_ n1_ n2_ n3_; (try clear hb); (try clear hb2); (try clear hk); (try clear hi); (try clear ho0)) | ((with_reducible refine gate_callee (f := 13) rfl ?_); refine goesL_ (some 191) rfl rfl Tryz.func13 (by kernel_rfl) rfl #[.slice Ao23 t282.length co23, .int .i64 a2, .string a3, .int .i64 a4, .int .i64 a6] rfl (by (try simp only [List.map_toArray, List.map_cons, List.map_nil]); first | done | rfl | (simp only [List.length_drop, List.length_take]; rfl)) ?_; (with_reducible refine (facts_Days.calls _ _ t282 a2 a3 a4 a6 t314 t315 _ ?side1 ?side2 A87.out).mono ?_); (case side1 => repeat (first | exact (Kd.R_reads' HO_16.out).2.2 | (with_reducible refine Kd.C_alloc ?_ _) | (with_reducible refine Kd.C_drewN ?_ _) | (with_reducible refine Kd.C_drew ?_))); (case side2 => exact (Kd.R_reads' HO_16.out).2.1); rintro e w99 ⟨v316, rfl, ho0, hb⟩; refine ⟨_, rfl, ?_⟩; have n0_ := Aside0.mk (Kd.R_below (by (with_reducible repeat (first | apply Kd.R_alloc | apply Kd.R_drewN | apply Kd.R_drew)); exact HO_16.out) hb); have n1_ := Aside0.mk (Kd.R_below (by (with_reducible repeat (first | apply Kd.R_alloc | apply Kd.R_drewN | apply Kd.R_drew)); exact HO_17.out) hb); have n2_ := Aside0.mk (Kd.R_elder' (by (with_reducible repeat (first | apply Kd.R_alloc | apply Kd.R_drewN | apply Kd.R_drew)); exact HO313.out) (Kd.R_base ho0) hb); have n3_ := Aside0.mk (Kd.R_lower (Kd.R_new' ho0 (Kd.R_lt (by (with_reducible repeat (first | apply Kd.R_alloc | apply Kd.R_drewN | apply Kd.R_drew)); exact HO313.out))) (bZ (by repeat (first | (with_reducible first | exact HB.out | apply bA | apply bN | apply b1) | exact HB.out)))); have n4_ := Aside0.mk (bT (by repeat (first | (with_reducible first | exact HB.out | apply bA | apply bN | apply b1) | exact HB.out)) hb); clear HO_16; clear HO_17; clear HO313; clear HB; have HO_16 := n0_; have HO_17 := n1_; have HO313 := n2_; have HO317 := n3_; have HB := n4_; clear n0_ n1_ n2_ n3_ n4_; (try clear hb); (try clear hb2); (try clear hk); (try clear hi); (try clear ho0); obtain ⟨Ao100, co100, eo100⟩ := Kd.R_slice HO313.out; subst eo100; obtain ⟨Ao101, co101, eo101⟩ := Kd.R_slice HO317.out; subst eo101) | (go_at_call 14; (with_reducible refine (cohousingref04_Same.calls k4 _ _ t310 _ _ t314 true _ ?side1 ?side2 ?side3 ?side4 A88.out).mono ?_); (case side1 => repeat (first | exact (Kd.R_reads' HO313.out).2.2 | (with_reducible refine Kd.C_alloc ?_ _) | (with_reducible refine Kd.C_drewN ?_ _) | (with_reducible refine Kd.C_drew ?_))); (case side2 => exact (Kd.R_reads' HO313.out).2.1); (case side3 => repeat (first | exact (Kd.R_reads' HO317.out).2.2 | (with_reducible refine Kd.C_alloc ?_ _) | (with_reducible refine Kd.C_drewN ?_ _) | (with_reducible refine Kd.C_drew ?_))); (case side4 => exact (Kd.R_reads' HO317.out).2.1); rintro e w' ⟨rfl, ⟨nd, rfl⟩⟩) | ((with_reducible refine gate_callee (f := 15) rfl ?_); refine goesL_ (some 211) rfl rfl Tryz.func15 (by kernel_rfl) rfl #[.slice A0 l0.length c0, .int .i64 a2, .string a3, .int .i64 a5, .int .i64 a6] rfl (by (try simp only [List.map_toArray, List.map_cons, List.map_nil]); first | done | rfl | (simp only [List.length_drop, List.length_take]; rfl)) ?_; (with_reducible refine (facts_Differ.calls _ _ l0 a2 a3 a5 a6 t319 t320 _ ?side1 ?side2 A91.out).mono ?_); (case side1 => repeat (first | exact (Kd.C_below HR0.out (by repeat (first | (with_reducible first | exact HB.out | apply bA | apply bN | apply b1) | exact HB.out))) | (with_reducible refine Kd.C_alloc ?_ _) | (with_reducible refine Kd.C_drewN ?_ _) | (with_reducible refine Kd.C_drew ?_))); (case side2 => exact HC0.out); rintro e w102 ⟨v321, rfl, ho0, hb⟩; refine ⟨_, rfl, ?_⟩; have n0_ := Aside0.mk (Kd.R_below (by (with_reducible repeat (first | apply Kd.R_alloc | apply Kd.R_drewN | apply Kd.R_drew)); exact HO_16.out) hb); have n1_ := Aside0.mk (Kd.R_below (by (with_reducible repeat (first | apply Kd.R_alloc | apply Kd.R_drewN | apply Kd.R_drew)); exact HO_17.out) hb); have n2_ := Aside0.mk (Kd.R_elder' (by (with_reducible repeat (first | apply Kd.R_alloc | apply Kd.R_drewN | apply Kd.R_drew)); exact HO313.out) (Kd.R_base ho0) hb); have n3_ := Aside0.mk (Kd.R_elder' (by (with_reducible repeat (first | apply Kd.R_alloc | apply Kd.R_drewN | apply Kd.R_drew)); exact HO317.out) (Kd.R_base ho0) hb); have n4_ := Aside0.mk (Kd.R_lower (Kd.R_new' (Kd.R_new' ho0 (Kd.R_lt (by (with_reducible repeat (first | apply Kd.R_alloc | apply Kd.R_drewN | apply Kd.R_drew)); exact HO313.out))) (Kd.R_lt (by (with_reducible repeat (first | apply Kd.R_alloc | apply Kd.R_drewN | apply Kd.R_drew)); exact HO317.out))) (bZ (by repeat (first | (with_reducible first | exact HB.out | apply bA | apply bN | apply b1) | exact HB.out)))); have n5_ := Aside0.mk (bT (by repeat (first | (with_reducible first | exact HB.out | apply bA | apply bN | apply b1) | exact HB.out)) hb); clear HO_16; clear HO_17; clear HO313; clear HO317; clear HB; have HO_16 := n0_; have HO_17 := n1_; have HO313 := n2_; have HO317 := n3_; have HO322 := n4_; have HB := n5_; clear n0_ n1_ n2_ n3_ n4_ n5_; (try clear hb); (try clear hb2); (try clear hk); (try clear hi); (try clear ho0)) | ((with_reducible refine gate_callee (f := 15) rfl ?_); refine goesL_ (some 220) rfl rfl Tryz.func15 (by kernel_rfl) rfl #[.slice Ao23 t282.length co23, .int .i64 a2, .string a3, .int .i64 a5, .int .i64 a6] rfl (by (try simp only [List.map_toArray, List.map_cons, List.map_nil]); first | done | rfl | (simp only [List.length_drop, List.length_take]; rfl)) ?_; (with_reducible refine (facts_Differ.calls _ _ t282 a2 a3 a5 a6 t323 t324 _ ?side1 ?side2 A92.out).mono ?_); (case side1 => repeat (first | exact (Kd.R_reads' HO_16.out).2.2 | (with_reducible refine Kd.C_alloc ?_ _) | (with_reducible refine Kd.C_drewN ?_ _) | (with_reducible refine Kd.C_drew ?_))); (case side2 => exact (Kd.R_reads' HO_16.out).2.1); rintro e w103 ⟨v325, rfl, ho0, hb⟩; refine ⟨_, rfl, ?_⟩; have n0_ := Aside0.mk (Kd.R_below (by (with_reducible repeat (first | apply Kd.R_alloc | apply Kd.R_drewN | apply Kd.R_drew)); exact HO_16.out) hb); have n1_ := Aside0.mk (Kd.R_below (by (with_reducible repeat (first | apply Kd.R_alloc | apply Kd.R_drewN | apply Kd.R_drew)); exact HO_17.out) hb); have n2_ := Aside0.mk (Kd.R_elder' (by (with_reducible repeat (first | apply Kd.R_alloc | apply Kd.R_drewN | apply Kd.R_drew)); exact HO313.out) (Kd.R_base ho0) hb); have n3_ := Aside0.mk (Kd.R_elder' (by (with_reducible repeat (first | apply Kd.R_alloc | apply Kd.R_drewN | apply Kd.R_drew)); exact HO317.out) (Kd.R_base ho0) hb); have n4_ := Aside0.mk (Kd.R_elder' (by (with_reducible repeat (first | apply Kd.R_alloc | apply Kd.R_drewN | apply Kd.R_drew)); exact HO322.out) (Kd.R_base ho0) hb); have n5_ := Aside0.mk (Kd.R_lower (Kd.R_new' (Kd.R_new' (Kd.R_new' ho0 (Kd.R_lt (by (with_reducible repeat (first | apply Kd.R_alloc | apply Kd.R_drewN | apply Kd.R_drew)); exact HO313.out))) (Kd.R_lt (by (with_reducible repeat (first | apply Kd.R_alloc | apply Kd.R_drewN | apply Kd.R_drew)); exact HO317.out))) (Kd.R_lt (by (with_reducible repeat (first | apply Kd.R_alloc | apply Kd.R_drewN | apply Kd.R_drew)); exact HO322.out))) (bZ (by repeat (first | (with_reducible first | exact HB.out | apply bA | apply bN | apply b1) | exact HB.out)))); have n6_ := Aside0.mk (bT (by repeat (first | (with_reducible first | exact HB.out | apply bA | apply bN | apply b1) | exact HB.out)) hb); clear HO_16; clear HO_17; clear HO313; clear HO317; clear HO322; clear HB; have HO_16 := n0_; have HO_17 := n1_; have HO313 := n2_; have HO317 := n3_; have HO322 := n4_; have HO326 := n5_; have HB := n6_; clear n0_ n1_ n2_ n3_ n4_ n5_ n6_; (try clear hb); (try clear hb2); (try clear hk); (try clear hi); (try clear ho0); obtain ⟨Ao104, co104, eo104⟩ := Kd.R_slice HO322.out; subst eo104; obtain ⟨Ao105, co105, eo105⟩ := Kd.R_slice HO326.out; subst eo105) | (go_at_call 14; (with_reducible refine (cohousingref04_Same.calls k4 _ _ t319 _ _ t323 true _ ?side1 ?side2 ?side3 ?side4 A93.out).mono ?_); (case side1 => repeat (first | exact (Kd.R_reads' HO322.out).2.2 | (with_reducible refine Kd.C_alloc ?_ _) | (with_reducible refine Kd.C_drewN ?_ _) | (with_reducible refine Kd.C_drew ?_))); (case side2 => exact (Kd.R_reads' HO322.out).2.1); (case side3 => repeat (first | exact (Kd.R_reads' HO326.out).2.2 | (with_reducible refine Kd.C_alloc ?_ _) | (with_reducible refine Kd.C_drewN ?_ _) | (with_reducible refine Kd.C_drew ?_))); (case side4 => exact (Kd.R_reads' HO326.out).2.1); rintro e w' ⟨rfl, ⟨nd, rfl⟩⟩))
                      go_ret
                      exact ⟨by first | rfl | (simp [errW_none, errW_some] <;> rfl) | (simp [*, errW_none, errW_some] <;> rfl), by repeat (first | (with_reducible first | exact HB.out | apply bA | apply bN | apply b1) | exact HB.out)⟩
                     ·rw [if_neg c95] at H
                      exact absurd H (by simp)
                    ·replace c94 := Bool.eq_false_iff.mpr c94
                     subst c94
                     have H1 : (none) = some r := by rw [if_neg (show ¬ (false = true) by decide)] at H; exact H
                     clear H
                     have H := H1
                     clear H1
                     exact absurd H (by simp)
                   ·rw [if_neg c90] at H
                    exact absurd H (by simp)
                  ·replace c89 := Bool.eq_false_iff.mpr c89
                   subst c89
                   have H1 : (none) = some r := by rw [if_neg (show ¬ (false = true) by decide)] at H; exact H
                   clear H
                   have H := H1
                   clear H1
                   exact absurd H (by simp)
                 ·rw [if_neg c85] at H
                  exact absurd H (by simp)
                ·rw [if_neg c84] at H
                 exact absurd H (by simp)
               ·rw [if_neg c83] at H
                exact absurd H (by simp)
              ·replace c82 := Bool.eq_false_iff.mpr c82
               subst c82
               have H1 : (none) = some r := by rw [if_neg (show ¬ (false = true) by decide)] at H; exact H
               clear H
               have H := H1
               clear H1
               exact absurd H (by simp)
 ·replace c9 := Bool.eq_false_iff.mpr c9
  subst c9
  have H1 : (none) = some r := by rw [if_neg (show ¬ (false = true) by decide)] at H; exact H
  clear H
  have H := H1
  clear H1
  exact absurd H (by simp)

end Go.Proofs.YthcjocojngochaaGreatDoor.X
