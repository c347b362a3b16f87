-- Written by a program of mine (wip/tools/xprint.py) over the kit's print.py: printed functions and hand-proved ones side by side.
import Derived.Test.YtnkgnjklkocojaaGreatDoorXx0
import Derived.Test.YtnkgnjklkocojaaGreatDoorXx2
import Derived.Test.YtnkgnjklkocojaaGreatDoorXx9
import Derived.Test.YtnkgnjklkocojaaGreatDoorXx10
import Derived.Test.YtnkgnjklkocojaaGreatDoorXx16
import Derived.Test.YtnkgnjklkocojaaGreatDoorXx17
namespace Go.Proofs.YtnkgnjklkocojaaGreatDoor.X
open Go.RowKit Go.Proofs.YtnkgnjklkocojaaGreatDoorW.PrintWords Go.Proofs.YtnkgnjklkocojaaGreatDoorW.PrintLast Go.Proofs.YtnkgnjklkocojaaGreatDoorW.PrintMore
attribute [local go_sem] max2_int min2_int max_two min_two max_three min_three max_four min_four   -- for this text's walks alone
set_option linter.unusedVariables false
set_option linter.unusedSimpArgs false

/-! ### cohousinglaw34_SetoffPlan: function 8 -/
mutual
def cohousinglaw34_SetoffPlan.l0 : Nat → Int → Int → Bool → List (S39) → List (S39) → Int → List (S39) → Int → Int → Option (Bool)
 | 0, _, _, _, _, _, _, _, _, _ => none
 | k + 1, x1, x2, x7, x8, x10, x11, x41, x42, x43 => if x43 < x42 then (if 0 ≤ x43 then (if x43 < (x41.length : Int) then ((cohousingref34_Late.f ((rd_T39 x41 x43).f0) ((rd_T39 x41 x43).f1) ((rd_T39 x41 x43).f2) ((rd_T39 x41 x43).f3) x1 3).bind fun t256 => (if t256 = true then (cohousinglaw34_SetoffPlan.l0 k x1 x2 x7 x8 x10 (wrap64 (x11 + ((rd_T39 x41 x43).f3))) x41 x42 (wrap64 (x43 + 1))) else (if x10.length < 4398046511104 then (cohousinglaw34_SetoffPlan.l0 k x1 x2 x7 x8 (x10 ++ [(⟨(rd_T39 x41 x43).f0, (rd_T39 x41 x43).f1, (rd_T39 x41 x43).f2, (rd_T39 x41 x43).f3⟩ : S39)]) (wrap64 (x11 + ((rd_T39 x41 x43).f3))) x41 x42 (wrap64 (x43 + 1))) else (none)))) else (none)) else (none)) else (if (x8.length : Int) = (wrap64 ((x10.length : Int) + x2)) then ((setoff_Valid.f x8).bind fun t260 => (if t260 = true then (if 0 ≤ (x10.length : Int) then (if (x10.length : Int) ≤ (x8.length : Int) then ((cohousingref34_Same.f k (x8.take ((x10.length : Int) : Int).toNat) x10).bind fun t265 => (cohousinglaw34_SetoffPlan.j1 k x1 x7 x8 x10 x11 (!t265))) else (none)) else (none)) else (cohousinglaw34_SetoffPlan.j1 k x1 x7 x8 x10 x11 true))) else (cohousinglaw34_SetoffPlan.j1 k x1 x7 x8 x10 x11 true))
def cohousinglaw34_SetoffPlan.j1 : Nat → Int → Bool → List (S39) → List (S39) → Int → Bool → Option (Bool)
 | 0, _, _, _, _, _, _ => none
 | k + 1, x1, x7, x8, x10, x11, x80 => if x80 = true then (none) else ((calendar_Month.f k x1).bind fun bt266 => (if bt266.2 = 0 then (if 0 ≤ (x10.length : Int) then (if (x10.length : Int) ≤ (x8.length : Int) then ((some (x8.drop ((x10.length : Int) : Int).toNat : List (S39))).bind fun y268 => (cohousinglaw34_SetoffPlan.l1 k x1 x7 x8 x11 bt266.1 y268 y268 (y268.length : Int) 0)) else (none)) else (none)) else (none)))
def cohousinglaw34_SetoffPlan.l1 : Nat → Int → Bool → List (S39) → Int → Int → List (S39) → List (S39) → Int → Int → Option (Bool)
 | 0, _, _, _, _, _, _, _, _, _ => none
 | k + 1, x1, x7, x8, x11, x14, x16, x92, x93, x94 => if x94 < x93 then (if 0 ≤ x94 then (if x94 < (x92.length : Int) then ((calendar_Month.f k ((rd_T39 x92 x94).f2)).bind fun bt274 => (if x7 = true then (if bt274.2 = 0 then (if bt274.1 = (wrap64 ((wrap64 (x14 + x94)) + 1)) then (if ((rd_T39 x92 x94).f1) = 3 then (if 0 < (x16.length : Int) then (if ((rd_T39 x92 x94).f3) ≤ ((rd_T39 x16 0).f3) then (if ((rd_T39 x92 x94).f3) ≥ (wrap64 (((rd_T39 x16 0).f3) - 1)) then (cohousinglaw34_SetoffPlan.l1 k x1 true x8 x11 x14 x16 x92 x93 (wrap64 (x94 + 1))) else (none)) else (none)) else (none)) else (none)) else (none)) else (none)) else (none))) else (none)) else (none)) else (cohousinglaw34_SetoffPlan.l2 k x1 x7 x8 x11 x8 (x8.length : Int) 0)
def cohousinglaw34_SetoffPlan.l2 : Nat → Int → Bool → List (S39) → Int → List (S39) → Int → Int → Option (Bool)
 | 0, _, _, _, _, _, _, _ => none
 | k + 1, x1, x7, x8, x11, x143, x144, x145 => if x145 < x144 then (if 0 ≤ x145 then (if x145 < (x143.length : Int) then (if x7 = true then ((cohousingref34_Late.f ((rd_T39 x143 x145).f0) ((rd_T39 x143 x145).f1) ((rd_T39 x143 x145).f2) ((rd_T39 x143 x145).f3) x1 3).bind fun t280 => (if t280 = true then (none) else (cohousinglaw34_SetoffPlan.l2 k x1 true x8 (wrap64 (x11 - ((rd_T39 x143 x145).f3))) x143 x144 (wrap64 (x145 + 1))))) else (none)) else (none)) else (none)) else ((setoff_Interest.f k x8 10000 x1 36525 ([] : List (S46))).bind fun bt281 => (if x7 = true then (if x11 = 0 then (if bt281.2 = 0 then (if bt281.1 = 0 then (some true) else (none)) else (none)) else (none)) else (none)))
end
def cohousinglaw34_SetoffPlan.f (k : Nat) (l0 : List (S39)) (a1 : Int) (a2 : Int) : Option (Bool) := (cohousinglaw34_head.f k).bind fun t249 => (if t249 = true then ((setoff_Plan.f k l0 a1 a2).bind fun bt250 => (if bt250.2 = 0 then (cohousinglaw34_SetoffPlan.l0 k a1 a2 true bt250.1 ([] : List (S39)) 0 l0 (l0.length : Int) 0) else (if (bt250.1.length : Int) = 0 then (some true) else (none)))) else (none))
theorem cohousinglaw34_SetoffPlan.mono_l : ∀ k, (∀ y0 y1 y2 y3 y4 y5 y6 y7 y8, LeO (cohousinglaw34_SetoffPlan.l0 k y0 y1 y2 y3 y4 y5 y6 y7 y8) (cohousinglaw34_SetoffPlan.l0 (k + 1) y0 y1 y2 y3 y4 y5 y6 y7 y8)) ∧ (∀ y0 y1 y2 y3 y4 y5, LeO (cohousinglaw34_SetoffPlan.j1 k y0 y1 y2 y3 y4 y5) (cohousinglaw34_SetoffPlan.j1 (k + 1) y0 y1 y2 y3 y4 y5)) ∧ (∀ y0 y1 y2 y3 y4 y5 y6 y7 y8, LeO (cohousinglaw34_SetoffPlan.l1 k y0 y1 y2 y3 y4 y5 y6 y7 y8) (cohousinglaw34_SetoffPlan.l1 (k + 1) y0 y1 y2 y3 y4 y5 y6 y7 y8)) ∧ (∀ y0 y1 y2 y3 y4 y5 y6, LeO (cohousinglaw34_SetoffPlan.l2 k y0 y1 y2 y3 y4 y5 y6) (cohousinglaw34_SetoffPlan.l2 (k + 1) y0 y1 y2 y3 y4 y5 y6))
 | 0 => ⟨fun _ _ _ _ _ _ _ _ _ r h => by simp [cohousinglaw34_SetoffPlan.l0] at h, fun _ _ _ _ _ _ r h => by simp [cohousinglaw34_SetoffPlan.j1] at h, fun _ _ _ _ _ _ _ _ _ r h => by simp [cohousinglaw34_SetoffPlan.l1] at h, fun _ _ _ _ _ _ _ r h => by simp [cohousinglaw34_SetoffPlan.l2] at h⟩
 | k + 1 => by
  obtain ⟨ih0, ih1, ih2, ih3⟩ := cohousinglaw34_SetoffPlan.mono_l k
  refine ⟨?_, ?_, ?_, ?_⟩
  ·intro y0 y1 y2 y3 y4 y5 y6 y7 y8
   unfold cohousinglaw34_SetoffPlan.l0
   repeat' first
   | (with_reducible exact ih0 _ _ _ _ _ _ _ _ _)
   | (with_reducible exact ih1 _ _ _ _ _ _)
   | (with_reducible exact ih2 _ _ _ _ _ _ _ _ _)
   | (with_reducible exact ih3 _ _ _ _ _ _ _)
   | (with_reducible exact calendar_Month.mono _ _)
   | (with_reducible exact cohousinglaw34_head.mono _)
   | (with_reducible exact cohousingref34_Same.mono _ _ _)
   | (with_reducible exact setoff_Interest.mono _ _ _ _ _ _)
   | (with_reducible exact setoff_Plan.mono _ _ _ _)
   | (with_reducible exact LeO.refl _)
   | (with_reducible exact LeO.none _)
   | (with_reducible refine LeO.ite ?_ ?_)
   | (with_reducible refine LeO.bind ?_ (fun _ => ?_))
   | exact ih0 _ _ _ _ _ _ _ _ _
   | exact ih1 _ _ _ _ _ _
   | exact ih2 _ _ _ _ _ _ _ _ _
   | exact ih3 _ _ _ _ _ _ _
   | exact calendar_Month.mono _ _
   | exact cohousinglaw34_head.mono _
   | exact cohousingref34_Same.mono _ _ _
   | exact setoff_Interest.mono _ _ _ _ _ _
   | exact setoff_Plan.mono _ _ _ _
   | exact LeO.none _
   | refine LeO.ite ?_ ?_
   | refine LeO.bind ?_ (fun _ => ?_)
  ·intro y0 y1 y2 y3 y4 y5
   unfold cohousinglaw34_SetoffPlan.j1
   repeat' first
   | (with_reducible exact ih0 _ _ _ _ _ _ _ _ _)
   | (with_reducible exact ih1 _ _ _ _ _ _)
   | (with_reducible exact ih2 _ _ _ _ _ _ _ _ _)
   | (with_reducible exact ih3 _ _ _ _ _ _ _)
   | (with_reducible exact calendar_Month.mono _ _)
   | (with_reducible exact cohousinglaw34_head.mono _)
   | (with_reducible exact cohousingref34_Same.mono _ _ _)
   | (with_reducible exact setoff_Interest.mono _ _ _ _ _ _)
   | (with_reducible exact setoff_Plan.mono _ _ _ _)
   | (with_reducible exact LeO.refl _)
   | (with_reducible exact LeO.none _)
   | (with_reducible refine LeO.ite ?_ ?_)
   | (with_reducible refine LeO.bind ?_ (fun _ => ?_))
   | exact ih0 _ _ _ _ _ _ _ _ _
   | exact ih1 _ _ _ _ _ _
   | exact ih2 _ _ _ _ _ _ _ _ _
   | exact ih3 _ _ _ _ _ _ _
   | exact calendar_Month.mono _ _
   | exact cohousinglaw34_head.mono _
   | exact cohousingref34_Same.mono _ _ _
   | exact setoff_Interest.mono _ _ _ _ _ _
   | exact setoff_Plan.mono _ _ _ _
   | exact LeO.none _
   | refine LeO.ite ?_ ?_
   | refine LeO.bind ?_ (fun _ => ?_)
  ·intro y0 y1 y2 y3 y4 y5 y6 y7 y8
   unfold cohousinglaw34_SetoffPlan.l1
   repeat' first
   | (with_reducible exact ih0 _ _ _ _ _ _ _ _ _)
   | (with_reducible exact ih1 _ _ _ _ _ _)
   | (with_reducible exact ih2 _ _ _ _ _ _ _ _ _)
   | (with_reducible exact ih3 _ _ _ _ _ _ _)
   | (with_reducible exact calendar_Month.mono _ _)
   | (with_reducible exact cohousinglaw34_head.mono _)
   | (with_reducible exact cohousingref34_Same.mono _ _ _)
   | (with_reducible exact setoff_Interest.mono _ _ _ _ _ _)
   | (with_reducible exact setoff_Plan.mono _ _ _ _)
   | (with_reducible exact LeO.refl _)
   | (with_reducible exact LeO.none _)
   | (with_reducible refine LeO.ite ?_ ?_)
   | (with_reducible refine LeO.bind ?_ (fun _ => ?_))
   | exact ih0 _ _ _ _ _ _ _ _ _
   | exact ih1 _ _ _ _ _ _
   | exact ih2 _ _ _ _ _ _ _ _ _
   | exact ih3 _ _ _ _ _ _ _
   | exact calendar_Month.mono _ _
   | exact cohousinglaw34_head.mono _
   | exact cohousingref34_Same.mono _ _ _
   | exact setoff_Interest.mono _ _ _ _ _ _
   | exact setoff_Plan.mono _ _ _ _
   | exact LeO.none _
   | refine LeO.ite ?_ ?_
   | refine LeO.bind ?_ (fun _ => ?_)
  ·intro y0 y1 y2 y3 y4 y5 y6
   unfold cohousinglaw34_SetoffPlan.l2
   repeat' first
   | (with_reducible exact ih0 _ _ _ _ _ _ _ _ _)
   | (with_reducible exact ih1 _ _ _ _ _ _)
   | (with_reducible exact ih2 _ _ _ _ _ _ _ _ _)
   | (with_reducible exact ih3 _ _ _ _ _ _ _)
   | (with_reducible exact calendar_Month.mono _ _)
   | (with_reducible exact cohousinglaw34_head.mono _)
   | (with_reducible exact cohousingref34_Same.mono _ _ _)
   | (with_reducible exact setoff_Interest.mono _ _ _ _ _ _)
   | (with_reducible exact setoff_Plan.mono _ _ _ _)
   | (with_reducible exact LeO.refl _)
   | (with_reducible exact LeO.none _)
   | (with_reducible refine LeO.ite ?_ ?_)
   | (with_reducible refine LeO.bind ?_ (fun _ => ?_))
   | exact ih0 _ _ _ _ _ _ _ _ _
   | exact ih1 _ _ _ _ _ _
   | exact ih2 _ _ _ _ _ _ _ _ _
   | exact ih3 _ _ _ _ _ _ _
   | exact calendar_Month.mono _ _
   | exact cohousinglaw34_head.mono _
   | exact cohousingref34_Same.mono _ _ _
   | exact setoff_Interest.mono _ _ _ _ _ _
   | exact setoff_Plan.mono _ _ _ _
   | exact LeO.none _
   | refine LeO.ite ?_ ?_
   | refine LeO.bind ?_ (fun _ => ?_)
theorem cohousinglaw34_SetoffPlan.mono : ∀ a0 a1 a2 k, LeO (cohousinglaw34_SetoffPlan.f k a0 a1 a2) (cohousinglaw34_SetoffPlan.f (k + 1) a0 a1 a2) := by
 intro a0 a1 a2 k
 obtain ⟨ih0, ih1, ih2, ih3⟩ := cohousinglaw34_SetoffPlan.mono_l k
 unfold cohousinglaw34_SetoffPlan.f
 repeat' first
   | (with_reducible exact ih0 _ _ _ _ _ _ _ _ _)
   | (with_reducible exact ih1 _ _ _ _ _ _)
   | (with_reducible exact ih2 _ _ _ _ _ _ _ _ _)
   | (with_reducible exact ih3 _ _ _ _ _ _ _)
   | (with_reducible exact calendar_Month.mono _ _)
   | (with_reducible exact cohousinglaw34_head.mono _)
   | (with_reducible exact cohousingref34_Same.mono _ _ _)
   | (with_reducible exact setoff_Interest.mono _ _ _ _ _ _)
   | (with_reducible exact setoff_Plan.mono _ _ _ _)
   | (with_reducible exact LeO.refl _)
   | (with_reducible exact LeO.none _)
   | (with_reducible refine LeO.ite ?_ ?_)
   | (with_reducible refine LeO.bind ?_ (fun _ => ?_))
   | exact ih0 _ _ _ _ _ _ _ _ _
   | exact ih1 _ _ _ _ _ _
   | exact ih2 _ _ _ _ _ _ _ _ _
   | exact ih3 _ _ _ _ _ _ _
   | exact calendar_Month.mono _ _
   | exact cohousinglaw34_head.mono _
   | exact cohousingref34_Same.mono _ _ _
   | exact setoff_Interest.mono _ _ _ _ _ _
   | exact setoff_Plan.mono _ _ _ _
   | exact LeO.none _
   | refine LeO.ite ?_ ?_
   | refine LeO.bind ?_ (fun _ => ?_)
set_option maxHeartbeats 8000000 in
set_option maxRecDepth 100000 in
theorem cohousinglaw34_SetoffPlan.calls (k : Nat) (A0 : Option Addr) (c0 : Nat) (l0 : List (S39)) (a1 : Int) (a2 : Int) (r : Bool) (w : World) (hr0 : Kd.C k39 w A0 l0.length l0) (hc0 : l0.length ≤ c0) (hG : GL w) (h : cohousinglaw34_SetoffPlan.f k l0 a1 a2 = some r) :
  Calls Tryz.prog 8 #[.slice A0 l0.length c0, .int .i64 a1, .int .i64 a2] w fun e w' => e = .returned (.bool r) ∧ Below w.heap.size w w' := by
 have hu39 := Tryz.underlying39
 have hu24 := Tryz.underlying24
 have HG := Aside0.mk hG
 clear hG
 have HR0 := Aside0.mk hr0
 have HC0 := Aside0.mk hc0
 clear hr0 hc0
 have HB := Aside0.mk (Below.refl w.heap.size w)
 have H : ((cohousinglaw34_head.f k).bind fun t249 => (if t249 = true then ((setoff_Plan.f k l0 a1 a2).bind fun bt250 => (if bt250.2 = 0 then (cohousinglaw34_SetoffPlan.l0 k a1 a2 true bt250.1 ([] : List (S39)) 0 l0 (l0.length : Int) 0) else (if (bt250.1.length : Int) = 0 then (some true) else (none)))) else (none))) = some r := h
 clear h
 replace H := Option.bind_eq_some_iff.mp H
 obtain ⟨t249, A40, H⟩ := H
 replace H : (if t249 = true then ((setoff_Plan.f k l0 a1 a2).bind fun bt250 => (if bt250.2 = 0 then (cohousinglaw34_SetoffPlan.l0 k a1 a2 true bt250.1 ([] : List (S39)) 0 l0 (l0.length : Int) 0) else (if (bt250.1.length : Int) = 0 then (some true) else (none)))) else (none)) = some r := H
 have A4 := Aside0.mk A40
 clear A40
 by_cases c5 : t249 = true
 ·subst c5
  have H1 : ((setoff_Plan.f k l0 a1 a2).bind fun bt250 => (if bt250.2 = 0 then (cohousinglaw34_SetoffPlan.l0 k a1 a2 true bt250.1 ([] : List (S39)) 0 l0 (l0.length : Int) 0) else (if (bt250.1.length : Int) = 0 then (some true) else (none)))) = some r := by rw [if_pos rfl] at H; exact H
  clear H
  have H := H1
  clear H1
  replace H := Option.bind_eq_some_iff.mp H
  obtain ⟨⟨t250, t251⟩, A60, H⟩ := H
  replace H : (if t251 = 0 then (cohousinglaw34_SetoffPlan.l0 k a1 a2 true t250 ([] : List (S39)) 0 l0 (l0.length : Int) 0) else (if (t250.length : Int) = 0 then (some true) else (none))) = some r := H
  have A6 := Aside0.mk A60
  clear A60
  by_cases c7 : t251 = 0
  ·rw [if_pos c7] at H
   have c7b0 : (t251 == 0) = true := beq_iff_eq.mpr c7
   have c7b1 : (t251 != 0) = false := bne_eq_false_iff_eq.mpr c7
   clear c7
   have H' := Aside0.mk H
   clear H
   go_enter Tryz.func8, Tryz.ntmps8
   go_wp2_with (first | (go_at_call 9; (with_reducible refine (cohousinglaw34_head.calls k  true _ ?side1 A4.out).mono ?_); (case side1 => exact GL.below HG.out (by repeat (first | (with_reducible first | exact HB.out | apply bA | apply bN | apply b1) | exact HB.out))); rintro e w8 ⟨rfl, hb⟩; have n0_ := Aside0.mk (bT (by repeat (first | (with_reducible first | exact HB.out | apply bA | apply bN | apply b1) | exact HB.out)) hb); clear HB; have HB := n0_; clear n0_; (try clear hb); (try clear hb2); (try clear hk); (try clear hi)) | (go_at_call 19; (with_reducible refine (setoff_Plan.calls k _ _ l0 a1 a2 t250 t251 _ ?side1 ?side2 ?side3 A6.out).mono ?_); (case side1 => repeat (first | exact (Kd.C_below HR0.out HB.out) | (with_reducible refine Kd.C_alloc ?_ _) | (with_reducible refine Kd.C_drewN ?_ _) | (with_reducible refine Kd.C_drew ?_))); (case side2 => exact HC0.out); (case side3 => exact GL.below HG.out (by repeat (first | (with_reducible first | exact HB.out | apply bA | apply bN | apply b1) | exact HB.out))); rintro e w9 ⟨v252, rfl, ho0, hb⟩; have n0_ := Aside0.mk (Kd.R_lower ho0 (bZ (by repeat (first | (with_reducible first | exact HB.out | apply bA | apply bN | apply b1) | exact HB.out)))); have n1_ := Aside0.mk (bT (by repeat (first | (with_reducible first | exact HB.out | apply bA | apply bN | apply b1) | exact HB.out)) hb); clear HB; have HO253 := n0_; have HB := n1_; clear n0_ n1_; (try clear hb); (try clear hb2); (try clear hk); (try clear hi); (try clear ho0)))
   repeat (go_quiet (first | (go_at_call 9; (with_reducible refine (cohousinglaw34_head.calls k  true _ ?side1 A4.out).mono ?_); (case side1 => exact GL.below HG.out (by repeat (first | (with_reducible first | exact HB.out | apply bA | apply bN | apply b1) | exact HB.out))); rintro e w8 ⟨rfl, hb⟩; have n0_ := Aside0.mk (bT (by repeat (first | (with_reducible first | exact HB.out | apply bA | apply bN | apply b1) | exact HB.out)) hb); clear HB; have HB := n0_; clear n0_; (try clear hb); (try clear hb2); (try clear hk); (try clear hi)) | (go_at_call 19; (with_reducible refine (setoff_Plan.calls k _ _ l0 a1 a2 t250 t251 _ ?side1 ?side2 ?side3 A6.out).mono ?_); (case side1 => repeat (first | exact (Kd.C_below HR0.out HB.out) | (with_reducible refine Kd.C_alloc ?_ _) | (with_reducible refine Kd.C_drewN ?_ _) | (with_reducible refine Kd.C_drew ?_))); (case side2 => exact HC0.out); (case side3 => exact GL.below HG.out (by repeat (first | (with_reducible first | exact HB.out | apply bA | apply bN | apply b1) | exact HB.out))); rintro e w9 ⟨v252, rfl, ho0, hb⟩; have n0_ := Aside0.mk (Kd.R_lower ho0 (bZ (by repeat (first | (with_reducible first | exact HB.out | apply bA | apply bN | apply b1) | exact HB.out)))); have n1_ := Aside0.mk (bT (by repeat (first | (with_reducible first | exact HB.out | apply bA | apply bN | apply b1) | exact HB.out)) hb); clear HB; have HO253 := n0_; have HB := n1_; clear n0_ n1_; (try clear hb); (try clear hb2); (try clear hk); (try clear hi); (try clear ho0))); try go_wp2_with (first | (go_at_call 9; (with_reducible refine (cohousinglaw34_head.calls k  true _ ?side1 A4.out).mono ?_); (case side1 => exact GL.below HG.out (by repeat (first | (with_reducible first | exact HB.out | apply bA | apply bN | apply b1) | exact HB.out))); rintro e w8 ⟨rfl, hb⟩; have n0_ := Aside0.mk (bT (by repeat (first | (with_reducible first | exact HB.out | apply bA | apply bN | apply b1) | exact HB.out)) hb); clear HB; have HB := n0_; clear n0_; (try clear hb); (try clear hb2); (try clear hk); (try clear hi)) | (go_at_call 19; (with_reducible refine (setoff_Plan.calls k _ _ l0 a1 a2 t250 t251 _ ?side1 ?side2 ?side3 A6.out).mono ?_); (case side1 => repeat (first | exact (Kd.C_below HR0.out HB.out) | (with_reducible refine Kd.C_alloc ?_ _) | (with_reducible refine Kd.C_drewN ?_ _) | (with_reducible refine Kd.C_drew ?_))); (case side2 => exact HC0.out); (case side3 => exact GL.below HG.out (by repeat (first | (with_reducible first | exact HB.out | apply bA | apply bN | apply b1) | exact HB.out))); rintro e w9 ⟨v252, rfl, ho0, hb⟩; have n0_ := Aside0.mk (Kd.R_lower ho0 (bZ (by repeat (first | (with_reducible first | exact HB.out | apply bA | apply bN | apply b1) | exact HB.out)))); have n1_ := Aside0.mk (bT (by repeat (first | (with_reducible first | exact HB.out | apply bA | apply bN | apply b1) | exact HB.out)) hb); clear HB; have HO253 := n0_; have HB := n1_; clear n0_ n1_; (try clear hb); (try clear hb2); (try clear hk); (try clear hi); (try clear ho0))))
   go_loopg [10, 11, 43] k (fun kq v10 v11 v43 w' => ∃ (x10_1 : List (S39)) (x11_1 : Int) (x43_1 : Int), v11 = .int .i64 x11_1 ∧ v43 = .int .i64 x43_1 ∧ Aside0 (cohousinglaw34_SetoffPlan.l0 kq a1 a2 true t250 x10_1 x11_1 l0 (l0.length : Int) x43_1 = some r) ∧ Aside0 (kq ≤ k) ∧ Aside0 (Kd.R k39 39 w' w.heap.size (fun k_ => some k_ ≠ (v10 : Value).ownBlock) v252 t250) ∧ Aside0 (Kd.R k39 39 w' w.heap.size (fun k_ => some k_ ≠ (v252 : Value).ownBlock) v10 x10_1) ∧ Aside0 (Below w.heap.size w w'))
   case atStart => exact ⟨(([] : List (S39))), (0), (0), (by first | rfl | (simp; done) | (simp [*]; done)), (by first | rfl | (simp; done) | (simp [*]; done)), H', ⟨Nat.le_refl _⟩, ⟨by (with_reducible repeat (first | apply Kd.R_alloc | apply Kd.R_drewN | apply Kd.R_drew)); exact Kd.R_mono HO253.out (fun _ hk => (by simp [Value.ownBlock]))⟩, ⟨by first | exact Kd.R_nil _ _ _ _ _ | exact Kd.N_nil _ _ _ _ _ | exact Kd.V_nil _ _ _ _ _ | exact Kd.Q_nil _ _ _ _ _ | exact Kd.S_nil _ _ _ _ _⟩, ⟨by repeat (first | (with_reducible first | exact HB.out | apply bA | apply bN | apply b1) | exact HB.out)⟩⟩
   case round =>
    clear H'
    try clear p2
    try clear c5
    try clear c7
    try clear c7b0
    try clear c7b1
    try clear c8
    obtain ⟨x10_1, x11_1, x43_1, rfl, rfl, HA, HK1, HO_8, HO_10, HB⟩ := hrel
    cases gk with
    | zero => exact absurd HA.out (by simp [cohousinglaw34_SetoffPlan.l0])
    | succ k1 =>
     have H := HA.out
     clear HA
     simp only [cohousinglaw34_SetoffPlan.l0] at H
     by_cases c10 : x43_1 < (l0.length : Int)
     ·rw [if_pos c10] at H
      have c10b0 : decide (x43_1 < (l0.length : Int)) = true := dT c10
      clear c10
      by_cases c11 : 0 ≤ x43_1
      ·rw [if_pos c11] at H
       have c11b0 : decide (0 ≤ x43_1) = true := dT c11
       clear c11
       by_cases c12 : x43_1 < (l0.length : Int)
       ·rw [if_pos c12] at H
        have c12b0 : decide (x43_1 < (l0.length : Int)) = true := dT c12
        clear c12
        replace H := Option.bind_eq_some_iff.mp H
        obtain ⟨t256, A130, H⟩ := H
        replace H : (if t256 = true then (cohousinglaw34_SetoffPlan.l0 k1 a1 a2 true t250 x10_1 (wrap64 (x11_1 + ((rd_T39 l0 x43_1).f3))) l0 (l0.length : Int) (wrap64 (x43_1 + 1))) else (if x10_1.length < 4398046511104 then (cohousinglaw34_SetoffPlan.l0 k1 a1 a2 true t250 (x10_1 ++ [(⟨(rd_T39 l0 x43_1).f0, (rd_T39 l0 x43_1).f1, (rd_T39 l0 x43_1).f2, (rd_T39 l0 x43_1).f3⟩ : S39)]) (wrap64 (x11_1 + ((rd_T39 l0 x43_1).f3))) l0 (l0.length : Int) (wrap64 (x43_1 + 1))) else (none))) = some r := H
        have A13 := Aside0.mk A130
        clear A130
        by_cases c14 : t256 = true
        ·subst c14
         have H1 : (cohousinglaw34_SetoffPlan.l0 k1 a1 a2 true t250 x10_1 (wrap64 (x11_1 + ((rd_T39 l0 x43_1).f3))) l0 (l0.length : Int) (wrap64 (x43_1 + 1))) = some r := by rw [if_pos rfl] at H; exact H
         clear H
         have H := H1
         clear H1
         have H' := Aside0.mk H
         clear H
         have p254 : 0 ≤ (x43_1 : Int) := oT (by first | (with_reducible assumption) | assumption)
         have q254 : x43_1 < (l0.length : Int) := oT (by first | (with_reducible assumption) | assumption)
         obtain ⟨ad254, e254, hx254_0, hx254_1, hx254_2, hx254_3⟩ := at_T39 HR0.out x43_1 p254 q254
         cases e254
         replace hx254_0 := (HB.out.cell (World.block_lt_of_cell? w _ hx254_0)).trans hx254_0
         replace hx254_1 := (HB.out.cell (World.block_lt_of_cell? w _ hx254_1)).trans hx254_1
         replace hx254_2 := (HB.out.cell (World.block_lt_of_cell? w _ hx254_2)).trans hx254_2
         replace hx254_3 := (HB.out.cell (World.block_lt_of_cell? w _ hx254_3)).trans hx254_3
         replace p254 := eq_true p254
         replace q254 := eq_true q254
         go_wp2_with (first | ((with_reducible refine gate_dst (N := 13) rfl ?_); (try (refine gate_guard (by rfl) ?_; dsimp only)); refine box_event ?hg (N := 13) ?hd (cs := #[.int .i64 0, .int .i64 0, .int .i64 0, .int .i64 0]) (t := 39) ?hr ?_; (case hd => rfl); (case hg => rfl); (case hr => first | (go_simp; done) | (go_simp; rfl)); intro gb255 hg w15 hbox hb; have n0_ := Aside0.mk (Kd.R_below (Kd.R_elderB (by (with_reducible repeat (first | apply Kd.R_alloc | apply Kd.R_drewN | apply Kd.R_drew)); exact HO_8.out) gb255 (Nat.le_of_eq hg.symm)) hb); have n1_ := Aside0.mk (Kd.R_below (Kd.R_elderB (by (with_reducible repeat (first | apply Kd.R_alloc | apply Kd.R_drewN | apply Kd.R_drew)); exact HO_10.out) gb255 (Nat.le_of_eq hg.symm)) hb); have n2_ := Aside0.mk (bT (by repeat (first | (with_reducible first | exact HB.out | apply bA | apply bN | apply b1) | exact HB.out)) hb); have n3_ := Aside0.mk (hbox); have n4_ := Aside0.mk ((by rw [hg]; exact (bZ (by repeat (first | (with_reducible first | exact HB.out | apply bA | apply bN | apply b1) | exact HB.out))) : w.heap.size ≤ gb255)); have n5_ := n4_; clear HO_8; clear HO_10; clear HB; have HO_8 := n0_; have HO_10 := n1_; have HB := n2_; have BK255 := n3_; have GW255 := n4_; have GE255 := n5_; clear n0_ n1_ n2_ n3_ n4_ n5_; clear hb hbox hg; have hcz16_0 : w15.cell? ⟨gb255, 0, none⟩ = some (.int .i64 0) := (kC BK255.out 0).trans rfl; have hcz16_1 : w15.cell? ⟨gb255, 1, none⟩ = some (.int .i64 0) := (kC BK255.out 1).trans rfl; have hcz16_2 : w15.cell? ⟨gb255, 2, none⟩ = some (.int .i64 0) := (kC BK255.out 2).trans rfl; have hcz16_3 : w15.cell? ⟨gb255, 3, none⟩ = some (.int .i64 0) := (kC BK255.out 3).trans rfl; have hfz16_0 := blk_frozen BK255.out 0; have hfz16_1 := blk_frozen BK255.out 1; have hfz16_2 := blk_frozen BK255.out 2; have hfz16_3 := blk_frozen BK255.out 3) | (go_at_call 24; (with_reducible refine (cohousingref34_Late.calls ((rd_T39 l0 x43_1).f0) ((rd_T39 l0 x43_1).f1) ((rd_T39 l0 x43_1).f2) ((rd_T39 l0 x43_1).f3) a1 3 true _ A13.out).mono ?_); rintro e w17 ⟨rfl, hb⟩; have n0_ := Aside0.mk (Kd.R_below (by (with_reducible repeat (first | apply Kd.R_alloc | apply Kd.R_drewN | apply Kd.R_drew)); exact (Kd.R_mono (Kd.R_far (p := ⟨gb255, 3, none⟩) (Kd.R_far (p := ⟨gb255, 2, none⟩) (Kd.R_far (p := ⟨gb255, 1, none⟩) (Kd.R_far (p := ⟨gb255, 0, none⟩) (Kd.R_mono HO_8.out (fun k_ hk => (⟨hk, hk.2⟩ : _ ∧ k_ ≠ gb255))) (fun _ hk => hk.2) (.int .i64 ((rd_T39 l0 x43_1).f0))) (fun _ hk => hk.2) (.int .i64 ((rd_T39 l0 x43_1).f1))) (fun _ hk => hk.2) (.int .i64 ((rd_T39 l0 x43_1).f2))) (fun _ hk => hk.2) (.int .i64 ((rd_T39 l0 x43_1).f3))) (fun _ h_ => h_.1))) hb); have n1_ := Aside0.mk (Kd.R_below (by (with_reducible repeat (first | apply Kd.R_alloc | apply Kd.R_drewN | apply Kd.R_drew)); exact (Kd.R_mono (Kd.R_far (p := ⟨gb255, 3, none⟩) (Kd.R_far (p := ⟨gb255, 2, none⟩) (Kd.R_far (p := ⟨gb255, 1, none⟩) (Kd.R_far (p := ⟨gb255, 0, none⟩) (Kd.R_mono HO_10.out (fun k_ hk => (⟨hk, hk.2⟩ : _ ∧ k_ ≠ gb255))) (fun _ hk => hk.2) (.int .i64 ((rd_T39 l0 x43_1).f0))) (fun _ hk => hk.2) (.int .i64 ((rd_T39 l0 x43_1).f1))) (fun _ hk => hk.2) (.int .i64 ((rd_T39 l0 x43_1).f2))) (fun _ hk => hk.2) (.int .i64 ((rd_T39 l0 x43_1).f3))) (fun _ h_ => h_.1))) hb); have n2_ := Aside0.mk (kB (g := gb255) (o := .cells #[.int .i64 ((rd_T39 l0 x43_1).f0), .int .i64 ((rd_T39 l0 x43_1).f1), .int .i64 ((rd_T39 l0 x43_1).f2), .int .i64 ((rd_T39 l0 x43_1).f3)] 39 (0, 0)) (by (with_reducible repeat (first | refine kN ?_ _ | refine kD ?_ | refine kA ?_ _)); refine blk_put (cs := #[.int .i64 ((rd_T39 l0 x43_1).f0), .int .i64 ((rd_T39 l0 x43_1).f1), .int .i64 ((rd_T39 l0 x43_1).f2), .int .i64 0]) ?_ 3 _ rfl; (with_reducible repeat (first | refine kN ?_ _ | refine kD ?_ | refine kA ?_ _)); refine blk_put (cs := #[.int .i64 ((rd_T39 l0 x43_1).f0), .int .i64 ((rd_T39 l0 x43_1).f1), .int .i64 0, .int .i64 0]) ?_ 2 _ rfl; (with_reducible repeat (first | refine kN ?_ _ | refine kD ?_ | refine kA ?_ _)); refine blk_put (cs := #[.int .i64 ((rd_T39 l0 x43_1).f0), .int .i64 0, .int .i64 0, .int .i64 0]) ?_ 1 _ rfl; (with_reducible repeat (first | refine kN ?_ _ | refine kD ?_ | refine kA ?_ _)); refine blk_put (cs := #[.int .i64 0, .int .i64 0, .int .i64 0, .int .i64 0]) ?_ 0 _ rfl; (with_reducible repeat (first | refine kN ?_ _ | refine kD ?_ | refine kA ?_ _)); exact BK255.out) hb); have n3_ := Aside0.mk (bT (by repeat (first | (with_reducible first | exact HB.out | apply bA | apply bN | apply b1 | refine bS ?_ GE255.out) | exact HB.out)) hb); clear HO_8; clear HO_10; clear BK255; clear HB; have HO_8 := n0_; have HO_10 := n1_; have BK255 := n2_; have HB := n3_; clear n0_ n1_ n2_ n3_; (try clear hb); (try clear hb2); (try clear hk); (try clear hi)))
         repeat (go_quiet (first | ((with_reducible refine gate_dst (N := 13) rfl ?_); (try (refine gate_guard (by rfl) ?_; dsimp only)); refine box_event ?hg (N := 13) ?hd (cs := #[.int .i64 0, .int .i64 0, .int .i64 0, .int .i64 0]) (t := 39) ?hr ?_; (case hd => rfl); (case hg => rfl); (case hr => first | (go_simp; done) | (go_simp; rfl)); intro gb255 hg w15 hbox hb; have n0_ := Aside0.mk (Kd.R_below (Kd.R_elderB (by (with_reducible repeat (first | apply Kd.R_alloc | apply Kd.R_drewN | apply Kd.R_drew)); exact HO_8.out) gb255 (Nat.le_of_eq hg.symm)) hb); have n1_ := Aside0.mk (Kd.R_below (Kd.R_elderB (by (with_reducible repeat (first | apply Kd.R_alloc | apply Kd.R_drewN | apply Kd.R_drew)); exact HO_10.out) gb255 (Nat.le_of_eq hg.symm)) hb); have n2_ := Aside0.mk (bT (by repeat (first | (with_reducible first | exact HB.out | apply bA | apply bN | apply b1) | exact HB.out)) hb); have n3_ := Aside0.mk (hbox); have n4_ := Aside0.mk ((by rw [hg]; exact (bZ (by repeat (first | (with_reducible first | exact HB.out | apply bA | apply bN | apply b1) | exact HB.out))) : w.heap.size ≤ gb255)); have n5_ := n4_; clear HO_8; clear HO_10; clear HB; have HO_8 := n0_; have HO_10 := n1_; have HB := n2_; have BK255 := n3_; have GW255 := n4_; have GE255 := n5_; clear n0_ n1_ n2_ n3_ n4_ n5_; clear hb hbox hg; have hcz16_0 : w15.cell? ⟨gb255, 0, none⟩ = some (.int .i64 0) := (kC BK255.out 0).trans rfl; have hcz16_1 : w15.cell? ⟨gb255, 1, none⟩ = some (.int .i64 0) := (kC BK255.out 1).trans rfl; have hcz16_2 : w15.cell? ⟨gb255, 2, none⟩ = some (.int .i64 0) := (kC BK255.out 2).trans rfl; have hcz16_3 : w15.cell? ⟨gb255, 3, none⟩ = some (.int .i64 0) := (kC BK255.out 3).trans rfl; have hfz16_0 := blk_frozen BK255.out 0; have hfz16_1 := blk_frozen BK255.out 1; have hfz16_2 := blk_frozen BK255.out 2; have hfz16_3 := blk_frozen BK255.out 3) | (go_at_call 24; (with_reducible refine (cohousingref34_Late.calls ((rd_T39 l0 x43_1).f0) ((rd_T39 l0 x43_1).f1) ((rd_T39 l0 x43_1).f2) ((rd_T39 l0 x43_1).f3) a1 3 true _ A13.out).mono ?_); rintro e w17 ⟨rfl, hb⟩; have n0_ := Aside0.mk (Kd.R_below (by (with_reducible repeat (first | apply Kd.R_alloc | apply Kd.R_drewN | apply Kd.R_drew)); exact (Kd.R_mono (Kd.R_far (p := ⟨gb255, 3, none⟩) (Kd.R_far (p := ⟨gb255, 2, none⟩) (Kd.R_far (p := ⟨gb255, 1, none⟩) (Kd.R_far (p := ⟨gb255, 0, none⟩) (Kd.R_mono HO_8.out (fun k_ hk => (⟨hk, hk.2⟩ : _ ∧ k_ ≠ gb255))) (fun _ hk => hk.2) (.int .i64 ((rd_T39 l0 x43_1).f0))) (fun _ hk => hk.2) (.int .i64 ((rd_T39 l0 x43_1).f1))) (fun _ hk => hk.2) (.int .i64 ((rd_T39 l0 x43_1).f2))) (fun _ hk => hk.2) (.int .i64 ((rd_T39 l0 x43_1).f3))) (fun _ h_ => h_.1))) hb); have n1_ := Aside0.mk (Kd.R_below (by (with_reducible repeat (first | apply Kd.R_alloc | apply Kd.R_drewN | apply Kd.R_drew)); exact (Kd.R_mono (Kd.R_far (p := ⟨gb255, 3, none⟩) (Kd.R_far (p := ⟨gb255, 2, none⟩) (Kd.R_far (p := ⟨gb255, 1, none⟩) (Kd.R_far (p := ⟨gb255, 0, none⟩) (Kd.R_mono HO_10.out (fun k_ hk => (⟨hk, hk.2⟩ : _ ∧ k_ ≠ gb255))) (fun _ hk => hk.2) (.int .i64 ((rd_T39 l0 x43_1).f0))) (fun _ hk => hk.2) (.int .i64 ((rd_T39 l0 x43_1).f1))) (fun _ hk => hk.2) (.int .i64 ((rd_T39 l0 x43_1).f2))) (fun _ hk => hk.2) (.int .i64 ((rd_T39 l0 x43_1).f3))) (fun _ h_ => h_.1))) hb); have n2_ := Aside0.mk (kB (g := gb255) (o := .cells #[.int .i64 ((rd_T39 l0 x43_1).f0), .int .i64 ((rd_T39 l0 x43_1).f1), .int .i64 ((rd_T39 l0 x43_1).f2), .int .i64 ((rd_T39 l0 x43_1).f3)] 39 (0, 0)) (by (with_reducible repeat (first | refine kN ?_ _ | refine kD ?_ | refine kA ?_ _)); refine blk_put (cs := #[.int .i64 ((rd_T39 l0 x43_1).f0), .int .i64 ((rd_T39 l0 x43_1).f1), .int .i64 ((rd_T39 l0 x43_1).f2), .int .i64 0]) ?_ 3 _ rfl; (with_reducible repeat (first | refine kN ?_ _ | refine kD ?_ | refine kA ?_ _)); refine blk_put (cs := #[.int .i64 ((rd_T39 l0 x43_1).f0), .int .i64 ((rd_T39 l0 x43_1).f1), .int .i64 0, .int .i64 0]) ?_ 2 _ rfl; (with_reducible repeat (first | refine kN ?_ _ | refine kD ?_ | refine kA ?_ _)); refine blk_put (cs := #[.int .i64 ((rd_T39 l0 x43_1).f0), .int .i64 0, .int .i64 0, .int .i64 0]) ?_ 1 _ rfl; (with_reducible repeat (first | refine kN ?_ _ | refine kD ?_ | refine kA ?_ _)); refine blk_put (cs := #[.int .i64 0, .int .i64 0, .int .i64 0, .int .i64 0]) ?_ 0 _ rfl; (with_reducible repeat (first | refine kN ?_ _ | refine kD ?_ | refine kA ?_ _)); exact BK255.out) hb); have n3_ := Aside0.mk (bT (by repeat (first | (with_reducible first | exact HB.out | apply bA | apply bN | apply b1 | refine bS ?_ GE255.out) | exact HB.out)) hb); clear HO_8; clear HO_10; clear BK255; clear HB; have HO_8 := n0_; have HO_10 := n1_; have BK255 := n2_; have HB := n3_; clear n0_ n1_ n2_ n3_; (try clear hb); (try clear hb2); (try clear hk); (try clear hi))); try go_wp2_with (first | ((with_reducible refine gate_dst (N := 13) rfl ?_); (try (refine gate_guard (by rfl) ?_; dsimp only)); refine box_event ?hg (N := 13) ?hd (cs := #[.int .i64 0, .int .i64 0, .int .i64 0, .int .i64 0]) (t := 39) ?hr ?_; (case hd => rfl); (case hg => rfl); (case hr => first | (go_simp; done) | (go_simp; rfl)); intro gb255 hg w15 hbox hb; have n0_ := Aside0.mk (Kd.R_below (Kd.R_elderB (by (with_reducible repeat (first | apply Kd.R_alloc | apply Kd.R_drewN | apply Kd.R_drew)); exact HO_8.out) gb255 (Nat.le_of_eq hg.symm)) hb); have n1_ := Aside0.mk (Kd.R_below (Kd.R_elderB (by (with_reducible repeat (first | apply Kd.R_alloc | apply Kd.R_drewN | apply Kd.R_drew)); exact HO_10.out) gb255 (Nat.le_of_eq hg.symm)) hb); have n2_ := Aside0.mk (bT (by repeat (first | (with_reducible first | exact HB.out | apply bA | apply bN | apply b1) | exact HB.out)) hb); have n3_ := Aside0.mk (hbox); have n4_ := Aside0.mk ((by rw [hg]; exact (bZ (by repeat (first | (with_reducible first | exact HB.out | apply bA | apply bN | apply b1) | exact HB.out))) : w.heap.size ≤ gb255)); have n5_ := n4_; clear HO_8; clear HO_10; clear HB; have HO_8 := n0_; have HO_10 := n1_; have HB := n2_; have BK255 := n3_; have GW255 := n4_; have GE255 := n5_; clear n0_ n1_ n2_ n3_ n4_ n5_; clear hb hbox hg; have hcz16_0 : w15.cell? ⟨gb255, 0, none⟩ = some (.int .i64 0) := (kC BK255.out 0).trans rfl; have hcz16_1 : w15.cell? ⟨gb255, 1, none⟩ = some (.int .i64 0) := (kC BK255.out 1).trans rfl; have hcz16_2 : w15.cell? ⟨gb255, 2, none⟩ = some (.int .i64 0) := (kC BK255.out 2).trans rfl; have hcz16_3 : w15.cell? ⟨gb255, 3, none⟩ = some (.int .i64 0) := (kC BK255.out 3).trans rfl; have hfz16_0 := blk_frozen BK255.out 0; have hfz16_1 := blk_frozen BK255.out 1; have hfz16_2 := blk_frozen BK255.out 2; have hfz16_3 := blk_frozen BK255.out 3) | (go_at_call 24; (with_reducible refine (cohousingref34_Late.calls ((rd_T39 l0 x43_1).f0) ((rd_T39 l0 x43_1).f1) ((rd_T39 l0 x43_1).f2) ((rd_T39 l0 x43_1).f3) a1 3 true _ A13.out).mono ?_); rintro e w17 ⟨rfl, hb⟩; have n0_ := Aside0.mk (Kd.R_below (by (with_reducible repeat (first | apply Kd.R_alloc | apply Kd.R_drewN | apply Kd.R_drew)); exact (Kd.R_mono (Kd.R_far (p := ⟨gb255, 3, none⟩) (Kd.R_far (p := ⟨gb255, 2, none⟩) (Kd.R_far (p := ⟨gb255, 1, none⟩) (Kd.R_far (p := ⟨gb255, 0, none⟩) (Kd.R_mono HO_8.out (fun k_ hk => (⟨hk, hk.2⟩ : _ ∧ k_ ≠ gb255))) (fun _ hk => hk.2) (.int .i64 ((rd_T39 l0 x43_1).f0))) (fun _ hk => hk.2) (.int .i64 ((rd_T39 l0 x43_1).f1))) (fun _ hk => hk.2) (.int .i64 ((rd_T39 l0 x43_1).f2))) (fun _ hk => hk.2) (.int .i64 ((rd_T39 l0 x43_1).f3))) (fun _ h_ => h_.1))) hb); have n1_ := Aside0.mk (Kd.R_below (by (with_reducible repeat (first | apply Kd.R_alloc | apply Kd.R_drewN | apply Kd.R_drew)); exact (Kd.R_mono (Kd.R_far (p := ⟨gb255, 3, none⟩) (Kd.R_far (p := ⟨gb255, 2, none⟩) (Kd.R_far (p := ⟨gb255, 1, none⟩) (Kd.R_far (p := ⟨gb255, 0, none⟩) (Kd.R_mono HO_10.out (fun k_ hk => (⟨hk, hk.2⟩ : _ ∧ k_ ≠ gb255))) (fun _ hk => hk.2) (.int .i64 ((rd_T39 l0 x43_1).f0))) (fun _ hk => hk.2) (.int .i64 ((rd_T39 l0 x43_1).f1))) (fun _ hk => hk.2) (.int .i64 ((rd_T39 l0 x43_1).f2))) (fun _ hk => hk.2) (.int .i64 ((rd_T39 l0 x43_1).f3))) (fun _ h_ => h_.1))) hb); have n2_ := Aside0.mk (kB (g := gb255) (o := .cells #[.int .i64 ((rd_T39 l0 x43_1).f0), .int .i64 ((rd_T39 l0 x43_1).f1), .int .i64 ((rd_T39 l0 x43_1).f2), .int .i64 ((rd_T39 l0 x43_1).f3)] 39 (0, 0)) (by (with_reducible repeat (first | refine kN ?_ _ | refine kD ?_ | refine kA ?_ _)); refine blk_put (cs := #[.int .i64 ((rd_T39 l0 x43_1).f0), .int .i64 ((rd_T39 l0 x43_1).f1), .int .i64 ((rd_T39 l0 x43_1).f2), .int .i64 0]) ?_ 3 _ rfl; (with_reducible repeat (first | refine kN ?_ _ | refine kD ?_ | refine kA ?_ _)); refine blk_put (cs := #[.int .i64 ((rd_T39 l0 x43_1).f0), .int .i64 ((rd_T39 l0 x43_1).f1), .int .i64 0, .int .i64 0]) ?_ 2 _ rfl; (with_reducible repeat (first | refine kN ?_ _ | refine kD ?_ | refine kA ?_ _)); refine blk_put (cs := #[.int .i64 ((rd_T39 l0 x43_1).f0), .int .i64 0, .int .i64 0, .int .i64 0]) ?_ 1 _ rfl; (with_reducible repeat (first | refine kN ?_ _ | refine kD ?_ | refine kA ?_ _)); refine blk_put (cs := #[.int .i64 0, .int .i64 0, .int .i64 0, .int .i64 0]) ?_ 0 _ rfl; (with_reducible repeat (first | refine kN ?_ _ | refine kD ?_ | refine kA ?_ _)); exact BK255.out) hb); have n3_ := Aside0.mk (bT (by repeat (first | (with_reducible first | exact HB.out | apply bA | apply bN | apply b1 | refine bS ?_ GE255.out) | exact HB.out)) hb); clear HO_8; clear HO_10; clear BK255; clear HB; have HO_8 := n0_; have HO_10 := n1_; have BK255 := n2_; have HB := n3_; clear n0_ n1_ n2_ n3_; (try clear hb); (try clear hb2); (try clear hk); (try clear hi))))
         go_roundg k1
         case measure => have := HK1.out; omega
         case rel => exact ⟨(x10_1), (wrap64 (x11_1 + ((rd_T39 l0 x43_1).f3))), (wrap64 (x43_1 + 1)), (by first | rfl | (simp; done) | (simp [*]; done)), (by first | rfl | (simp; done) | (simp [*]; done)), H', ⟨by have := HK1.out; omega⟩, ⟨by (with_reducible repeat (first | apply Kd.R_alloc | apply Kd.R_drewN | apply Kd.R_drew)); exact Kd.R_mono HO_8.out (fun _ hk => hk.1)⟩, ⟨by (with_reducible repeat (first | apply Kd.R_alloc | apply Kd.R_drewN | apply Kd.R_drew)); exact Kd.R_mono HO_10.out (fun _ hk => hk.1)⟩, ⟨by repeat (first | (with_reducible first | exact HB.out | apply bA | apply bN | apply b1 | refine bS ?_ GE255.out) | exact HB.out)⟩⟩
        ·replace c14 := Bool.eq_false_iff.mpr c14
         subst c14
         have H1 : (if x10_1.length < 4398046511104 then (cohousinglaw34_SetoffPlan.l0 k1 a1 a2 true t250 (x10_1 ++ [(⟨(rd_T39 l0 x43_1).f0, (rd_T39 l0 x43_1).f1, (rd_T39 l0 x43_1).f2, (rd_T39 l0 x43_1).f3⟩ : S39)]) (wrap64 (x11_1 + ((rd_T39 l0 x43_1).f3))) l0 (l0.length : Int) (wrap64 (x43_1 + 1))) else (none)) = some r := by rw [if_neg (show ¬ (false = true) by decide)] at H; exact H
         clear H
         have H := H1
         clear H1
         by_cases c18 : x10_1.length < 4398046511104
         ·rw [if_pos c18] at H
          have LMc18 := Aside0.mk c18
          clear c18
          obtain ⟨y257, hy257⟩ : ∃ y_ : List (S39), y_ = (x10_1 ++ [(⟨(rd_T39 l0 x43_1).f0, (rd_T39 l0 x43_1).f1, (rd_T39 l0 x43_1).f2, (rd_T39 l0 x43_1).f3⟩ : S39)]) := ⟨_, rfl⟩
          replace H : (cohousinglaw34_SetoffPlan.l0 k1 a1 a2 true t250 y257 (wrap64 (x11_1 + ((rd_T39 l0 x43_1).f3))) l0 (l0.length : Int) (wrap64 (x43_1 + 1))) = some r := by first | (rw [hy257]; with_reducible exact H) | (have H2_ := (Option.bind_some _ _).symm.trans H; rw [hy257]; with_reducible exact H2_) | (have H2_ := (Option.bind_some _ _).symm.trans H; with_reducible exact H2_) | with_reducible exact H | (rw [hy257]; exact H) | exact H
          have Ny257 := Aside0.mk hy257
          clear hy257
          have H' := Aside0.mk H
          clear H
          have p254 : 0 ≤ (x43_1 : Int) := oT (by first | (with_reducible assumption) | assumption)
          have q254 : x43_1 < (l0.length : Int) := oT (by first | (with_reducible assumption) | assumption)
          obtain ⟨ad254, e254, hx254_0, hx254_1, hx254_2, hx254_3⟩ := at_T39 HR0.out x43_1 p254 q254
          cases e254
          replace hx254_0 := (HB.out.cell (World.block_lt_of_cell? w _ hx254_0)).trans hx254_0
          replace hx254_1 := (HB.out.cell (World.block_lt_of_cell? w _ hx254_1)).trans hx254_1
          replace hx254_2 := (HB.out.cell (World.block_lt_of_cell? w _ hx254_2)).trans hx254_2
          replace hx254_3 := (HB.out.cell (World.block_lt_of_cell? w _ hx254_3)).trans hx254_3
          replace p254 := eq_true p254
          replace q254 := eq_true q254
          go_wp2_with (first | ((with_reducible refine gate_dst (N := 13) rfl ?_); (try (refine gate_guard (by rfl) ?_; dsimp only)); refine box_event ?hg (N := 13) ?hd (cs := #[.int .i64 0, .int .i64 0, .int .i64 0, .int .i64 0]) (t := 39) ?hr ?_; (case hd => rfl); (case hg => rfl); (case hr => first | (go_simp; done) | (go_simp; rfl)); intro gb255 hg w19 hbox hb; have n0_ := Aside0.mk (Kd.R_below (Kd.R_elderB (by (with_reducible repeat (first | apply Kd.R_alloc | apply Kd.R_drewN | apply Kd.R_drew)); exact HO_8.out) gb255 (Nat.le_of_eq hg.symm)) hb); have n1_ := Aside0.mk (Kd.R_below (Kd.R_elderB (by (with_reducible repeat (first | apply Kd.R_alloc | apply Kd.R_drewN | apply Kd.R_drew)); exact HO_10.out) gb255 (Nat.le_of_eq hg.symm)) hb); have n2_ := Aside0.mk (bT (by repeat (first | (with_reducible first | exact HB.out | apply bA | apply bN | apply b1) | exact HB.out)) hb); have n3_ := Aside0.mk (hbox); have n4_ := Aside0.mk ((by rw [hg]; exact (bZ (by repeat (first | (with_reducible first | exact HB.out | apply bA | apply bN | apply b1) | exact HB.out))) : w.heap.size ≤ gb255)); have n5_ := n4_; clear HO_8; clear HO_10; clear HB; have HO_8 := n0_; have HO_10 := n1_; have HB := n2_; have BK255 := n3_; have GW255 := n4_; have GE255 := n5_; clear n0_ n1_ n2_ n3_ n4_ n5_; clear hb hbox hg; have hcz20_0 : w19.cell? ⟨gb255, 0, none⟩ = some (.int .i64 0) := (kC BK255.out 0).trans rfl; have hcz20_1 : w19.cell? ⟨gb255, 1, none⟩ = some (.int .i64 0) := (kC BK255.out 1).trans rfl; have hcz20_2 : w19.cell? ⟨gb255, 2, none⟩ = some (.int .i64 0) := (kC BK255.out 2).trans rfl; have hcz20_3 : w19.cell? ⟨gb255, 3, none⟩ = some (.int .i64 0) := (kC BK255.out 3).trans rfl; have hfz20_0 := blk_frozen BK255.out 0; have hfz20_1 := blk_frozen BK255.out 1; have hfz20_2 := blk_frozen BK255.out 2; have hfz20_3 := blk_frozen BK255.out 3) | (go_at_call 24; (with_reducible refine (cohousingref34_Late.calls ((rd_T39 l0 x43_1).f0) ((rd_T39 l0 x43_1).f1) ((rd_T39 l0 x43_1).f2) ((rd_T39 l0 x43_1).f3) a1 3 false _ A13.out).mono ?_); rintro e w21 ⟨rfl, hb⟩; have n0_ := Aside0.mk (Kd.R_below (by (with_reducible repeat (first | apply Kd.R_alloc | apply Kd.R_drewN | apply Kd.R_drew)); exact (Kd.R_mono (Kd.R_far (p := ⟨gb255, 3, none⟩) (Kd.R_far (p := ⟨gb255, 2, none⟩) (Kd.R_far (p := ⟨gb255, 1, none⟩) (Kd.R_far (p := ⟨gb255, 0, none⟩) (Kd.R_mono HO_8.out (fun k_ hk => (⟨hk, hk.2⟩ : _ ∧ k_ ≠ gb255))) (fun _ hk => hk.2) (.int .i64 ((rd_T39 l0 x43_1).f0))) (fun _ hk => hk.2) (.int .i64 ((rd_T39 l0 x43_1).f1))) (fun _ hk => hk.2) (.int .i64 ((rd_T39 l0 x43_1).f2))) (fun _ hk => hk.2) (.int .i64 ((rd_T39 l0 x43_1).f3))) (fun _ h_ => h_.1))) hb); have n1_ := Aside0.mk (Kd.R_below (by (with_reducible repeat (first | apply Kd.R_alloc | apply Kd.R_drewN | apply Kd.R_drew)); exact (Kd.R_mono (Kd.R_far (p := ⟨gb255, 3, none⟩) (Kd.R_far (p := ⟨gb255, 2, none⟩) (Kd.R_far (p := ⟨gb255, 1, none⟩) (Kd.R_far (p := ⟨gb255, 0, none⟩) (Kd.R_mono HO_10.out (fun k_ hk => (⟨hk, hk.2⟩ : _ ∧ k_ ≠ gb255))) (fun _ hk => hk.2) (.int .i64 ((rd_T39 l0 x43_1).f0))) (fun _ hk => hk.2) (.int .i64 ((rd_T39 l0 x43_1).f1))) (fun _ hk => hk.2) (.int .i64 ((rd_T39 l0 x43_1).f2))) (fun _ hk => hk.2) (.int .i64 ((rd_T39 l0 x43_1).f3))) (fun _ h_ => h_.1))) hb); have n2_ := Aside0.mk (kB (g := gb255) (o := .cells #[.int .i64 ((rd_T39 l0 x43_1).f0), .int .i64 ((rd_T39 l0 x43_1).f1), .int .i64 ((rd_T39 l0 x43_1).f2), .int .i64 ((rd_T39 l0 x43_1).f3)] 39 (0, 0)) (by (with_reducible repeat (first | refine kN ?_ _ | refine kD ?_ | refine kA ?_ _)); refine blk_put (cs := #[.int .i64 ((rd_T39 l0 x43_1).f0), .int .i64 ((rd_T39 l0 x43_1).f1), .int .i64 ((rd_T39 l0 x43_1).f2), .int .i64 0]) ?_ 3 _ rfl; (with_reducible repeat (first | refine kN ?_ _ | refine kD ?_ | refine kA ?_ _)); refine blk_put (cs := #[.int .i64 ((rd_T39 l0 x43_1).f0), .int .i64 ((rd_T39 l0 x43_1).f1), .int .i64 0, .int .i64 0]) ?_ 2 _ rfl; (with_reducible repeat (first | refine kN ?_ _ | refine kD ?_ | refine kA ?_ _)); refine blk_put (cs := #[.int .i64 ((rd_T39 l0 x43_1).f0), .int .i64 0, .int .i64 0, .int .i64 0]) ?_ 1 _ rfl; (with_reducible repeat (first | refine kN ?_ _ | refine kD ?_ | refine kA ?_ _)); refine blk_put (cs := #[.int .i64 0, .int .i64 0, .int .i64 0, .int .i64 0]) ?_ 0 _ rfl; (with_reducible repeat (first | refine kN ?_ _ | refine kD ?_ | refine kA ?_ _)); exact BK255.out) hb); have n3_ := Aside0.mk (bT (by repeat (first | (with_reducible first | exact HB.out | apply bA | apply bN | apply b1 | refine bS ?_ GE255.out) | exact HB.out)) hb); clear HO_8; clear HO_10; clear BK255; clear HB; have HO_8 := n0_; have HO_10 := n1_; have BK255 := n2_; have HB := n3_; clear n0_ n1_ n2_ n3_; (try clear hb); (try clear hb2); (try clear hk); (try clear hi); have hcz22_0 : w21.cell? ⟨gb255, 0, none⟩ = some (.int .i64 ((rd_T39 l0 x43_1).f0)) := (kC BK255.out 0).trans rfl; have hcz22_1 : w21.cell? ⟨gb255, 1, none⟩ = some (.int .i64 ((rd_T39 l0 x43_1).f1)) := (kC BK255.out 1).trans rfl; have hcz22_2 : w21.cell? ⟨gb255, 2, none⟩ = some (.int .i64 ((rd_T39 l0 x43_1).f2)) := (kC BK255.out 2).trans rfl; have hcz22_3 : w21.cell? ⟨gb255, 3, none⟩ = some (.int .i64 ((rd_T39 l0 x43_1).f3)) := (kC BK255.out 3).trans rfl; have hfz22_0 := blk_frozen BK255.out 0; have hfz22_1 := blk_frozen BK255.out 1; have hfz22_2 := blk_frozen BK255.out 2; have hfz22_3 := blk_frozen BK255.out 3) | ((with_reducible refine gate_builtin (b := .append) (xs := #[.tmp 55, .tmp 57]) rfl ?_); (try (refine gate_guard (by rfl) ?_; dsimp only)); at_builtin; refine Kd.R_append k39 (w0 := w) w.heap.size rfl (.tmp 55) (.tmp 57) 22 39 (.agg #[(.int .i64 0), (.int .i64 0), (.int .i64 0), (.int .i64 0)]) 32 rfl Tryz.underlying22 info39 rfl (by decide) (by omega) u10 x10_1 (⟨(rd_T39 l0 x43_1).f0, (rd_T39 l0 x43_1).f1, (rd_T39 l0 x43_1).f2, (rd_T39 l0 x43_1).f3⟩ : S39) [.int .i64 ((rd_T39 l0 x43_1).f0), .int .i64 ((rd_T39 l0 x43_1).f1), .int .i64 ((rd_T39 l0 x43_1).f2), .int .i64 ((rd_T39 l0 x43_1).f3)] (fun k_ => some k_ ≠ (v252 : Value).ownBlock ∧ k_ ≠ gb255) (fun _ => False) rfl rfl ?aP (fun _ hk => hk.elim) ?aF ?aO ?aB ?aS ?aL ?_; (case aP => exact k39_mkM _ _ _ (⟨(rd_T39 l0 x43_1).f0, (rd_T39 l0 x43_1).f1, (rd_T39 l0 x43_1).f2, (rd_T39 l0 x43_1).f3⟩ : S39)); (case aB => exact (by repeat (first | (with_reducible first | exact HB.out | apply bA | apply bN | apply b1 | refine bS ?_ GE255.out) | exact HB.out))); (case aF => exact (fun k_ hk => ⟨Kd.fresh' (Kd.R_lt (by (with_reducible repeat (first | apply Kd.R_alloc | apply Kd.R_drewN | apply Kd.R_drew)); exact HO_8.out)) k_ hk, Kd.freshB (g := gb255) (o := .cells #[.int .i64 ((rd_T39 l0 x43_1).f0), .int .i64 ((rd_T39 l0 x43_1).f1), .int .i64 ((rd_T39 l0 x43_1).f2), .int .i64 ((rd_T39 l0 x43_1).f3)] 39 (0, 0)) (by (with_reducible repeat (first | refine kN ?_ _ | refine kD ?_ | refine kA ?_ _)); exact BK255.out) k_ hk⟩)); (case aO => exact (by (with_reducible repeat (first | apply Kd.R_alloc | apply Kd.R_drewN | apply Kd.R_drew)); exact HO_10.out)); (case aS => exact (bZ (by repeat (first | (with_reducible first | exact HB.out | apply bA | apply bN | apply b1 | refine bS ?_ GE255.out) | exact HB.out)))); (case aL => have := LMc18.out; omega); intro v258 w23 ho hb hg hat; rw [← Ny257.out] at ho; have n0_ := Aside0.mk (Kd.R_after (ok := (fun k_ => k_ ≠ gb255)) (by (with_reducible repeat (first | apply Kd.R_alloc | apply Kd.R_drewN | apply Kd.R_drew)); exact Kd.R_mono HO_8.out (fun _ hk => ⟨hk.2, hk.1⟩)) hg hat); have n1_ := Aside0.mk (blk_grown (g := gb255) (o := .cells #[.int .i64 ((rd_T39 l0 x43_1).f0), .int .i64 ((rd_T39 l0 x43_1).f1), .int .i64 ((rd_T39 l0 x43_1).f2), .int .i64 ((rd_T39 l0 x43_1).f3)] 39 (0, 0)) (by (with_reducible repeat (first | refine kN ?_ _ | refine kD ?_ | refine kA ?_ _)); exact BK255.out) hg (Kd.R_away HO_10.out (fun _ hk => hk.2))); have n2_ := Aside0.mk (hb); have n3_ := Aside0.mk (ho); clear HO_8; clear BK255; clear HB; clear HO_10; have HO_8 := n0_; have BK255 := n1_; have HB := n2_; have HO259 := n3_; clear n0_ n1_ n2_ n3_; clear ho hb hg hat))
          repeat (go_quiet (first | ((with_reducible refine gate_dst (N := 13) rfl ?_); (try (refine gate_guard (by rfl) ?_; dsimp only)); refine box_event ?hg (N := 13) ?hd (cs := #[.int .i64 0, .int .i64 0, .int .i64 0, .int .i64 0]) (t := 39) ?hr ?_; (case hd => rfl); (case hg => rfl); (case hr => first | (go_simp; done) | (go_simp; rfl)); intro gb255 hg w19 hbox hb; have n0_ := Aside0.mk (Kd.R_below (Kd.R_elderB (by (with_reducible repeat (first | apply Kd.R_alloc | apply Kd.R_drewN | apply Kd.R_drew)); exact HO_8.out) gb255 (Nat.le_of_eq hg.symm)) hb); have n1_ := Aside0.mk (Kd.R_below (Kd.R_elderB (by (with_reducible repeat (first | apply Kd.R_alloc | apply Kd.R_drewN | apply Kd.R_drew)); exact HO_10.out) gb255 (Nat.le_of_eq hg.symm)) hb); have n2_ := Aside0.mk (bT (by repeat (first | (with_reducible first | exact HB.out | apply bA | apply bN | apply b1) | exact HB.out)) hb); have n3_ := Aside0.mk (hbox); have n4_ := Aside0.mk ((by rw [hg]; exact (bZ (by repeat (first | (with_reducible first | exact HB.out | apply bA | apply bN | apply b1) | exact HB.out))) : w.heap.size ≤ gb255)); have n5_ := n4_; clear HO_8; clear HO_10; clear HB; have HO_8 := n0_; have HO_10 := n1_; have HB := n2_; have BK255 := n3_; have GW255 := n4_; have GE255 := n5_; clear n0_ n1_ n2_ n3_ n4_ n5_; clear hb hbox hg; have hcz20_0 : w19.cell? ⟨gb255, 0, none⟩ = some (.int .i64 0) := (kC BK255.out 0).trans rfl; have hcz20_1 : w19.cell? ⟨gb255, 1, none⟩ = some (.int .i64 0) := (kC BK255.out 1).trans rfl; have hcz20_2 : w19.cell? ⟨gb255, 2, none⟩ = some (.int .i64 0) := (kC BK255.out 2).trans rfl; have hcz20_3 : w19.cell? ⟨gb255, 3, none⟩ = some (.int .i64 0) := (kC BK255.out 3).trans rfl; have hfz20_0 := blk_frozen BK255.out 0; have hfz20_1 := blk_frozen BK255.out 1; have hfz20_2 := blk_frozen BK255.out 2; have hfz20_3 := blk_frozen BK255.out 3) | (go_at_call 24; (with_reducible refine (cohousingref34_Late.calls ((rd_T39 l0 x43_1).f0) ((rd_T39 l0 x43_1).f1) ((rd_T39 l0 x43_1).f2) ((rd_T39 l0 x43_1).f3) a1 3 false _ A13.out).mono ?_); rintro e w21 ⟨rfl, hb⟩; have n0_ := Aside0.mk (Kd.R_below (by (with_reducible repeat (first | apply Kd.R_alloc | apply Kd.R_drewN | apply Kd.R_drew)); exact (Kd.R_mono (Kd.R_far (p := ⟨gb255, 3, none⟩) (Kd.R_far (p := ⟨gb255, 2, none⟩) (Kd.R_far (p := ⟨gb255, 1, none⟩) (Kd.R_far (p := ⟨gb255, 0, none⟩) (Kd.R_mono HO_8.out (fun k_ hk => (⟨hk, hk.2⟩ : _ ∧ k_ ≠ gb255))) (fun _ hk => hk.2) (.int .i64 ((rd_T39 l0 x43_1).f0))) (fun _ hk => hk.2) (.int .i64 ((rd_T39 l0 x43_1).f1))) (fun _ hk => hk.2) (.int .i64 ((rd_T39 l0 x43_1).f2))) (fun _ hk => hk.2) (.int .i64 ((rd_T39 l0 x43_1).f3))) (fun _ h_ => h_.1))) hb); have n1_ := Aside0.mk (Kd.R_below (by (with_reducible repeat (first | apply Kd.R_alloc | apply Kd.R_drewN | apply Kd.R_drew)); exact (Kd.R_mono (Kd.R_far (p := ⟨gb255, 3, none⟩) (Kd.R_far (p := ⟨gb255, 2, none⟩) (Kd.R_far (p := ⟨gb255, 1, none⟩) (Kd.R_far (p := ⟨gb255, 0, none⟩) (Kd.R_mono HO_10.out (fun k_ hk => (⟨hk, hk.2⟩ : _ ∧ k_ ≠ gb255))) (fun _ hk => hk.2) (.int .i64 ((rd_T39 l0 x43_1).f0))) (fun _ hk => hk.2) (.int .i64 ((rd_T39 l0 x43_1).f1))) (fun _ hk => hk.2) (.int .i64 ((rd_T39 l0 x43_1).f2))) (fun _ hk => hk.2) (.int .i64 ((rd_T39 l0 x43_1).f3))) (fun _ h_ => h_.1))) hb); have n2_ := Aside0.mk (kB (g := gb255) (o := .cells #[.int .i64 ((rd_T39 l0 x43_1).f0), .int .i64 ((rd_T39 l0 x43_1).f1), .int .i64 ((rd_T39 l0 x43_1).f2), .int .i64 ((rd_T39 l0 x43_1).f3)] 39 (0, 0)) (by (with_reducible repeat (first | refine kN ?_ _ | refine kD ?_ | refine kA ?_ _)); refine blk_put (cs := #[.int .i64 ((rd_T39 l0 x43_1).f0), .int .i64 ((rd_T39 l0 x43_1).f1), .int .i64 ((rd_T39 l0 x43_1).f2), .int .i64 0]) ?_ 3 _ rfl; (with_reducible repeat (first | refine kN ?_ _ | refine kD ?_ | refine kA ?_ _)); refine blk_put (cs := #[.int .i64 ((rd_T39 l0 x43_1).f0), .int .i64 ((rd_T39 l0 x43_1).f1), .int .i64 0, .int .i64 0]) ?_ 2 _ rfl; (with_reducible repeat (first | refine kN ?_ _ | refine kD ?_ | refine kA ?_ _)); refine blk_put (cs := #[.int .i64 ((rd_T39 l0 x43_1).f0), .int .i64 0, .int .i64 0, .int .i64 0]) ?_ 1 _ rfl; (with_reducible repeat (first | refine kN ?_ _ | refine kD ?_ | refine kA ?_ _)); refine blk_put (cs := #[.int .i64 0, .int .i64 0, .int .i64 0, .int .i64 0]) ?_ 0 _ rfl; (with_reducible repeat (first | refine kN ?_ _ | refine kD ?_ | refine kA ?_ _)); exact BK255.out) hb); have n3_ := Aside0.mk (bT (by repeat (first | (with_reducible first | exact HB.out | apply bA | apply bN | apply b1 | refine bS ?_ GE255.out) | exact HB.out)) hb); clear HO_8; clear HO_10; clear BK255; clear HB; have HO_8 := n0_; have HO_10 := n1_; have BK255 := n2_; have HB := n3_; clear n0_ n1_ n2_ n3_; (try clear hb); (try clear hb2); (try clear hk); (try clear hi); have hcz22_0 : w21.cell? ⟨gb255, 0, none⟩ = some (.int .i64 ((rd_T39 l0 x43_1).f0)) := (kC BK255.out 0).trans rfl; have hcz22_1 : w21.cell? ⟨gb255, 1, none⟩ = some (.int .i64 ((rd_T39 l0 x43_1).f1)) := (kC BK255.out 1).trans rfl; have hcz22_2 : w21.cell? ⟨gb255, 2, none⟩ = some (.int .i64 ((rd_T39 l0 x43_1).f2)) := (kC BK255.out 2).trans rfl; have hcz22_3 : w21.cell? ⟨gb255, 3, none⟩ = some (.int .i64 ((rd_T39 l0 x43_1).f3)) := (kC BK255.out 3).trans rfl; have hfz22_0 := blk_frozen BK255.out 0; have hfz22_1 := blk_frozen BK255.out 1; have hfz22_2 := blk_frozen BK255.out 2; have hfz22_3 := blk_frozen BK255.out 3) | ((with_reducible refine gate_builtin (b := .append) (xs := #[.tmp 55, .tmp 57]) rfl ?_); (try (refine gate_guard (by rfl) ?_; dsimp only)); at_builtin; refine Kd.R_append k39 (w0 := w) w.heap.size rfl (.tmp 55) (.tmp 57) 22 39 (.agg #[(.int .i64 0), (.int .i64 0), (.int .i64 0), (.int .i64 0)]) 32 rfl Tryz.underlying22 info39 rfl (by decide) (by omega) u10 x10_1 (⟨(rd_T39 l0 x43_1).f0, (rd_T39 l0 x43_1).f1, (rd_T39 l0 x43_1).f2, (rd_T39 l0 x43_1).f3⟩ : S39) [.int .i64 ((rd_T39 l0 x43_1).f0), .int .i64 ((rd_T39 l0 x43_1).f1), .int .i64 ((rd_T39 l0 x43_1).f2), .int .i64 ((rd_T39 l0 x43_1).f3)] (fun k_ => some k_ ≠ (v252 : Value).ownBlock ∧ k_ ≠ gb255) (fun _ => False) rfl rfl ?aP (fun _ hk => hk.elim) ?aF ?aO ?aB ?aS ?aL ?_; (case aP => exact k39_mkM _ _ _ (⟨(rd_T39 l0 x43_1).f0, (rd_T39 l0 x43_1).f1, (rd_T39 l0 x43_1).f2, (rd_T39 l0 x43_1).f3⟩ : S39)); (case aB => exact (by repeat (first | (with_reducible first | exact HB.out | apply bA | apply bN | apply b1 | refine bS ?_ GE255.out) | exact HB.out))); (case aF => exact (fun k_ hk => ⟨Kd.fresh' (Kd.R_lt (by (with_reducible repeat (first | apply Kd.R_alloc | apply Kd.R_drewN | apply Kd.R_drew)); exact HO_8.out)) k_ hk, Kd.freshB (g := gb255) (o := .cells #[.int .i64 ((rd_T39 l0 x43_1).f0), .int .i64 ((rd_T39 l0 x43_1).f1), .int .i64 ((rd_T39 l0 x43_1).f2), .int .i64 ((rd_T39 l0 x43_1).f3)] 39 (0, 0)) (by (with_reducible repeat (first | refine kN ?_ _ | refine kD ?_ | refine kA ?_ _)); exact BK255.out) k_ hk⟩)); (case aO => exact (by (with_reducible repeat (first | apply Kd.R_alloc | apply Kd.R_drewN | apply Kd.R_drew)); exact HO_10.out)); (case aS => exact (bZ (by repeat (first | (with_reducible first | exact HB.out | apply bA | apply bN | apply b1 | refine bS ?_ GE255.out) | exact HB.out)))); (case aL => have := LMc18.out; omega); intro v258 w23 ho hb hg hat; rw [← Ny257.out] at ho; have n0_ := Aside0.mk (Kd.R_after (ok := (fun k_ => k_ ≠ gb255)) (by (with_reducible repeat (first | apply Kd.R_alloc | apply Kd.R_drewN | apply Kd.R_drew)); exact Kd.R_mono HO_8.out (fun _ hk => ⟨hk.2, hk.1⟩)) hg hat); have n1_ := Aside0.mk (blk_grown (g := gb255) (o := .cells #[.int .i64 ((rd_T39 l0 x43_1).f0), .int .i64 ((rd_T39 l0 x43_1).f1), .int .i64 ((rd_T39 l0 x43_1).f2), .int .i64 ((rd_T39 l0 x43_1).f3)] 39 (0, 0)) (by (with_reducible repeat (first | refine kN ?_ _ | refine kD ?_ | refine kA ?_ _)); exact BK255.out) hg (Kd.R_away HO_10.out (fun _ hk => hk.2))); have n2_ := Aside0.mk (hb); have n3_ := Aside0.mk (ho); clear HO_8; clear BK255; clear HB; clear HO_10; have HO_8 := n0_; have BK255 := n1_; have HB := n2_; have HO259 := n3_; clear n0_ n1_ n2_ n3_; clear ho hb hg hat)); try go_wp2_with (first | ((with_reducible refine gate_dst (N := 13) rfl ?_); (try (refine gate_guard (by rfl) ?_; dsimp only)); refine box_event ?hg (N := 13) ?hd (cs := #[.int .i64 0, .int .i64 0, .int .i64 0, .int .i64 0]) (t := 39) ?hr ?_; (case hd => rfl); (case hg => rfl); (case hr => first | (go_simp; done) | (go_simp; rfl)); intro gb255 hg w19 hbox hb; have n0_ := Aside0.mk (Kd.R_below (Kd.R_elderB (by (with_reducible repeat (first | apply Kd.R_alloc | apply Kd.R_drewN | apply Kd.R_drew)); exact HO_8.out) gb255 (Nat.le_of_eq hg.symm)) hb); have n1_ := Aside0.mk (Kd.R_below (Kd.R_elderB (by (with_reducible repeat (first | apply Kd.R_alloc | apply Kd.R_drewN | apply Kd.R_drew)); exact HO_10.out) gb255 (Nat.le_of_eq hg.symm)) hb); have n2_ := Aside0.mk (bT (by repeat (first | (with_reducible first | exact HB.out | apply bA | apply bN | apply b1) | exact HB.out)) hb); have n3_ := Aside0.mk (hbox); have n4_ := Aside0.mk ((by rw [hg]; exact (bZ (by repeat (first | (with_reducible first | exact HB.out | apply bA | apply bN | apply b1) | exact HB.out))) : w.heap.size ≤ gb255)); have n5_ := n4_; clear HO_8; clear HO_10; clear HB; have HO_8 := n0_; have HO_10 := n1_; have HB := n2_; have BK255 := n3_; have GW255 := n4_; have GE255 := n5_; clear n0_ n1_ n2_ n3_ n4_ n5_; clear hb hbox hg; have hcz20_0 : w19.cell? ⟨gb255, 0, none⟩ = some (.int .i64 0) := (kC BK255.out 0).trans rfl; have hcz20_1 : w19.cell? ⟨gb255, 1, none⟩ = some (.int .i64 0) := (kC BK255.out 1).trans rfl; have hcz20_2 : w19.cell? ⟨gb255, 2, none⟩ = some (.int .i64 0) := (kC BK255.out 2).trans rfl; have hcz20_3 : w19.cell? ⟨gb255, 3, none⟩ = some (.int .i64 0) := (kC BK255.out 3).trans rfl; have hfz20_0 := blk_frozen BK255.out 0; have hfz20_1 := blk_frozen BK255.out 1; have hfz20_2 := blk_frozen BK255.out 2; have hfz20_3 := blk_frozen BK255.out 3) | (go_at_call 24; (with_reducible refine (cohousingref34_Late.calls ((rd_T39 l0 x43_1).f0) ((rd_T39 l0 x43_1).f1) ((rd_T39 l0 x43_1).f2) ((rd_T39 l0 x43_1).f3) a1 3 false _ A13.out).mono ?_); rintro e w21 ⟨rfl, hb⟩; have n0_ := Aside0.mk (Kd.R_below (by (with_reducible repeat (first | apply Kd.R_alloc | apply Kd.R_drewN | apply Kd.R_drew)); exact (Kd.R_mono (Kd.R_far (p := ⟨gb255, 3, none⟩) (Kd.R_far (p := ⟨gb255, 2, none⟩) (Kd.R_far (p := ⟨gb255, 1, none⟩) (Kd.R_far (p := ⟨gb255, 0, none⟩) (Kd.R_mono HO_8.out (fun k_ hk => (⟨hk, hk.2⟩ : _ ∧ k_ ≠ gb255))) (fun _ hk => hk.2) (.int .i64 ((rd_T39 l0 x43_1).f0))) (fun _ hk => hk.2) (.int .i64 ((rd_T39 l0 x43_1).f1))) (fun _ hk => hk.2) (.int .i64 ((rd_T39 l0 x43_1).f2))) (fun _ hk => hk.2) (.int .i64 ((rd_T39 l0 x43_1).f3))) (fun _ h_ => h_.1))) hb); have n1_ := Aside0.mk (Kd.R_below (by (with_reducible repeat (first | apply Kd.R_alloc | apply Kd.R_drewN | apply Kd.R_drew)); exact (Kd.R_mono (Kd.R_far (p := ⟨gb255, 3, none⟩) (Kd.R_far (p := ⟨gb255, 2, none⟩) (Kd.R_far (p := ⟨gb255, 1, none⟩) (Kd.R_far (p := ⟨gb255, 0, none⟩) (Kd.R_mono HO_10.out (fun k_ hk => (⟨hk, hk.2⟩ : _ ∧ k_ ≠ gb255))) (fun _ hk => hk.2) (.int .i64 ((rd_T39 l0 x43_1).f0))) (fun _ hk => hk.2) (.int .i64 ((rd_T39 l0 x43_1).f1))) (fun _ hk => hk.2) (.int .i64 ((rd_T39 l0 x43_1).f2))) (fun _ hk => hk.2) (.int .i64 ((rd_T39 l0 x43_1).f3))) (fun _ h_ => h_.1))) hb); have n2_ := Aside0.mk (kB (g := gb255) (o := .cells #[.int .i64 ((rd_T39 l0 x43_1).f0), .int .i64 ((rd_T39 l0 x43_1).f1), .int .i64 ((rd_T39 l0 x43_1).f2), .int .i64 ((rd_T39 l0 x43_1).f3)] 39 (0, 0)) (by (with_reducible repeat (first | refine kN ?_ _ | refine kD ?_ | refine kA ?_ _)); refine blk_put (cs := #[.int .i64 ((rd_T39 l0 x43_1).f0), .int .i64 ((rd_T39 l0 x43_1).f1), .int .i64 ((rd_T39 l0 x43_1).f2), .int .i64 0]) ?_ 3 _ rfl; (with_reducible repeat (first | refine kN ?_ _ | refine kD ?_ | refine kA ?_ _)); refine blk_put (cs := #[.int .i64 ((rd_T39 l0 x43_1).f0), .int .i64 ((rd_T39 l0 x43_1).f1), .int .i64 0, .int .i64 0]) ?_ 2 _ rfl; (with_reducible repeat (first | refine kN ?_ _ | refine kD ?_ | refine kA ?_ _)); refine blk_put (cs := #[.int .i64 ((rd_T39 l0 x43_1).f0), .int .i64 0, .int .i64 0, .int .i64 0]) ?_ 1 _ rfl; (with_reducible repeat (first | refine kN ?_ _ | refine kD ?_ | refine kA ?_ _)); refine blk_put (cs := #[.int .i64 0, .int .i64 0, .int .i64 0, .int .i64 0]) ?_ 0 _ rfl; (with_reducible repeat (first | refine kN ?_ _ | refine kD ?_ | refine kA ?_ _)); exact BK255.out) hb); have n3_ := Aside0.mk (bT (by repeat (first | (with_reducible first | exact HB.out | apply bA | apply bN | apply b1 | refine bS ?_ GE255.out) | exact HB.out)) hb); clear HO_8; clear HO_10; clear BK255; clear HB; have HO_8 := n0_; have HO_10 := n1_; have BK255 := n2_; have HB := n3_; clear n0_ n1_ n2_ n3_; (try clear hb); (try clear hb2); (try clear hk); (try clear hi); have hcz22_0 : w21.cell? ⟨gb255, 0, none⟩ = some (.int .i64 ((rd_T39 l0 x43_1).f0)) := (kC BK255.out 0).trans rfl; have hcz22_1 : w21.cell? ⟨gb255, 1, none⟩ = some (.int .i64 ((rd_T39 l0 x43_1).f1)) := (kC BK255.out 1).trans rfl; have hcz22_2 : w21.cell? ⟨gb255, 2, none⟩ = some (.int .i64 ((rd_T39 l0 x43_1).f2)) := (kC BK255.out 2).trans rfl; have hcz22_3 : w21.cell? ⟨gb255, 3, none⟩ = some (.int .i64 ((rd_T39 l0 x43_1).f3)) := (kC BK255.out 3).trans rfl; have hfz22_0 := blk_frozen BK255.out 0; have hfz22_1 := blk_frozen BK255.out 1; have hfz22_2 := blk_frozen BK255.out 2; have hfz22_3 := blk_frozen BK255.out 3) | ((with_reducible refine gate_builtin (b := .append) (xs := #[.tmp 55, .tmp 57]) rfl ?_); (try (refine gate_guard (by rfl) ?_; dsimp only)); at_builtin; refine Kd.R_append k39 (w0 := w) w.heap.size rfl (.tmp 55) (.tmp 57) 22 39 (.agg #[(.int .i64 0), (.int .i64 0), (.int .i64 0), (.int .i64 0)]) 32 rfl Tryz.underlying22 info39 rfl (by decide) (by omega) u10 x10_1 (⟨(rd_T39 l0 x43_1).f0, (rd_T39 l0 x43_1).f1, (rd_T39 l0 x43_1).f2, (rd_T39 l0 x43_1).f3⟩ : S39) [.int .i64 ((rd_T39 l0 x43_1).f0), .int .i64 ((rd_T39 l0 x43_1).f1), .int .i64 ((rd_T39 l0 x43_1).f2), .int .i64 ((rd_T39 l0 x43_1).f3)] (fun k_ => some k_ ≠ (v252 : Value).ownBlock ∧ k_ ≠ gb255) (fun _ => False) rfl rfl ?aP (fun _ hk => hk.elim) ?aF ?aO ?aB ?aS ?aL ?_; (case aP => exact k39_mkM _ _ _ (⟨(rd_T39 l0 x43_1).f0, (rd_T39 l0 x43_1).f1, (rd_T39 l0 x43_1).f2, (rd_T39 l0 x43_1).f3⟩ : S39)); (case aB => exact (by repeat (first | (with_reducible first | exact HB.out | apply bA | apply bN | apply b1 | refine bS ?_ GE255.out) | exact HB.out))); (case aF => exact (fun k_ hk => ⟨Kd.fresh' (Kd.R_lt (by (with_reducible repeat (first | apply Kd.R_alloc | apply Kd.R_drewN | apply Kd.R_drew)); exact HO_8.out)) k_ hk, Kd.freshB (g := gb255) (o := .cells #[.int .i64 ((rd_T39 l0 x43_1).f0), .int .i64 ((rd_T39 l0 x43_1).f1), .int .i64 ((rd_T39 l0 x43_1).f2), .int .i64 ((rd_T39 l0 x43_1).f3)] 39 (0, 0)) (by (with_reducible repeat (first | refine kN ?_ _ | refine kD ?_ | refine kA ?_ _)); exact BK255.out) k_ hk⟩)); (case aO => exact (by (with_reducible repeat (first | apply Kd.R_alloc | apply Kd.R_drewN | apply Kd.R_drew)); exact HO_10.out)); (case aS => exact (bZ (by repeat (first | (with_reducible first | exact HB.out | apply bA | apply bN | apply b1 | refine bS ?_ GE255.out) | exact HB.out)))); (case aL => have := LMc18.out; omega); intro v258 w23 ho hb hg hat; rw [← Ny257.out] at ho; have n0_ := Aside0.mk (Kd.R_after (ok := (fun k_ => k_ ≠ gb255)) (by (with_reducible repeat (first | apply Kd.R_alloc | apply Kd.R_drewN | apply Kd.R_drew)); exact Kd.R_mono HO_8.out (fun _ hk => ⟨hk.2, hk.1⟩)) hg hat); have n1_ := Aside0.mk (blk_grown (g := gb255) (o := .cells #[.int .i64 ((rd_T39 l0 x43_1).f0), .int .i64 ((rd_T39 l0 x43_1).f1), .int .i64 ((rd_T39 l0 x43_1).f2), .int .i64 ((rd_T39 l0 x43_1).f3)] 39 (0, 0)) (by (with_reducible repeat (first | refine kN ?_ _ | refine kD ?_ | refine kA ?_ _)); exact BK255.out) hg (Kd.R_away HO_10.out (fun _ hk => hk.2))); have n2_ := Aside0.mk (hb); have n3_ := Aside0.mk (ho); clear HO_8; clear BK255; clear HB; clear HO_10; have HO_8 := n0_; have BK255 := n1_; have HB := n2_; have HO259 := n3_; clear n0_ n1_ n2_ n3_; clear ho hb hg hat)))
          go_roundg k1
          case measure => have := HK1.out; omega
          case rel => exact ⟨(y257), (wrap64 (x11_1 + ((rd_T39 l0 x43_1).f3))), (wrap64 (x43_1 + 1)), (by first | rfl | (simp; done) | (simp [*]; done)), (by first | rfl | (simp; done) | (simp [*]; done)), H', ⟨by have := HK1.out; omega⟩, ⟨by (with_reducible repeat (first | apply Kd.R_alloc | apply Kd.R_drewN | apply Kd.R_drew)); exact Kd.R_mono HO_8.out (fun _ hk => hk.2)⟩, ⟨by (with_reducible repeat (first | apply Kd.R_alloc | apply Kd.R_drewN | apply Kd.R_drew)); exact Kd.R_mono HO259.out (fun _ hk => hk.1)⟩, ⟨by repeat (first | (with_reducible first | exact HB.out | apply bA | apply bN | apply b1 | refine bS ?_ GE255.out) | exact HB.out)⟩⟩
         ·rw [if_neg c18] at H
          exact absurd H (by simp)
       ·rw [if_neg c12] at H
        exact absurd H (by simp)
      ·rw [if_neg c11] at H
       exact absurd H (by simp)
     ·rw [if_neg c10] at H
      have c10b0 : decide (x43_1 < (l0.length : Int)) = false := dF c10
      clear c10
      have HC24 := Aside0.mk H
      clear H
      go_upto_region 14 with (fail)
      repeat (go_quiet (fail); go_upto_region 14 with (fail))
      go_cut [80] (fun v80 wc => ∃ (kq : Nat) (x80_23 : Bool), v80 = .bool x80_23 ∧ Aside0 (cohousinglaw34_SetoffPlan.j1 kq a1 true t250 x10_1 x11_1 x80_23 = some r) ∧ Aside0 (kq ≤ k1) ∧ Aside0 (Kd.R k39 39 wc w.heap.size (fun k_ => some k_ ≠ (u10 : Value).ownBlock) v252 t250) ∧ Aside0 (Kd.R k39 39 wc w.heap.size (fun k_ => some k_ ≠ (v252 : Value).ownBlock) u10 x10_1) ∧ Aside0 (Below w.heap.size w wc))
      case first =>
       have H := HC24.out
       clear HC24
       by_cases c25 : (t250.length : Int) = (wrap64 ((x10_1.length : Int) + a2))
       ·rw [if_pos c25] at H
        have c25b0 : ((t250.length : Int) == (wrap64 ((x10_1.length : Int) + a2))) = true := beq_iff_eq.mpr c25
        have c25b1 : ((t250.length : Int) != (wrap64 ((x10_1.length : Int) + a2))) = false := bne_eq_false_iff_eq.mpr c25
        clear c25
        (first | rw [c25b0] | (simp only [i64_w, i32_w]; rw [c25b0]) | skip)
        replace H := Option.bind_eq_some_iff.mp H
        obtain ⟨t260, A260, H⟩ := H
        replace H : (if t260 = true then (if 0 ≤ (x10_1.length : Int) then (if (x10_1.length : Int) ≤ (t250.length : Int) then ((cohousingref34_Same.f k1 (t250.take ((x10_1.length : Int) : Int).toNat) x10_1).bind fun t265 => (cohousinglaw34_SetoffPlan.j1 k1 a1 true t250 x10_1 x11_1 (!t265))) else (none)) else (none)) else (cohousinglaw34_SetoffPlan.j1 k1 a1 true t250 x10_1 x11_1 true)) = some r := H
        have A26 := Aside0.mk A260
        clear A260
        by_cases c27 : t260 = true
        ·subst c27
         have H1 : (if 0 ≤ (x10_1.length : Int) then (if (x10_1.length : Int) ≤ (t250.length : Int) then ((cohousingref34_Same.f k1 (t250.take ((x10_1.length : Int) : Int).toNat) x10_1).bind fun t265 => (cohousinglaw34_SetoffPlan.j1 k1 a1 true t250 x10_1 x11_1 (!t265))) else (none)) else (none)) = some r := by rw [if_pos rfl] at H; exact H
         clear H
         have H := H1
         clear H1
         by_cases c28 : 0 ≤ (x10_1.length : Int)
         ·rw [if_pos c28] at H
          have c28b0 := eq_true c28
          have c28b1 : decide (0 ≤ (x10_1.length : Int)) = true := dT c28
          clear c28
          by_cases c29 : (x10_1.length : Int) ≤ (t250.length : Int)
          ·rw [if_pos c29] at H
           have c29b0 := eq_true c29
           have c29b1 : decide ((x10_1.length : Int) ≤ (t250.length : Int)) = true := dT c29
           clear c29
           obtain ⟨y261, hy261⟩ : ∃ y_ : List (S39), y_ = (t250.take ((x10_1.length : Int) : Int).toNat) := ⟨_, rfl⟩
           replace H : ((cohousingref34_Same.f k1 y261 x10_1).bind fun t265 => (cohousinglaw34_SetoffPlan.j1 k1 a1 true t250 x10_1 x11_1 (!t265))) = some r := by first | (rw [hy261]; with_reducible exact H) | (have H2_ := (Option.bind_some _ _).symm.trans H; rw [hy261]; with_reducible exact H2_) | (have H2_ := (Option.bind_some _ _).symm.trans H; with_reducible exact H2_) | with_reducible exact H | (rw [hy261]; exact H) | exact H
           have Ny261 := Aside0.mk hy261
           clear hy261
           replace H := Option.bind_eq_some_iff.mp H
           obtain ⟨t265, A300, H⟩ := H
           replace H : (cohousinglaw34_SetoffPlan.j1 k1 a1 true t250 x10_1 x11_1 (!t265)) = some r := H
           have A30 := Aside0.mk A300
           clear A300
           have H' := Aside0.mk H
           clear H
           obtain ⟨Ao31, co31, eo31⟩ := Kd.R_slice HO_8.out
           subst eo31
           obtain ⟨Ao32, co32, eo32⟩ := Kd.R_slice HO_10.out
           subst eo32
           go_wp2_with (first | (go_at_call 12; (with_reducible refine (setoff_Valid.calls _ _ t250 true _ ?side1 ?side2 A26.out).mono ?_); (case side1 => repeat (first | exact (Kd.R_reads' HO_8.out).2.2 | (with_reducible refine Kd.C_alloc ?_ _) | (with_reducible refine Kd.C_drewN ?_ _) | (with_reducible refine Kd.C_drew ?_))); (case side2 => exact (Kd.R_reads' HO_8.out).2.1); rintro e w33 ⟨rfl, hb⟩; have n0_ := Aside0.mk (Kd.R_below (by (with_reducible repeat (first | apply Kd.R_alloc | apply Kd.R_drewN | apply Kd.R_drew)); exact HO_8.out) hb); have n1_ := Aside0.mk (Kd.R_below (by (with_reducible repeat (first | apply Kd.R_alloc | apply Kd.R_drewN | apply Kd.R_drew)); exact HO_10.out) hb); have n2_ := Aside0.mk (bT (by repeat (first | (with_reducible first | exact HB.out | apply bA | apply bN | apply b1) | exact HB.out)) hb); clear HO_8; clear HO_10; clear HB; have HO_8 := n0_; have HO_10 := n1_; have HB := n2_; clear n0_ n1_ n2_; (try clear hb); (try clear hb2); (try clear hk); (try clear hi); have q34 : ((x10_1.length : Int) : Int) ≤ ((t250.length : Int) : Int) := oT (by first | (with_reducible assumption) | assumption); obtain ⟨i034, hi034, _, hsz34, _⟩ := info_parts info39; have hroom34 : t250.length ≤ co31 := (Kd.R_reads' HO_8.out).2.1; have hC34 : Kd.C k39 _ Ao31 t250.length t250 := (Kd.R_reads' HO_8.out).2.2; have hcut34 := cut_to (P := Tryz.prog) 22 39 .i64 Tryz.underlying22 hi034 Ao31 t250.length co31 (x10_1.length : Int) (oT (by first | (with_reducible assumption) | assumption)) q34 hroom34; have hr34 := Kd.C_take (m := ((x10_1.length : Int) : Int).toNat) hC34 (by omega); have hy34 : y261.length = ((x10_1.length : Int) : Int).toNat := (by rw [Ny261.out, List.length_take]; omega); rw [← Ny261.out] at hr34; rw [← hy34] at hcut34; have HR264 := Aside0.mk hr34; have HC264 := Aside0.mk (show y261.length ≤ co31 from by omega); clear hr34 hC34 hroom34 hi034 hsz34; have KY34 := Aside0.mk hy34; clear hy34; have KL34 := Aside0.mk (show ((x10_1.length : Int) : Int).toNat ≤ t250.length from by omega); replace q34 := eq_true q34) | (go_at_call 14; (with_reducible refine (cohousingref34_Same.calls k1 _ _ y261 _ _ x10_1 t265 _ ?side1 ?side2 ?side3 ?side4 A30.out).mono ?_); (case side1 => repeat (first | exact (by repeat (first | (with_reducible exact HR264.out) | (with_reducible refine Kd.C_alloc ?_ _) | (with_reducible refine Kd.C_drewN ?_ _) | (with_reducible refine Kd.C_drew ?_) | exact HR264.out)) | (with_reducible refine Kd.C_alloc ?_ _) | (with_reducible refine Kd.C_drewN ?_ _) | (with_reducible refine Kd.C_drew ?_))); (case side2 => exact HC264.out); (case side3 => repeat (first | exact (Kd.R_reads' HO_10.out).2.2 | (with_reducible refine Kd.C_alloc ?_ _) | (with_reducible refine Kd.C_drewN ?_ _) | (with_reducible refine Kd.C_drew ?_))); (case side4 => exact (Kd.R_reads' HO_10.out).2.1); rintro e w' ⟨rfl, ⟨nd, rfl⟩⟩; (try first | exact ⟨rfl, _, World.drewN_drewN _ _ _⟩ | exact ⟨rfl, _, Eq.trans (World.drewN_drewN _ _ _) (congrArg (World.drewN _) (Nat.add_assoc _ _ _))⟩)))
           repeat (go_quiet (first | (go_at_call 12; (with_reducible refine (setoff_Valid.calls _ _ t250 true _ ?side1 ?side2 A26.out).mono ?_); (case side1 => repeat (first | exact (Kd.R_reads' HO_8.out).2.2 | (with_reducible refine Kd.C_alloc ?_ _) | (with_reducible refine Kd.C_drewN ?_ _) | (with_reducible refine Kd.C_drew ?_))); (case side2 => exact (Kd.R_reads' HO_8.out).2.1); rintro e w33 ⟨rfl, hb⟩; have n0_ := Aside0.mk (Kd.R_below (by (with_reducible repeat (first | apply Kd.R_alloc | apply Kd.R_drewN | apply Kd.R_drew)); exact HO_8.out) hb); have n1_ := Aside0.mk (Kd.R_below (by (with_reducible repeat (first | apply Kd.R_alloc | apply Kd.R_drewN | apply Kd.R_drew)); exact HO_10.out) hb); have n2_ := Aside0.mk (bT (by repeat (first | (with_reducible first | exact HB.out | apply bA | apply bN | apply b1) | exact HB.out)) hb); clear HO_8; clear HO_10; clear HB; have HO_8 := n0_; have HO_10 := n1_; have HB := n2_; clear n0_ n1_ n2_; (try clear hb); (try clear hb2); (try clear hk); (try clear hi); have q34 : ((x10_1.length : Int) : Int) ≤ ((t250.length : Int) : Int) := oT (by first | (with_reducible assumption) | assumption); obtain ⟨i034, hi034, _, hsz34, _⟩ := info_parts info39; have hroom34 : t250.length ≤ co31 := (Kd.R_reads' HO_8.out).2.1; have hC34 : Kd.C k39 _ Ao31 t250.length t250 := (Kd.R_reads' HO_8.out).2.2; have hcut34 := cut_to (P := Tryz.prog) 22 39 .i64 Tryz.underlying22 hi034 Ao31 t250.length co31 (x10_1.length : Int) (oT (by first | (with_reducible assumption) | assumption)) q34 hroom34; have hr34 := Kd.C_take (m := ((x10_1.length : Int) : Int).toNat) hC34 (by omega); have hy34 : y261.length = ((x10_1.length : Int) : Int).toNat := (by rw [Ny261.out, List.length_take]; omega); rw [← Ny261.out] at hr34; rw [← hy34] at hcut34; have HR264 := Aside0.mk hr34; have HC264 := Aside0.mk (show y261.length ≤ co31 from by omega); clear hr34 hC34 hroom34 hi034 hsz34; have KY34 := Aside0.mk hy34; clear hy34; have KL34 := Aside0.mk (show ((x10_1.length : Int) : Int).toNat ≤ t250.length from by omega); replace q34 := eq_true q34) | (go_at_call 14; (with_reducible refine (cohousingref34_Same.calls k1 _ _ y261 _ _ x10_1 t265 _ ?side1 ?side2 ?side3 ?side4 A30.out).mono ?_); (case side1 => repeat (first | exact (by repeat (first | (with_reducible exact HR264.out) | (with_reducible refine Kd.C_alloc ?_ _) | (with_reducible refine Kd.C_drewN ?_ _) | (with_reducible refine Kd.C_drew ?_) | exact HR264.out)) | (with_reducible refine Kd.C_alloc ?_ _) | (with_reducible refine Kd.C_drewN ?_ _) | (with_reducible refine Kd.C_drew ?_))); (case side2 => exact HC264.out); (case side3 => repeat (first | exact (Kd.R_reads' HO_10.out).2.2 | (with_reducible refine Kd.C_alloc ?_ _) | (with_reducible refine Kd.C_drewN ?_ _) | (with_reducible refine Kd.C_drew ?_))); (case side4 => exact (Kd.R_reads' HO_10.out).2.1); rintro e w' ⟨rfl, ⟨nd, rfl⟩⟩; (try first | exact ⟨rfl, _, World.drewN_drewN _ _ _⟩ | exact ⟨rfl, _, Eq.trans (World.drewN_drewN _ _ _) (congrArg (World.drewN _) (Nat.add_assoc _ _ _))⟩))); try go_wp2_with (first | (go_at_call 12; (with_reducible refine (setoff_Valid.calls _ _ t250 true _ ?side1 ?side2 A26.out).mono ?_); (case side1 => repeat (first | exact (Kd.R_reads' HO_8.out).2.2 | (with_reducible refine Kd.C_alloc ?_ _) | (with_reducible refine Kd.C_drewN ?_ _) | (with_reducible refine Kd.C_drew ?_))); (case side2 => exact (Kd.R_reads' HO_8.out).2.1); rintro e w33 ⟨rfl, hb⟩; have n0_ := Aside0.mk (Kd.R_below (by (with_reducible repeat (first | apply Kd.R_alloc | apply Kd.R_drewN | apply Kd.R_drew)); exact HO_8.out) hb); have n1_ := Aside0.mk (Kd.R_below (by (with_reducible repeat (first | apply Kd.R_alloc | apply Kd.R_drewN | apply Kd.R_drew)); exact HO_10.out) hb); have n2_ := Aside0.mk (bT (by repeat (first | (with_reducible first | exact HB.out | apply bA | apply bN | apply b1) | exact HB.out)) hb); clear HO_8; clear HO_10; clear HB; have HO_8 := n0_; have HO_10 := n1_; have HB := n2_; clear n0_ n1_ n2_; (try clear hb); (try clear hb2); (try clear hk); (try clear hi); have q34 : ((x10_1.length : Int) : Int) ≤ ((t250.length : Int) : Int) := oT (by first | (with_reducible assumption) | assumption); obtain ⟨i034, hi034, _, hsz34, _⟩ := info_parts info39; have hroom34 : t250.length ≤ co31 := (Kd.R_reads' HO_8.out).2.1; have hC34 : Kd.C k39 _ Ao31 t250.length t250 := (Kd.R_reads' HO_8.out).2.2; have hcut34 := cut_to (P := Tryz.prog) 22 39 .i64 Tryz.underlying22 hi034 Ao31 t250.length co31 (x10_1.length : Int) (oT (by first | (with_reducible assumption) | assumption)) q34 hroom34; have hr34 := Kd.C_take (m := ((x10_1.length : Int) : Int).toNat) hC34 (by omega); have hy34 : y261.length = ((x10_1.length : Int) : Int).toNat := (by rw [Ny261.out, List.length_take]; omega); rw [← Ny261.out] at hr34; rw [← hy34] at hcut34; have HR264 := Aside0.mk hr34; have HC264 := Aside0.mk (show y261.length ≤ co31 from by omega); clear hr34 hC34 hroom34 hi034 hsz34; have KY34 := Aside0.mk hy34; clear hy34; have KL34 := Aside0.mk (show ((x10_1.length : Int) : Int).toNat ≤ t250.length from by omega); replace q34 := eq_true q34) | (go_at_call 14; (with_reducible refine (cohousingref34_Same.calls k1 _ _ y261 _ _ x10_1 t265 _ ?side1 ?side2 ?side3 ?side4 A30.out).mono ?_); (case side1 => repeat (first | exact (by repeat (first | (with_reducible exact HR264.out) | (with_reducible refine Kd.C_alloc ?_ _) | (with_reducible refine Kd.C_drewN ?_ _) | (with_reducible refine Kd.C_drew ?_) | exact HR264.out)) | (with_reducible refine Kd.C_alloc ?_ _) | (with_reducible refine Kd.C_drewN ?_ _) | (with_reducible refine Kd.C_drew ?_))); (case side2 => exact HC264.out); (case side3 => repeat (first | exact (Kd.R_reads' HO_10.out).2.2 | (with_reducible refine Kd.C_alloc ?_ _) | (with_reducible refine Kd.C_drewN ?_ _) | (with_reducible refine Kd.C_drew ?_))); (case side4 => exact (Kd.R_reads' HO_10.out).2.1); rintro e w' ⟨rfl, ⟨nd, rfl⟩⟩; (try first | exact ⟨rfl, _, World.drewN_drewN _ _ _⟩ | exact ⟨rfl, _, Eq.trans (World.drewN_drewN _ _ _) (congrArg (World.drewN _) (Nat.add_assoc _ _ _))⟩))))
           go_meet
           case rel => exact ⟨_, (!t265), (by first | rfl | (simp; done) | (simp [*]; done)), H', ⟨by have := HK1.out; first | omega | exact Nat.le_refl _⟩, ⟨by (with_reducible repeat (first | apply Kd.R_alloc | apply Kd.R_drewN | apply Kd.R_drew)); exact HO_8.out⟩, ⟨by (with_reducible repeat (first | apply Kd.R_alloc | apply Kd.R_drewN | apply Kd.R_drew)); exact HO_10.out⟩, ⟨by repeat (first | (with_reducible first | exact HB.out | apply bA | apply bN | apply b1) | exact HB.out)⟩⟩
          ·rw [if_neg c29] at H
           exact absurd H (by simp)
         ·rw [if_neg c28] at H
          exact absurd H (by simp)
        ·replace c27 := Bool.eq_false_iff.mpr c27
         subst c27
         have H1 : (cohousinglaw34_SetoffPlan.j1 k1 a1 true t250 x10_1 x11_1 true) = some r := by rw [if_neg (show ¬ (false = true) by decide)] at H; exact H
         clear H
         have H := H1
         clear H1
         have H' := Aside0.mk H
         clear H
         obtain ⟨Ao35, co35, eo35⟩ := Kd.R_slice HO_8.out
         subst eo35
         obtain ⟨Ao36, co36, eo36⟩ := Kd.R_slice HO_10.out
         subst eo36
         go_wp2_with (first | (go_at_call 12; (with_reducible refine (setoff_Valid.calls _ _ t250 false _ ?side1 ?side2 A26.out).mono ?_); (case side1 => repeat (first | exact (Kd.R_reads' HO_8.out).2.2 | (with_reducible refine Kd.C_alloc ?_ _) | (with_reducible refine Kd.C_drewN ?_ _) | (with_reducible refine Kd.C_drew ?_))); (case side2 => exact (Kd.R_reads' HO_8.out).2.1); rintro e w37 ⟨rfl, hb⟩; have n0_ := Aside0.mk (Kd.R_below (by (with_reducible repeat (first | apply Kd.R_alloc | apply Kd.R_drewN | apply Kd.R_drew)); exact HO_8.out) hb); have n1_ := Aside0.mk (Kd.R_below (by (with_reducible repeat (first | apply Kd.R_alloc | apply Kd.R_drewN | apply Kd.R_drew)); exact HO_10.out) hb); have n2_ := Aside0.mk (bT (by repeat (first | (with_reducible first | exact HB.out | apply bA | apply bN | apply b1) | exact HB.out)) hb); clear HO_8; clear HO_10; clear HB; have HO_8 := n0_; have HO_10 := n1_; have HB := n2_; clear n0_ n1_ n2_; (try clear hb); (try clear hb2); (try clear hk); (try clear hi)))
         repeat (go_quiet (first | (go_at_call 12; (with_reducible refine (setoff_Valid.calls _ _ t250 false _ ?side1 ?side2 A26.out).mono ?_); (case side1 => repeat (first | exact (Kd.R_reads' HO_8.out).2.2 | (with_reducible refine Kd.C_alloc ?_ _) | (with_reducible refine Kd.C_drewN ?_ _) | (with_reducible refine Kd.C_drew ?_))); (case side2 => exact (Kd.R_reads' HO_8.out).2.1); rintro e w37 ⟨rfl, hb⟩; have n0_ := Aside0.mk (Kd.R_below (by (with_reducible repeat (first | apply Kd.R_alloc | apply Kd.R_drewN | apply Kd.R_drew)); exact HO_8.out) hb); have n1_ := Aside0.mk (Kd.R_below (by (with_reducible repeat (first | apply Kd.R_alloc | apply Kd.R_drewN | apply Kd.R_drew)); exact HO_10.out) hb); have n2_ := Aside0.mk (bT (by repeat (first | (with_reducible first | exact HB.out | apply bA | apply bN | apply b1) | exact HB.out)) hb); clear HO_8; clear HO_10; clear HB; have HO_8 := n0_; have HO_10 := n1_; have HB := n2_; clear n0_ n1_ n2_; (try clear hb); (try clear hb2); (try clear hk); (try clear hi))); try go_wp2_with (first | (go_at_call 12; (with_reducible refine (setoff_Valid.calls _ _ t250 false _ ?side1 ?side2 A26.out).mono ?_); (case side1 => repeat (first | exact (Kd.R_reads' HO_8.out).2.2 | (with_reducible refine Kd.C_alloc ?_ _) | (with_reducible refine Kd.C_drewN ?_ _) | (with_reducible refine Kd.C_drew ?_))); (case side2 => exact (Kd.R_reads' HO_8.out).2.1); rintro e w37 ⟨rfl, hb⟩; have n0_ := Aside0.mk (Kd.R_below (by (with_reducible repeat (first | apply Kd.R_alloc | apply Kd.R_drewN | apply Kd.R_drew)); exact HO_8.out) hb); have n1_ := Aside0.mk (Kd.R_below (by (with_reducible repeat (first | apply Kd.R_alloc | apply Kd.R_drewN | apply Kd.R_drew)); exact HO_10.out) hb); have n2_ := Aside0.mk (bT (by repeat (first | (with_reducible first | exact HB.out | apply bA | apply bN | apply b1) | exact HB.out)) hb); clear HO_8; clear HO_10; clear HB; have HO_8 := n0_; have HO_10 := n1_; have HB := n2_; clear n0_ n1_ n2_; (try clear hb); (try clear hb2); (try clear hk); (try clear hi))))
         go_meet
         case rel => exact ⟨_, (true), (by first | rfl | (simp; done) | (simp [*]; done)), H', ⟨by have := HK1.out; first | omega | exact Nat.le_refl _⟩, ⟨by (with_reducible repeat (first | apply Kd.R_alloc | apply Kd.R_drewN | apply Kd.R_drew)); exact HO_8.out⟩, ⟨by (with_reducible repeat (first | apply Kd.R_alloc | apply Kd.R_drewN | apply Kd.R_drew)); exact HO_10.out⟩, ⟨by repeat (first | (with_reducible first | exact HB.out | apply bA | apply bN | apply b1) | exact HB.out)⟩⟩
       ·rw [if_neg c25] at H
        have c25b0 : ((t250.length : Int) == (wrap64 ((x10_1.length : Int) + a2))) = false := beq_eq_false_iff_ne.mpr c25
        have c25b1 : ((t250.length : Int) != (wrap64 ((x10_1.length : Int) + a2))) = true := bne_iff_ne.mpr c25
        (first | rw [c25b0] | (simp only [i64_w, i32_w]; rw [c25b0]) | skip)
        have H' := Aside0.mk H
        clear H
        obtain ⟨Ao38, co38, eo38⟩ := Kd.R_slice HO_8.out
        subst eo38
        obtain ⟨Ao39, co39, eo39⟩ := Kd.R_slice HO_10.out
        subst eo39
        go_wp2
        repeat (go_quiet (fail); try go_wp2)
        go_meet
        case rel => exact ⟨_, (true), (by first | rfl | (simp; done) | (simp [*]; done)), H', ⟨by have := HK1.out; first | omega | exact Nat.le_refl _⟩, ⟨by (with_reducible repeat (first | apply Kd.R_alloc | apply Kd.R_drewN | apply Kd.R_drew)); exact HO_8.out⟩, ⟨by (with_reducible repeat (first | apply Kd.R_alloc | apply Kd.R_drewN | apply Kd.R_drew)); exact HO_10.out⟩, ⟨by repeat (first | (with_reducible first | exact HB.out | apply bA | apply bN | apply b1) | exact HB.out)⟩⟩
      case rest =>
       clear HC24
       try clear c1
       try clear c2
       try clear p2
       try clear q2
       try clear hx2
       try clear q3
       try clear c5
       try clear p6
       try clear c7
       try clear c7b0
       try clear c7b1
       try clear c8
       try clear c10
       try clear c10b0
       try clear c11
       try clear c11b0
       try clear c12
       try clear c12b0
       try clear c14
       try clear c18
       try clear c25
       try clear c25b0
       try clear c25b1
       try clear p25
       try clear q25
       try clear hx25
       try clear c27
       try clear c28
       try clear c28b0
       try clear c28b1
       try clear c29
       try clear c29b0
       try clear c29b1
       try clear q34
       try clear hcz16_0
       try clear hcz16_1
       try clear hcz16_2
       try clear hcz16_3
       try clear hcz20_0
       try clear hcz20_1
       try clear hcz20_2
       try clear hcz20_3
       try clear hcz22_0
       try clear hcz22_1
       try clear hcz22_2
       try clear hcz22_3
       try clear hfz16_0
       try clear hfz16_1
       try clear hfz16_2
       try clear hfz16_3
       try clear hfz20_0
       try clear hfz20_1
       try clear hfz20_2
       try clear hfz20_3
       try clear hfz22_0
       try clear hfz22_1
       try clear hfz22_2
       try clear hfz22_3
       try clear hx254_0
       try clear hx254_1
       try clear hx254_2
       try clear hx254_3
       try clear p2
       try clear p254
       try clear q254
       try clear q34
       obtain ⟨kq, x80_23, rfl, HA, HJ23, HO_8, HO_10, HB⟩ := hcut
       cases kq with
       | zero => exact absurd HA.out (by simp [cohousinglaw34_SetoffPlan.j1])
       | succ kj23 =>
        have H := HA.out
        clear HA
        simp only [cohousinglaw34_SetoffPlan.j1] at H
        by_cases c40 : x80_23 = true
        ·subst c40
         have H1 : (none) = some r := by rw [if_pos rfl] at H; exact H
         clear H
         have H := H1
         clear H1
         exact absurd H (by simp)
        ·replace c40 := Bool.eq_false_iff.mpr c40
         subst c40
         have H1 : ((calendar_Month.f kj23 a1).bind fun bt266 => (if bt266.2 = 0 then (if 0 ≤ (x10_1.length : Int) then (if (x10_1.length : Int) ≤ (t250.length : Int) then ((some (t250.drop ((x10_1.length : Int) : Int).toNat : List (S39))).bind fun y268 => (cohousinglaw34_SetoffPlan.l1 kj23 a1 true t250 x11_1 bt266.1 y268 y268 (y268.length : Int) 0)) else (none)) else (none)) else (none))) = some r := by rw [if_neg (show ¬ (false = true) by decide)] at H; exact H
         clear H
         have H := H1
         clear H1
         replace H := Option.bind_eq_some_iff.mp H
         obtain ⟨⟨t266, t267⟩, A410, H⟩ := H
         replace H : (if t267 = 0 then (if 0 ≤ (x10_1.length : Int) then (if (x10_1.length : Int) ≤ (t250.length : Int) then ((some (t250.drop ((x10_1.length : Int) : Int).toNat : List (S39))).bind fun y268 => (cohousinglaw34_SetoffPlan.l1 kj23 a1 true t250 x11_1 t266 y268 y268 (y268.length : Int) 0)) else (none)) else (none)) else (none)) = some r := H
         have A41 := Aside0.mk A410
         clear A410
         by_cases c42 : t267 = 0
         ·rw [if_pos c42] at H
          have c42b0 : (t267 == 0) = true := beq_iff_eq.mpr c42
          have c42b1 : (t267 != 0) = false := bne_eq_false_iff_eq.mpr c42
          clear c42
          by_cases c43 : 0 ≤ (x10_1.length : Int)
          ·rw [if_pos c43] at H
           have c43b0 := eq_true c43
           have c43b1 : decide (0 ≤ (x10_1.length : Int)) = true := dT c43
           clear c43
           by_cases c44 : (x10_1.length : Int) ≤ (t250.length : Int)
           ·rw [if_pos c44] at H
            have c44b0 := eq_true c44
            have c44b1 : decide ((x10_1.length : Int) ≤ (t250.length : Int)) = true := dT c44
            clear c44
            obtain ⟨y268, hy268⟩ : ∃ y_ : List (S39), y_ = (t250.drop ((x10_1.length : Int) : Int).toNat) := ⟨_, rfl⟩
            replace H : (cohousinglaw34_SetoffPlan.l1 kj23 a1 true t250 x11_1 t266 y268 y268 (y268.length : Int) 0) = some r := by first | (rw [hy268]; with_reducible exact H) | (have H2_ := (Option.bind_some _ _).symm.trans H; rw [hy268]; with_reducible exact H2_) | (have H2_ := (Option.bind_some _ _).symm.trans H; with_reducible exact H2_) | with_reducible exact H | (rw [hy268]; exact H) | exact H
            have Ny268 := Aside0.mk hy268
            clear hy268
            have H' := Aside0.mk H
            clear H
            go_wp2_with (first | (go_at_call 25; (with_reducible refine (calendar_Month.calls kj23 a1 t266 t267 _ ?side1 A41.out).mono ?_); (case side1 => exact GL.below HG.out (by repeat (first | (with_reducible first | exact HB.out | apply bA | apply bN | apply b1) | exact HB.out))); rintro e w' ⟨rfl, ⟨nd, rfl⟩⟩; (try first | exact ⟨rfl, _, World.drewN_drewN _ _ _⟩ | exact ⟨rfl, _, Eq.trans (World.drewN_drewN _ _ _) (congrArg (World.drewN _) (Nat.add_assoc _ _ _))⟩); obtain ⟨Ao45, co45, eo45⟩ := Kd.R_slice HO_10.out; subst eo45; obtain ⟨Ao47, co47, eo47⟩ := Kd.R_slice HO_8.out; subst eo47; have q46 : ((x10_1.length : Int) : Int) ≤ ((t250.length : Int) : Int) := oT (by first | (with_reducible assumption) | assumption); obtain ⟨i046, hi046, _, hsz46, _⟩ := info_parts info39; have hroom46 : t250.length ≤ co47 := (Kd.R_reads' HO_8.out).2.1; have hC46 : Kd.C k39 _ Ao47 t250.length t250 := (Kd.R_reads' HO_8.out).2.2; have q046 : (0 : Int) ≤ ((x10_1.length : Int) : Int) := oT (by first | (with_reducible assumption) | assumption); have hcut46 := cut_from (P := Tryz.prog) 22 39 .i64 Tryz.underlying22 hi046 4 hsz46 Ao47 t250.length co47 (x10_1.length : Int) q046 q46; have hr46 := Kd.C_drop (m := ((x10_1.length : Int) : Int).toNat) (c := co47) hC46 (by omega) hroom46; obtain ⟨A46, hA46⟩ : ∃ A1, A1 = (if co47 = ((x10_1.length : Int) : Int).toNat then Ao47 else (Ao47 : Option Addr).map (·.add (((x10_1.length : Int) : Int).toNat * 4))) := ⟨_, rfl⟩; obtain ⟨c46, hc46⟩ : ∃ c1, c1 = co47 - ((x10_1.length : Int) : Int).toNat := ⟨_, rfl⟩; have hy46 : y268.length = t250.length - ((x10_1.length : Int) : Int).toNat := (by rw [Ny268.out, List.length_drop] <;> omega); rw [show (t250).drop ((x10_1.length : Int) : Int).toNat = y268 from Ny268.out.symm] at hr46; replace hr46 : Kd.C k39 _ A46 y268.length y268 := (by rw [hA46]; exact hr46); rw [← hy46, ← hA46, ← hc46] at hcut46; have HR271 := Aside0.mk hr46; have HC271 := Aside0.mk (show y268.length ≤ c46 from by rw [hy46, hc46]; exact Nat.sub_le_sub_right hroom46 _); clear hr46 hC46 hroom46 hi046 hsz46 hc46; have KY46 := Aside0.mk hy46; have KA46 := Aside0.mk hA46; clear hy46 hA46; have KL46 := Aside0.mk (show ((x10_1.length : Int) : Int).toNat ≤ t250.length from by omega); replace q46 := eq_true q46))
            repeat (go_quiet (first | (go_at_call 25; (with_reducible refine (calendar_Month.calls kj23 a1 t266 t267 _ ?side1 A41.out).mono ?_); (case side1 => exact GL.below HG.out (by repeat (first | (with_reducible first | exact HB.out | apply bA | apply bN | apply b1) | exact HB.out))); rintro e w' ⟨rfl, ⟨nd, rfl⟩⟩; (try first | exact ⟨rfl, _, World.drewN_drewN _ _ _⟩ | exact ⟨rfl, _, Eq.trans (World.drewN_drewN _ _ _) (congrArg (World.drewN _) (Nat.add_assoc _ _ _))⟩); obtain ⟨Ao45, co45, eo45⟩ := Kd.R_slice HO_10.out; subst eo45; obtain ⟨Ao47, co47, eo47⟩ := Kd.R_slice HO_8.out; subst eo47; have q46 : ((x10_1.length : Int) : Int) ≤ ((t250.length : Int) : Int) := oT (by first | (with_reducible assumption) | assumption); obtain ⟨i046, hi046, _, hsz46, _⟩ := info_parts info39; have hroom46 : t250.length ≤ co47 := (Kd.R_reads' HO_8.out).2.1; have hC46 : Kd.C k39 _ Ao47 t250.length t250 := (Kd.R_reads' HO_8.out).2.2; have q046 : (0 : Int) ≤ ((x10_1.length : Int) : Int) := oT (by first | (with_reducible assumption) | assumption); have hcut46 := cut_from (P := Tryz.prog) 22 39 .i64 Tryz.underlying22 hi046 4 hsz46 Ao47 t250.length co47 (x10_1.length : Int) q046 q46; have hr46 := Kd.C_drop (m := ((x10_1.length : Int) : Int).toNat) (c := co47) hC46 (by omega) hroom46; obtain ⟨A46, hA46⟩ : ∃ A1, A1 = (if co47 = ((x10_1.length : Int) : Int).toNat then Ao47 else (Ao47 : Option Addr).map (·.add (((x10_1.length : Int) : Int).toNat * 4))) := ⟨_, rfl⟩; obtain ⟨c46, hc46⟩ : ∃ c1, c1 = co47 - ((x10_1.length : Int) : Int).toNat := ⟨_, rfl⟩; have hy46 : y268.length = t250.length - ((x10_1.length : Int) : Int).toNat := (by rw [Ny268.out, List.length_drop] <;> omega); rw [show (t250).drop ((x10_1.length : Int) : Int).toNat = y268 from Ny268.out.symm] at hr46; replace hr46 : Kd.C k39 _ A46 y268.length y268 := (by rw [hA46]; exact hr46); rw [← hy46, ← hA46, ← hc46] at hcut46; have HR271 := Aside0.mk hr46; have HC271 := Aside0.mk (show y268.length ≤ c46 from by rw [hy46, hc46]; exact Nat.sub_le_sub_right hroom46 _); clear hr46 hC46 hroom46 hi046 hsz46 hc46; have KY46 := Aside0.mk hy46; have KA46 := Aside0.mk hA46; clear hy46 hA46; have KL46 := Aside0.mk (show ((x10_1.length : Int) : Int).toNat ≤ t250.length from by omega); replace q46 := eq_true q46)); try go_wp2_with (first | (go_at_call 25; (with_reducible refine (calendar_Month.calls kj23 a1 t266 t267 _ ?side1 A41.out).mono ?_); (case side1 => exact GL.below HG.out (by repeat (first | (with_reducible first | exact HB.out | apply bA | apply bN | apply b1) | exact HB.out))); rintro e w' ⟨rfl, ⟨nd, rfl⟩⟩; (try first | exact ⟨rfl, _, World.drewN_drewN _ _ _⟩ | exact ⟨rfl, _, Eq.trans (World.drewN_drewN _ _ _) (congrArg (World.drewN _) (Nat.add_assoc _ _ _))⟩); obtain ⟨Ao45, co45, eo45⟩ := Kd.R_slice HO_10.out; subst eo45; obtain ⟨Ao47, co47, eo47⟩ := Kd.R_slice HO_8.out; subst eo47; have q46 : ((x10_1.length : Int) : Int) ≤ ((t250.length : Int) : Int) := oT (by first | (with_reducible assumption) | assumption); obtain ⟨i046, hi046, _, hsz46, _⟩ := info_parts info39; have hroom46 : t250.length ≤ co47 := (Kd.R_reads' HO_8.out).2.1; have hC46 : Kd.C k39 _ Ao47 t250.length t250 := (Kd.R_reads' HO_8.out).2.2; have q046 : (0 : Int) ≤ ((x10_1.length : Int) : Int) := oT (by first | (with_reducible assumption) | assumption); have hcut46 := cut_from (P := Tryz.prog) 22 39 .i64 Tryz.underlying22 hi046 4 hsz46 Ao47 t250.length co47 (x10_1.length : Int) q046 q46; have hr46 := Kd.C_drop (m := ((x10_1.length : Int) : Int).toNat) (c := co47) hC46 (by omega) hroom46; obtain ⟨A46, hA46⟩ : ∃ A1, A1 = (if co47 = ((x10_1.length : Int) : Int).toNat then Ao47 else (Ao47 : Option Addr).map (·.add (((x10_1.length : Int) : Int).toNat * 4))) := ⟨_, rfl⟩; obtain ⟨c46, hc46⟩ : ∃ c1, c1 = co47 - ((x10_1.length : Int) : Int).toNat := ⟨_, rfl⟩; have hy46 : y268.length = t250.length - ((x10_1.length : Int) : Int).toNat := (by rw [Ny268.out, List.length_drop] <;> omega); rw [show (t250).drop ((x10_1.length : Int) : Int).toNat = y268 from Ny268.out.symm] at hr46; replace hr46 : Kd.C k39 _ A46 y268.length y268 := (by rw [hA46]; exact hr46); rw [← hy46, ← hA46, ← hc46] at hcut46; have HR271 := Aside0.mk hr46; have HC271 := Aside0.mk (show y268.length ≤ c46 from by rw [hy46, hc46]; exact Nat.sub_le_sub_right hroom46 _); clear hr46 hC46 hroom46 hi046 hsz46 hc46; have KY46 := Aside0.mk hy46; have KA46 := Aside0.mk hA46; clear hy46 hA46; have KL46 := Aside0.mk (show ((x10_1.length : Int) : Int).toNat ≤ t250.length from by omega); replace q46 := eq_true q46)))
            go_loopg [7, 94] kj23 (fun kq v7 v94 w' => ∃ (x7_3 : Bool) (x94_3 : Int), v7 = .bool x7_3 ∧ v94 = .int .i64 x94_3 ∧ Aside0 (cohousinglaw34_SetoffPlan.l1 kq a1 x7_3 t250 x11_1 t266 y268 y268 (y268.length : Int) x94_3 = some r) ∧ Aside0 (kq ≤ kj23) ∧ Aside0 (Kd.R k39 39 w' w.heap.size (fun _ => True) (.slice Ao47 t250.length co47) t250) ∧ Aside0 (Kd.C k39 w' A46 y268.length y268) ∧ Aside0 (Below w.heap.size w w'))
            case atStart => exact ⟨(true), (0), (by first | rfl | (simp; done) | (simp [*]; done)), (by first | rfl | (simp; done) | (simp [*]; done)), H', ⟨Nat.le_refl _⟩, ⟨by (with_reducible repeat (first | apply Kd.R_alloc | apply Kd.R_drewN | apply Kd.R_drew)); exact Kd.R_mono HO_8.out (fun _ hk => trivial)⟩, ⟨by repeat (first | (with_reducible exact HR271.out) | (with_reducible refine Kd.C_alloc ?_ _) | (with_reducible refine Kd.C_drewN ?_ _) | (with_reducible refine Kd.C_drew ?_) | exact HR271.out)⟩, ⟨by repeat (first | (with_reducible first | exact HB.out | apply bA | apply bN | apply b1) | exact HB.out)⟩⟩
            case round =>
             clear H'
             try clear c1
             try clear c2
             try clear p2
             try clear q2
             try clear hx2
             try clear q3
             try clear c4
             try clear q4
             try clear c5
             try clear p6
             try clear c7
             try clear c7b0
             try clear c7b1
             try clear c8
             try clear c10
             try clear c10b0
             try clear c11
             try clear c11b0
             try clear c12
             try clear c12b0
             try clear c14
             try clear c18
             try clear c25
             try clear c25b0
             try clear c25b1
             try clear p25
             try clear q25
             try clear hx25
             try clear c27
             try clear c28
             try clear c28b0
             try clear c28b1
             try clear c29
             try clear c29b0
             try clear c29b1
             try clear q34
             try clear c40
             try clear c42
             try clear c42b0
             try clear c42b1
             try clear c43
             try clear c43b0
             try clear c43b1
             try clear c44
             try clear c44b0
             try clear c44b1
             try clear c46
             try clear q46
             try clear hcz16_0
             try clear hcz16_1
             try clear hcz16_2
             try clear hcz16_3
             try clear hcz20_0
             try clear hcz20_1
             try clear hcz20_2
             try clear hcz20_3
             try clear hcz22_0
             try clear hcz22_1
             try clear hcz22_2
             try clear hcz22_3
             try clear hfz16_0
             try clear hfz16_1
             try clear hfz16_2
             try clear hfz16_3
             try clear hfz20_0
             try clear hfz20_1
             try clear hfz20_2
             try clear hfz20_3
             try clear hfz22_0
             try clear hfz22_1
             try clear hfz22_2
             try clear hfz22_3
             try clear hx254_0
             try clear hx254_1
             try clear hx254_2
             try clear hx254_3
             try clear p2
             try clear p25
             try clear p254
             try clear p6
             try clear q046
             try clear q2
             try clear q25
             try clear q254
             try clear q3
             try clear q34
             try clear q46
             obtain ⟨x7_3, x94_3, rfl, rfl, HA, HK3, HO_8, HR271, HB⟩ := hrel
             cases gk with
             | zero => exact absurd HA.out (by simp [cohousinglaw34_SetoffPlan.l1])
             | succ k3 =>
              have H := HA.out
              clear HA
              simp only [cohousinglaw34_SetoffPlan.l1] at H
              by_cases c48 : x94_3 < (y268.length : Int)
              ·rw [if_pos c48] at H
               have c48b0 : decide (x94_3 < (y268.length : Int)) = true := dT c48
               clear c48
               by_cases c49 : 0 ≤ x94_3
               ·rw [if_pos c49] at H
                have c49b0 : decide (0 ≤ x94_3) = true := dT c49
                clear c49
                by_cases c50 : x94_3 < (y268.length : Int)
                ·rw [if_pos c50] at H
                 have c50b0 : decide (x94_3 < (y268.length : Int)) = true := dT c50
                 clear c50
                 replace H := Option.bind_eq_some_iff.mp H
                 obtain ⟨⟨t274, t275⟩, A510, H⟩ := H
                 replace H : (if x7_3 = true then (if t275 = 0 then (if t274 = (wrap64 ((wrap64 (t266 + x94_3)) + 1)) then (if ((rd_T39 y268 x94_3).f1) = 3 then (if 0 < (y268.length : Int) then (if ((rd_T39 y268 x94_3).f3) ≤ ((rd_T39 y268 0).f3) then (if ((rd_T39 y268 x94_3).f3) ≥ (wrap64 (((rd_T39 y268 0).f3) - 1)) then (cohousinglaw34_SetoffPlan.l1 k3 a1 true t250 x11_1 t266 y268 y268 (y268.length : Int) (wrap64 (x94_3 + 1))) else (none)) else (none)) else (none)) else (none)) else (none)) else (none)) else (none)) = some r := H
                 have A51 := Aside0.mk A510
                 clear A510
                 by_cases c52 : x7_3 = true
                 ·subst c52
                  have H1 : (if t275 = 0 then (if t274 = (wrap64 ((wrap64 (t266 + x94_3)) + 1)) then (if ((rd_T39 y268 x94_3).f1) = 3 then (if 0 < (y268.length : Int) then (if ((rd_T39 y268 x94_3).f3) ≤ ((rd_T39 y268 0).f3) then (if ((rd_T39 y268 x94_3).f3) ≥ (wrap64 (((rd_T39 y268 0).f3) - 1)) then (cohousinglaw34_SetoffPlan.l1 k3 a1 true t250 x11_1 t266 y268 y268 (y268.length : Int) (wrap64 (x94_3 + 1))) else (none)) else (none)) else (none)) else (none)) else (none)) else (none)) = some r := by rw [if_pos rfl] at H; exact H
                  clear H
                  have H := H1
                  clear H1
                  by_cases c53 : t275 = 0
                  ·rw [if_pos c53] at H
                   have c53b0 : (t275 == 0) = true := beq_iff_eq.mpr c53
                   have c53b1 : (t275 != 0) = false := bne_eq_false_iff_eq.mpr c53
                   clear c53
                   by_cases c54 : t274 = (wrap64 ((wrap64 (t266 + x94_3)) + 1))
                   ·rw [if_pos c54] at H
                    have c54b0 : (t274 == (wrap64 ((wrap64 (t266 + x94_3)) + 1))) = true := beq_iff_eq.mpr c54
                    have c54b1 : (t274 != (wrap64 ((wrap64 (t266 + x94_3)) + 1))) = false := bne_eq_false_iff_eq.mpr c54
                    clear c54
                    by_cases c55 : ((rd_T39 y268 x94_3).f1) = 3
                    ·rw [if_pos c55] at H
                     have c55b0 : (((rd_T39 y268 x94_3).f1) == 3) = true := beq_iff_eq.mpr c55
                     have c55b1 : (((rd_T39 y268 x94_3).f1) != 3) = false := bne_eq_false_iff_eq.mpr c55
                     clear c55
                     by_cases c56 : 0 < (y268.length : Int)
                     ·rw [if_pos c56] at H
                      have c56b0 : decide (0 < (y268.length : Int)) = true := dT c56
                      have c56b1 : decide (0 < y268.length) = true := dT (by omega)
                      clear c56
                      by_cases c57 : ((rd_T39 y268 x94_3).f3) ≤ ((rd_T39 y268 0).f3)
                      ·rw [if_pos c57] at H
                       have c57b0 : decide (((rd_T39 y268 x94_3).f3) ≤ ((rd_T39 y268 0).f3)) = true := dT c57
                       clear c57
                       by_cases c58 : ((rd_T39 y268 x94_3).f3) ≥ (wrap64 (((rd_T39 y268 0).f3) - 1))
                       ·rw [if_pos c58] at H
                        have c58b0 : decide ((wrap64 (((rd_T39 y268 0).f3) - 1)) ≤ ((rd_T39 y268 x94_3).f3)) = true := dT c58
                        clear c58
                        have H' := Aside0.mk H
                        clear H
                        have p272 : 0 ≤ (x94_3 : Int) := oT (by first | (with_reducible assumption) | assumption)
                        have q272 : x94_3 < (y268.length : Int) := oT (by first | (with_reducible assumption) | assumption)
                        obtain ⟨ad272, e272, hx272_0, hx272_1, hx272_2, hx272_3⟩ := at_T39 HR271.out x94_3 p272 q272
                        cases e272
                        replace p272 := eq_true p272
                        replace q272 := eq_true q272
                        go_wp2_with (first | ((with_reducible refine gate_dst (N := 18) rfl ?_); (try (refine gate_guard (by rfl) ?_; dsimp only)); refine box_event ?hg (N := 18) ?hd (cs := #[.int .i64 0, .int .i64 0, .int .i64 0, .int .i64 0]) (t := 39) ?hr ?_; (case hd => rfl); (case hg => rfl); (case hr => first | (go_simp; done) | (go_simp; rfl)); intro gb273 hg w59 hbox hb; have n0_ := Aside0.mk (Kd.R_below (Kd.R_elderB (by (with_reducible repeat (first | apply Kd.R_alloc | apply Kd.R_drewN | apply Kd.R_drew)); exact HO_8.out) gb273 (Nat.le_of_eq hg.symm)) hb); have n1_ := Aside0.mk ((fun W_ (hW_ : Below gb273 w59 W_) => Kd.C_below (by repeat (first | (with_reducible exact HR271.out) | (with_reducible refine Kd.C_alloc ?_ _) | (with_reducible refine Kd.C_drewN ?_ _) | (with_reducible refine Kd.C_drew ?_) | exact HR271.out)) (hb.trans (by rw [← hg]; exact hW_)))); have n2_ := Aside0.mk (Kd.C_below (by repeat (first | (with_reducible exact HR271.out) | (with_reducible refine Kd.C_alloc ?_ _) | (with_reducible refine Kd.C_drewN ?_ _) | (with_reducible refine Kd.C_drew ?_) | exact HR271.out)) hb); have n3_ := Aside0.mk (bT (by repeat (first | (with_reducible first | exact HB.out | apply bA | apply bN | apply b1) | exact HB.out)) hb); have n4_ := Aside0.mk (hbox); have n5_ := Aside0.mk ((by rw [hg]; exact (bZ (by repeat (first | (with_reducible first | exact HB.out | apply bA | apply bN | apply b1) | exact HB.out))) : w.heap.size ≤ gb273)); have n6_ := n5_; clear HO_8; clear HR271; clear HB; have HO_8 := n0_; have SNHR271_273 := n1_; have HR271 := n2_; have HB := n3_; have BK273 := n4_; have GW273 := n5_; have GE273 := n6_; clear n0_ n1_ n2_ n3_ n4_ n5_ n6_; clear hb hbox hg; have hcz60_0 : w59.cell? ⟨gb273, 0, none⟩ = some (.int .i64 0) := (kC BK273.out 0).trans rfl; have hcz60_1 : w59.cell? ⟨gb273, 1, none⟩ = some (.int .i64 0) := (kC BK273.out 1).trans rfl; have hcz60_2 : w59.cell? ⟨gb273, 2, none⟩ = some (.int .i64 0) := (kC BK273.out 2).trans rfl; have hcz60_3 : w59.cell? ⟨gb273, 3, none⟩ = some (.int .i64 0) := (kC BK273.out 3).trans rfl; have hfz60_0 := blk_frozen BK273.out 0; have hfz60_1 := blk_frozen BK273.out 1; have hfz60_2 := blk_frozen BK273.out 2; have hfz60_3 := blk_frozen BK273.out 3) | (go_at_call 25; (with_reducible refine (calendar_Month.calls k3 ((rd_T39 y268 x94_3).f2) t274 t275 _ ?side1 A51.out).mono ?_); (case side1 => exact GL.below HG.out (by repeat (first | (with_reducible first | exact HB.out | apply bA | apply bN | apply b1 | refine bS ?_ GE273.out) | exact HB.out))); rintro e w' ⟨rfl, ⟨nd, rfl⟩⟩; (try first | exact ⟨rfl, _, World.drewN_drewN _ _ _⟩ | exact ⟨rfl, _, Eq.trans (World.drewN_drewN _ _ _) (congrArg (World.drewN _) (Nat.add_assoc _ _ _))⟩); have p276 : 0 ≤ (0 : Int) := (by omega); have q276 : 0 < (y268.length : Int) := oT (by first | (with_reducible assumption) | assumption); obtain ⟨ad276, e276, hx276_0, hx276_1, hx276_2, hx276_3⟩ := at_T39 (SNHR271_273.out _ (Below.setCell (p := ⟨gb273, 3, none⟩) (Below.setCell (p := ⟨gb273, 2, none⟩) (Below.setCell (p := ⟨gb273, 1, none⟩) (Below.setCell (p := ⟨gb273, 0, none⟩) (Below.refl _ _) (Nat.le_refl _) (.int .i64 ((rd_T39 y268 x94_3).f0))) (Nat.le_refl _) (.int .i64 ((rd_T39 y268 x94_3).f1))) (Nat.le_refl _) (.int .i64 ((rd_T39 y268 x94_3).f2))) (Nat.le_refl _) (.int .i64 ((rd_T39 y268 x94_3).f3)))) 0 p276 q276; obtain rfl : ad272 = ad276 := (by injection e276); have qi276 : (0 < y268.length) = True := eq_true (by omega); (try rw [show ((0 : Int)).toNat = 0 from rfl] at hx276_0); (try rw [show 0 * 4 = 0 from rfl] at hx276_0); (try rw [Addr.add_zero'] at hx276_0); (try rw [show ((0 : Int)).toNat = 0 from rfl] at hx276_1); (try rw [show 0 * 4 = 0 from rfl] at hx276_1); (try rw [Addr.add_zero'] at hx276_1); (try rw [show ((0 : Int)).toNat = 0 from rfl] at hx276_2); (try rw [show 0 * 4 = 0 from rfl] at hx276_2); (try rw [Addr.add_zero'] at hx276_2); (try rw [show ((0 : Int)).toNat = 0 from rfl] at hx276_3); (try rw [show 0 * 4 = 0 from rfl] at hx276_3); (try rw [Addr.add_zero'] at hx276_3); (try have hy276_0 := fun (n_ : Nat) => (show ((((((w59.drewN n_).setCell ⟨gb273, 0, none⟩ (.int .i64 ((rd_T39 y268 x94_3).f0))).setCell ⟨gb273, 1, none⟩ (.int .i64 ((rd_T39 y268 x94_3).f1))).setCell ⟨gb273, 2, none⟩ (.int .i64 ((rd_T39 y268 x94_3).f2))).setCell ⟨gb273, 3, none⟩ (.int .i64 ((rd_T39 y268 x94_3).f3)))).cell? _ = some _ from hx276_0)); (try have hy276_1 := fun (n_ : Nat) => (show ((((((w59.drewN n_).setCell ⟨gb273, 0, none⟩ (.int .i64 ((rd_T39 y268 x94_3).f0))).setCell ⟨gb273, 1, none⟩ (.int .i64 ((rd_T39 y268 x94_3).f1))).setCell ⟨gb273, 2, none⟩ (.int .i64 ((rd_T39 y268 x94_3).f2))).setCell ⟨gb273, 3, none⟩ (.int .i64 ((rd_T39 y268 x94_3).f3)))).cell? _ = some _ from hx276_1)); (try have hy276_2 := fun (n_ : Nat) => (show ((((((w59.drewN n_).setCell ⟨gb273, 0, none⟩ (.int .i64 ((rd_T39 y268 x94_3).f0))).setCell ⟨gb273, 1, none⟩ (.int .i64 ((rd_T39 y268 x94_3).f1))).setCell ⟨gb273, 2, none⟩ (.int .i64 ((rd_T39 y268 x94_3).f2))).setCell ⟨gb273, 3, none⟩ (.int .i64 ((rd_T39 y268 x94_3).f3)))).cell? _ = some _ from hx276_2)); (try have hy276_3 := fun (n_ : Nat) => (show ((((((w59.drewN n_).setCell ⟨gb273, 0, none⟩ (.int .i64 ((rd_T39 y268 x94_3).f0))).setCell ⟨gb273, 1, none⟩ (.int .i64 ((rd_T39 y268 x94_3).f1))).setCell ⟨gb273, 2, none⟩ (.int .i64 ((rd_T39 y268 x94_3).f2))).setCell ⟨gb273, 3, none⟩ (.int .i64 ((rd_T39 y268 x94_3).f3)))).cell? _ = some _ from hx276_3)); replace p276 := eq_true p276; replace q276 := eq_true q276; have p277 : 0 ≤ (0 : Int) := (by omega); have q277 : 0 < (y268.length : Int) := oT (by first | (with_reducible assumption) | assumption); obtain ⟨ad277, e277, hx277_0, hx277_1, hx277_2, hx277_3⟩ := at_T39 (SNHR271_273.out _ (Below.setCell (p := ⟨gb273, 3, none⟩) (Below.setCell (p := ⟨gb273, 2, none⟩) (Below.setCell (p := ⟨gb273, 1, none⟩) (Below.setCell (p := ⟨gb273, 0, none⟩) (Below.refl _ _) (Nat.le_refl _) (.int .i64 ((rd_T39 y268 x94_3).f0))) (Nat.le_refl _) (.int .i64 ((rd_T39 y268 x94_3).f1))) (Nat.le_refl _) (.int .i64 ((rd_T39 y268 x94_3).f2))) (Nat.le_refl _) (.int .i64 ((rd_T39 y268 x94_3).f3)))) 0 p277 q277; obtain rfl : ad272 = ad277 := (by injection e277); have qi277 : (0 < y268.length) = True := eq_true (by omega); (try rw [show ((0 : Int)).toNat = 0 from rfl] at hx277_0); (try rw [show 0 * 4 = 0 from rfl] at hx277_0); (try rw [Addr.add_zero'] at hx277_0); (try rw [show ((0 : Int)).toNat = 0 from rfl] at hx277_1); (try rw [show 0 * 4 = 0 from rfl] at hx277_1); (try rw [Addr.add_zero'] at hx277_1); (try rw [show ((0 : Int)).toNat = 0 from rfl] at hx277_2); (try rw [show 0 * 4 = 0 from rfl] at hx277_2); (try rw [Addr.add_zero'] at hx277_2); (try rw [show ((0 : Int)).toNat = 0 from rfl] at hx277_3); (try rw [show 0 * 4 = 0 from rfl] at hx277_3); (try rw [Addr.add_zero'] at hx277_3); (try have hy277_0 := fun (n_ : Nat) => (show ((((((w59.drewN n_).setCell ⟨gb273, 0, none⟩ (.int .i64 ((rd_T39 y268 x94_3).f0))).setCell ⟨gb273, 1, none⟩ (.int .i64 ((rd_T39 y268 x94_3).f1))).setCell ⟨gb273, 2, none⟩ (.int .i64 ((rd_T39 y268 x94_3).f2))).setCell ⟨gb273, 3, none⟩ (.int .i64 ((rd_T39 y268 x94_3).f3)))).cell? _ = some _ from hx277_0)); (try have hy277_1 := fun (n_ : Nat) => (show ((((((w59.drewN n_).setCell ⟨gb273, 0, none⟩ (.int .i64 ((rd_T39 y268 x94_3).f0))).setCell ⟨gb273, 1, none⟩ (.int .i64 ((rd_T39 y268 x94_3).f1))).setCell ⟨gb273, 2, none⟩ (.int .i64 ((rd_T39 y268 x94_3).f2))).setCell ⟨gb273, 3, none⟩ (.int .i64 ((rd_T39 y268 x94_3).f3)))).cell? _ = some _ from hx277_1)); (try have hy277_2 := fun (n_ : Nat) => (show ((((((w59.drewN n_).setCell ⟨gb273, 0, none⟩ (.int .i64 ((rd_T39 y268 x94_3).f0))).setCell ⟨gb273, 1, none⟩ (.int .i64 ((rd_T39 y268 x94_3).f1))).setCell ⟨gb273, 2, none⟩ (.int .i64 ((rd_T39 y268 x94_3).f2))).setCell ⟨gb273, 3, none⟩ (.int .i64 ((rd_T39 y268 x94_3).f3)))).cell? _ = some _ from hx277_2)); (try have hy277_3 := fun (n_ : Nat) => (show ((((((w59.drewN n_).setCell ⟨gb273, 0, none⟩ (.int .i64 ((rd_T39 y268 x94_3).f0))).setCell ⟨gb273, 1, none⟩ (.int .i64 ((rd_T39 y268 x94_3).f1))).setCell ⟨gb273, 2, none⟩ (.int .i64 ((rd_T39 y268 x94_3).f2))).setCell ⟨gb273, 3, none⟩ (.int .i64 ((rd_T39 y268 x94_3).f3)))).cell? _ = some _ from hx277_3)); replace p277 := eq_true p277; replace q277 := eq_true q277))
                        repeat (go_quiet (first | ((with_reducible refine gate_dst (N := 18) rfl ?_); (try (refine gate_guard (by rfl) ?_; dsimp only)); refine box_event ?hg (N := 18) ?hd (cs := #[.int .i64 0, .int .i64 0, .int .i64 0, .int .i64 0]) (t := 39) ?hr ?_; (case hd => rfl); (case hg => rfl); (case hr => first | (go_simp; done) | (go_simp; rfl)); intro gb273 hg w59 hbox hb; have n0_ := Aside0.mk (Kd.R_below (Kd.R_elderB (by (with_reducible repeat (first | apply Kd.R_alloc | apply Kd.R_drewN | apply Kd.R_drew)); exact HO_8.out) gb273 (Nat.le_of_eq hg.symm)) hb); have n1_ := Aside0.mk ((fun W_ (hW_ : Below gb273 w59 W_) => Kd.C_below (by repeat (first | (with_reducible exact HR271.out) | (with_reducible refine Kd.C_alloc ?_ _) | (with_reducible refine Kd.C_drewN ?_ _) | (with_reducible refine Kd.C_drew ?_) | exact HR271.out)) (hb.trans (by rw [← hg]; exact hW_)))); have n2_ := Aside0.mk (Kd.C_below (by repeat (first | (with_reducible exact HR271.out) | (with_reducible refine Kd.C_alloc ?_ _) | (with_reducible refine Kd.C_drewN ?_ _) | (with_reducible refine Kd.C_drew ?_) | exact HR271.out)) hb); have n3_ := Aside0.mk (bT (by repeat (first | (with_reducible first | exact HB.out | apply bA | apply bN | apply b1) | exact HB.out)) hb); have n4_ := Aside0.mk (hbox); have n5_ := Aside0.mk ((by rw [hg]; exact (bZ (by repeat (first | (with_reducible first | exact HB.out | apply bA | apply bN | apply b1) | exact HB.out))) : w.heap.size ≤ gb273)); have n6_ := n5_; clear HO_8; clear HR271; clear HB; have HO_8 := n0_; have SNHR271_273 := n1_; have HR271 := n2_; have HB := n3_; have BK273 := n4_; have GW273 := n5_; have GE273 := n6_; clear n0_ n1_ n2_ n3_ n4_ n5_ n6_; clear hb hbox hg; have hcz60_0 : w59.cell? ⟨gb273, 0, none⟩ = some (.int .i64 0) := (kC BK273.out 0).trans rfl; have hcz60_1 : w59.cell? ⟨gb273, 1, none⟩ = some (.int .i64 0) := (kC BK273.out 1).trans rfl; have hcz60_2 : w59.cell? ⟨gb273, 2, none⟩ = some (.int .i64 0) := (kC BK273.out 2).trans rfl; have hcz60_3 : w59.cell? ⟨gb273, 3, none⟩ = some (.int .i64 0) := (kC BK273.out 3).trans rfl; have hfz60_0 := blk_frozen BK273.out 0; have hfz60_1 := blk_frozen BK273.out 1; have hfz60_2 := blk_frozen BK273.out 2; have hfz60_3 := blk_frozen BK273.out 3) | (go_at_call 25; (with_reducible refine (calendar_Month.calls k3 ((rd_T39 y268 x94_3).f2) t274 t275 _ ?side1 A51.out).mono ?_); (case side1 => exact GL.below HG.out (by repeat (first | (with_reducible first | exact HB.out | apply bA | apply bN | apply b1 | refine bS ?_ GE273.out) | exact HB.out))); rintro e w' ⟨rfl, ⟨nd, rfl⟩⟩; (try first | exact ⟨rfl, _, World.drewN_drewN _ _ _⟩ | exact ⟨rfl, _, Eq.trans (World.drewN_drewN _ _ _) (congrArg (World.drewN _) (Nat.add_assoc _ _ _))⟩); have p276 : 0 ≤ (0 : Int) := (by omega); have q276 : 0 < (y268.length : Int) := oT (by first | (with_reducible assumption) | assumption); obtain ⟨ad276, e276, hx276_0, hx276_1, hx276_2, hx276_3⟩ := at_T39 (SNHR271_273.out _ (Below.setCell (p := ⟨gb273, 3, none⟩) (Below.setCell (p := ⟨gb273, 2, none⟩) (Below.setCell (p := ⟨gb273, 1, none⟩) (Below.setCell (p := ⟨gb273, 0, none⟩) (Below.refl _ _) (Nat.le_refl _) (.int .i64 ((rd_T39 y268 x94_3).f0))) (Nat.le_refl _) (.int .i64 ((rd_T39 y268 x94_3).f1))) (Nat.le_refl _) (.int .i64 ((rd_T39 y268 x94_3).f2))) (Nat.le_refl _) (.int .i64 ((rd_T39 y268 x94_3).f3)))) 0 p276 q276; obtain rfl : ad272 = ad276 := (by injection e276); have qi276 : (0 < y268.length) = True := eq_true (by omega); (try rw [show ((0 : Int)).toNat = 0 from rfl] at hx276_0); (try rw [show 0 * 4 = 0 from rfl] at hx276_0); (try rw [Addr.add_zero'] at hx276_0); (try rw [show ((0 : Int)).toNat = 0 from rfl] at hx276_1); (try rw [show 0 * 4 = 0 from rfl] at hx276_1); (try rw [Addr.add_zero'] at hx276_1); (try rw [show ((0 : Int)).toNat = 0 from rfl] at hx276_2); (try rw [show 0 * 4 = 0 from rfl] at hx276_2); (try rw [Addr.add_zero'] at hx276_2); (try rw [show ((0 : Int)).toNat = 0 from rfl] at hx276_3); (try rw [show 0 * 4 = 0 from rfl] at hx276_3); (try rw [Addr.add_zero'] at hx276_3); (try have hy276_0 := fun (n_ : Nat) => (show ((((((w59.drewN n_).setCell ⟨gb273, 0, none⟩ (.int .i64 ((rd_T39 y268 x94_3).f0))).setCell ⟨gb273, 1, none⟩ (.int .i64 ((rd_T39 y268 x94_3).f1))).setCell ⟨gb273, 2, none⟩ (.int .i64 ((rd_T39 y268 x94_3).f2))).setCell ⟨gb273, 3, none⟩ (.int .i64 ((rd_T39 y268 x94_3).f3)))).cell? _ = some _ from hx276_0)); (try have hy276_1 := fun (n_ : Nat) => (show ((((((w59.drewN n_).setCell ⟨gb273, 0, none⟩ (.int .i64 ((rd_T39 y268 x94_3).f0))).setCell ⟨gb273, 1, none⟩ (.int .i64 ((rd_T39 y268 x94_3).f1))).setCell ⟨gb273, 2, none⟩ (.int .i64 ((rd_T39 y268 x94_3).f2))).setCell ⟨gb273, 3, none⟩ (.int .i64 ((rd_T39 y268 x94_3).f3)))).cell? _ = some _ from hx276_1)); (try have hy276_2 := fun (n_ : Nat) => (show ((((((w59.drewN n_).setCell ⟨gb273, 0, none⟩ (.int .i64 ((rd_T39 y268 x94_3).f0))).setCell ⟨gb273, 1, none⟩ (.int .i64 ((rd_T39 y268 x94_3).f1))).setCell ⟨gb273, 2, none⟩ (.int .i64 ((rd_T39 y268 x94_3).f2))).setCell ⟨gb273, 3, none⟩ (.int .i64 ((rd_T39 y268 x94_3).f3)))).cell? _ = some _ from hx276_2)); (try have hy276_3 := fun (n_ : Nat) => (show ((((((w59.drewN n_).setCell ⟨gb273, 0, none⟩ (.int .i64 ((rd_T39 y268 x94_3).f0))).setCell ⟨gb273, 1, none⟩ (.int .i64 ((rd_T39 y268 x94_3).f1))).setCell ⟨gb273, 2, none⟩ (.int .i64 ((rd_T39 y268 x94_3).f2))).setCell ⟨gb273, 3, none⟩ (.int .i64 ((rd_T39 y268 x94_3).f3)))).cell? _ = some _ from hx276_3)); replace p276 := eq_true p276; replace q276 := eq_true q276; have p277 : 0 ≤ (0 : Int) := (by omega); have q277 : 0 < (y268.length : Int) := oT (by first | (with_reducible assumption) | assumption); obtain ⟨ad277, e277, hx277_0, hx277_1, hx277_2, hx277_3⟩ := at_T39 (SNHR271_273.out _ (Below.setCell (p := ⟨gb273, 3, none⟩) (Below.setCell (p := ⟨gb273, 2, none⟩) (Below.setCell (p := ⟨gb273, 1, none⟩) (Below.setCell (p := ⟨gb273, 0, none⟩) (Below.refl _ _) (Nat.le_refl _) (.int .i64 ((rd_T39 y268 x94_3).f0))) (Nat.le_refl _) (.int .i64 ((rd_T39 y268 x94_3).f1))) (Nat.le_refl _) (.int .i64 ((rd_T39 y268 x94_3).f2))) (Nat.le_refl _) (.int .i64 ((rd_T39 y268 x94_3).f3)))) 0 p277 q277; obtain rfl : ad272 = ad277 := (by injection e277); have qi277 : (0 < y268.length) = True := eq_true (by omega); (try rw [show ((0 : Int)).toNat = 0 from rfl] at hx277_0); (try rw [show 0 * 4 = 0 from rfl] at hx277_0); (try rw [Addr.add_zero'] at hx277_0); (try rw [show ((0 : Int)).toNat = 0 from rfl] at hx277_1); (try rw [show 0 * 4 = 0 from rfl] at hx277_1); (try rw [Addr.add_zero'] at hx277_1); (try rw [show ((0 : Int)).toNat = 0 from rfl] at hx277_2); (try rw [show 0 * 4 = 0 from rfl] at hx277_2); (try rw [Addr.add_zero'] at hx277_2); (try rw [show ((0 : Int)).toNat = 0 from rfl] at hx277_3); (try rw [show 0 * 4 = 0 from rfl] at hx277_3); (try rw [Addr.add_zero'] at hx277_3); (try have hy277_0 := fun (n_ : Nat) => (show ((((((w59.drewN n_).setCell ⟨gb273, 0, none⟩ (.int .i64 ((rd_T39 y268 x94_3).f0))).setCell ⟨gb273, 1, none⟩ (.int .i64 ((rd_T39 y268 x94_3).f1))).setCell ⟨gb273, 2, none⟩ (.int .i64 ((rd_T39 y268 x94_3).f2))).setCell ⟨gb273, 3, none⟩ (.int .i64 ((rd_T39 y268 x94_3).f3)))).cell? _ = some _ from hx277_0)); (try have hy277_1 := fun (n_ : Nat) => (show ((((((w59.drewN n_).setCell ⟨gb273, 0, none⟩ (.int .i64 ((rd_T39 y268 x94_3).f0))).setCell ⟨gb273, 1, none⟩ (.int .i64 ((rd_T39 y268 x94_3).f1))).setCell ⟨gb273, 2, none⟩ (.int .i64 ((rd_T39 y268 x94_3).f2))).setCell ⟨gb273, 3, none⟩ (.int .i64 ((rd_T39 y268 x94_3).f3)))).cell? _ = some _ from hx277_1)); (try have hy277_2 := fun (n_ : Nat) => (show ((((((w59.drewN n_).setCell ⟨gb273, 0, none⟩ (.int .i64 ((rd_T39 y268 x94_3).f0))).setCell ⟨gb273, 1, none⟩ (.int .i64 ((rd_T39 y268 x94_3).f1))).setCell ⟨gb273, 2, none⟩ (.int .i64 ((rd_T39 y268 x94_3).f2))).setCell ⟨gb273, 3, none⟩ (.int .i64 ((rd_T39 y268 x94_3).f3)))).cell? _ = some _ from hx277_2)); (try have hy277_3 := fun (n_ : Nat) => (show ((((((w59.drewN n_).setCell ⟨gb273, 0, none⟩ (.int .i64 ((rd_T39 y268 x94_3).f0))).setCell ⟨gb273, 1, none⟩ (.int .i64 ((rd_T39 y268 x94_3).f1))).setCell ⟨gb273, 2, none⟩ (.int .i64 ((rd_T39 y268 x94_3).f2))).setCell ⟨gb273, 3, none⟩ (.int .i64 ((rd_T39 y268 x94_3).f3)))).cell? _ = some _ from hx277_3)); replace p277 := eq_true p277; replace q277 := eq_true q277)); try go_wp2_with (first | ((with_reducible refine gate_dst (N := 18) rfl ?_); (try (refine gate_guard (by rfl) ?_; dsimp only)); refine box_event ?hg (N := 18) ?hd (cs := #[.int .i64 0, .int .i64 0, .int .i64 0, .int .i64 0]) (t := 39) ?hr ?_; (case hd => rfl); (case hg => rfl); (case hr => first | (go_simp; done) | (go_simp; rfl)); intro gb273 hg w59 hbox hb; have n0_ := Aside0.mk (Kd.R_below (Kd.R_elderB (by (with_reducible repeat (first | apply Kd.R_alloc | apply Kd.R_drewN | apply Kd.R_drew)); exact HO_8.out) gb273 (Nat.le_of_eq hg.symm)) hb); have n1_ := Aside0.mk ((fun W_ (hW_ : Below gb273 w59 W_) => Kd.C_below (by repeat (first | (with_reducible exact HR271.out) | (with_reducible refine Kd.C_alloc ?_ _) | (with_reducible refine Kd.C_drewN ?_ _) | (with_reducible refine Kd.C_drew ?_) | exact HR271.out)) (hb.trans (by rw [← hg]; exact hW_)))); have n2_ := Aside0.mk (Kd.C_below (by repeat (first | (with_reducible exact HR271.out) | (with_reducible refine Kd.C_alloc ?_ _) | (with_reducible refine Kd.C_drewN ?_ _) | (with_reducible refine Kd.C_drew ?_) | exact HR271.out)) hb); have n3_ := Aside0.mk (bT (by repeat (first | (with_reducible first | exact HB.out | apply bA | apply bN | apply b1) | exact HB.out)) hb); have n4_ := Aside0.mk (hbox); have n5_ := Aside0.mk ((by rw [hg]; exact (bZ (by repeat (first | (with_reducible first | exact HB.out | apply bA | apply bN | apply b1) | exact HB.out))) : w.heap.size ≤ gb273)); have n6_ := n5_; clear HO_8; clear HR271; clear HB; have HO_8 := n0_; have SNHR271_273 := n1_; have HR271 := n2_; have HB := n3_; have BK273 := n4_; have GW273 := n5_; have GE273 := n6_; clear n0_ n1_ n2_ n3_ n4_ n5_ n6_; clear hb hbox hg; have hcz60_0 : w59.cell? ⟨gb273, 0, none⟩ = some (.int .i64 0) := (kC BK273.out 0).trans rfl; have hcz60_1 : w59.cell? ⟨gb273, 1, none⟩ = some (.int .i64 0) := (kC BK273.out 1).trans rfl; have hcz60_2 : w59.cell? ⟨gb273, 2, none⟩ = some (.int .i64 0) := (kC BK273.out 2).trans rfl; have hcz60_3 : w59.cell? ⟨gb273, 3, none⟩ = some (.int .i64 0) := (kC BK273.out 3).trans rfl; have hfz60_0 := blk_frozen BK273.out 0; have hfz60_1 := blk_frozen BK273.out 1; have hfz60_2 := blk_frozen BK273.out 2; have hfz60_3 := blk_frozen BK273.out 3) | (go_at_call 25; (with_reducible refine (calendar_Month.calls k3 ((rd_T39 y268 x94_3).f2) t274 t275 _ ?side1 A51.out).mono ?_); (case side1 => exact GL.below HG.out (by repeat (first | (with_reducible first | exact HB.out | apply bA | apply bN | apply b1 | refine bS ?_ GE273.out) | exact HB.out))); rintro e w' ⟨rfl, ⟨nd, rfl⟩⟩; (try first | exact ⟨rfl, _, World.drewN_drewN _ _ _⟩ | exact ⟨rfl, _, Eq.trans (World.drewN_drewN _ _ _) (congrArg (World.drewN _) (Nat.add_assoc _ _ _))⟩); have p276 : 0 ≤ (0 : Int) := (by omega); have q276 : 0 < (y268.length : Int) := oT (by first | (with_reducible assumption) | assumption); obtain ⟨ad276, e276, hx276_0, hx276_1, hx276_2, hx276_3⟩ := at_T39 (SNHR271_273.out _ (Below.setCell (p := ⟨gb273, 3, none⟩) (Below.setCell (p := ⟨gb273, 2, none⟩) (Below.setCell (p := ⟨gb273, 1, none⟩) (Below.setCell (p := ⟨gb273, 0, none⟩) (Below.refl _ _) (Nat.le_refl _) (.int .i64 ((rd_T39 y268 x94_3).f0))) (Nat.le_refl _) (.int .i64 ((rd_T39 y268 x94_3).f1))) (Nat.le_refl _) (.int .i64 ((rd_T39 y268 x94_3).f2))) (Nat.le_refl _) (.int .i64 ((rd_T39 y268 x94_3).f3)))) 0 p276 q276; obtain rfl : ad272 = ad276 := (by injection e276); have qi276 : (0 < y268.length) = True := eq_true (by omega); (try rw [show ((0 : Int)).toNat = 0 from rfl] at hx276_0); (try rw [show 0 * 4 = 0 from rfl] at hx276_0); (try rw [Addr.add_zero'] at hx276_0); (try rw [show ((0 : Int)).toNat = 0 from rfl] at hx276_1); (try rw [show 0 * 4 = 0 from rfl] at hx276_1); (try rw [Addr.add_zero'] at hx276_1); (try rw [show ((0 : Int)).toNat = 0 from rfl] at hx276_2); (try rw [show 0 * 4 = 0 from rfl] at hx276_2); (try rw [Addr.add_zero'] at hx276_2); (try rw [show ((0 : Int)).toNat = 0 from rfl] at hx276_3); (try rw [show 0 * 4 = 0 from rfl] at hx276_3); (try rw [Addr.add_zero'] at hx276_3); (try have hy276_0 := fun (n_ : Nat) => (show ((((((w59.drewN n_).setCell ⟨gb273, 0, none⟩ (.int .i64 ((rd_T39 y268 x94_3).f0))).setCell ⟨gb273, 1, none⟩ (.int .i64 ((rd_T39 y268 x94_3).f1))).setCell ⟨gb273, 2, none⟩ (.int .i64 ((rd_T39 y268 x94_3).f2))).setCell ⟨gb273, 3, none⟩ (.int .i64 ((rd_T39 y268 x94_3).f3)))).cell? _ = some _ from hx276_0)); (try have hy276_1 := fun (n_ : Nat) => (show ((((((w59.drewN n_).setCell ⟨gb273, 0, none⟩ (.int .i64 ((rd_T39 y268 x94_3).f0))).setCell ⟨gb273, 1, none⟩ (.int .i64 ((rd_T39 y268 x94_3).f1))).setCell ⟨gb273, 2, none⟩ (.int .i64 ((rd_T39 y268 x94_3).f2))).setCell ⟨gb273, 3, none⟩ (.int .i64 ((rd_T39 y268 x94_3).f3)))).cell? _ = some _ from hx276_1)); (try have hy276_2 := fun (n_ : Nat) => (show ((((((w59.drewN n_).setCell ⟨gb273, 0, none⟩ (.int .i64 ((rd_T39 y268 x94_3).f0))).setCell ⟨gb273, 1, none⟩ (.int .i64 ((rd_T39 y268 x94_3).f1))).setCell ⟨gb273, 2, none⟩ (.int .i64 ((rd_T39 y268 x94_3).f2))).setCell ⟨gb273, 3, none⟩ (.int .i64 ((rd_T39 y268 x94_3).f3)))).cell? _ = some _ from hx276_2)); (try have hy276_3 := fun (n_ : Nat) => (show ((((((w59.drewN n_).setCell ⟨gb273, 0, none⟩ (.int .i64 ((rd_T39 y268 x94_3).f0))).setCell ⟨gb273, 1, none⟩ (.int .i64 ((rd_T39 y268 x94_3).f1))).setCell ⟨gb273, 2, none⟩ (.int .i64 ((rd_T39 y268 x94_3).f2))).setCell ⟨gb273, 3, none⟩ (.int .i64 ((rd_T39 y268 x94_3).f3)))).cell? _ = some _ from hx276_3)); replace p276 := eq_true p276; replace q276 := eq_true q276; have p277 : 0 ≤ (0 : Int) := (by omega); have q277 : 0 < (y268.length : Int) := oT (by first | (with_reducible assumption) | assumption); obtain ⟨ad277, e277, hx277_0, hx277_1, hx277_2, hx277_3⟩ := at_T39 (SNHR271_273.out _ (Below.setCell (p := ⟨gb273, 3, none⟩) (Below.setCell (p := ⟨gb273, 2, none⟩) (Below.setCell (p := ⟨gb273, 1, none⟩) (Below.setCell (p := ⟨gb273, 0, none⟩) (Below.refl _ _) (Nat.le_refl _) (.int .i64 ((rd_T39 y268 x94_3).f0))) (Nat.le_refl _) (.int .i64 ((rd_T39 y268 x94_3).f1))) (Nat.le_refl _) (.int .i64 ((rd_T39 y268 x94_3).f2))) (Nat.le_refl _) (.int .i64 ((rd_T39 y268 x94_3).f3)))) 0 p277 q277; obtain rfl : ad272 = ad277 := (by injection e277); have qi277 : (0 < y268.length) = True := eq_true (by omega); (try rw [show ((0 : Int)).toNat = 0 from rfl] at hx277_0); (try rw [show 0 * 4 = 0 from rfl] at hx277_0); (try rw [Addr.add_zero'] at hx277_0); (try rw [show ((0 : Int)).toNat = 0 from rfl] at hx277_1); (try rw [show 0 * 4 = 0 from rfl] at hx277_1); (try rw [Addr.add_zero'] at hx277_1); (try rw [show ((0 : Int)).toNat = 0 from rfl] at hx277_2); (try rw [show 0 * 4 = 0 from rfl] at hx277_2); (try rw [Addr.add_zero'] at hx277_2); (try rw [show ((0 : Int)).toNat = 0 from rfl] at hx277_3); (try rw [show 0 * 4 = 0 from rfl] at hx277_3); (try rw [Addr.add_zero'] at hx277_3); (try have hy277_0 := fun (n_ : Nat) => (show ((((((w59.drewN n_).setCell ⟨gb273, 0, none⟩ (.int .i64 ((rd_T39 y268 x94_3).f0))).setCell ⟨gb273, 1, none⟩ (.int .i64 ((rd_T39 y268 x94_3).f1))).setCell ⟨gb273, 2, none⟩ (.int .i64 ((rd_T39 y268 x94_3).f2))).setCell ⟨gb273, 3, none⟩ (.int .i64 ((rd_T39 y268 x94_3).f3)))).cell? _ = some _ from hx277_0)); (try have hy277_1 := fun (n_ : Nat) => (show ((((((w59.drewN n_).setCell ⟨gb273, 0, none⟩ (.int .i64 ((rd_T39 y268 x94_3).f0))).setCell ⟨gb273, 1, none⟩ (.int .i64 ((rd_T39 y268 x94_3).f1))).setCell ⟨gb273, 2, none⟩ (.int .i64 ((rd_T39 y268 x94_3).f2))).setCell ⟨gb273, 3, none⟩ (.int .i64 ((rd_T39 y268 x94_3).f3)))).cell? _ = some _ from hx277_1)); (try have hy277_2 := fun (n_ : Nat) => (show ((((((w59.drewN n_).setCell ⟨gb273, 0, none⟩ (.int .i64 ((rd_T39 y268 x94_3).f0))).setCell ⟨gb273, 1, none⟩ (.int .i64 ((rd_T39 y268 x94_3).f1))).setCell ⟨gb273, 2, none⟩ (.int .i64 ((rd_T39 y268 x94_3).f2))).setCell ⟨gb273, 3, none⟩ (.int .i64 ((rd_T39 y268 x94_3).f3)))).cell? _ = some _ from hx277_2)); (try have hy277_3 := fun (n_ : Nat) => (show ((((((w59.drewN n_).setCell ⟨gb273, 0, none⟩ (.int .i64 ((rd_T39 y268 x94_3).f0))).setCell ⟨gb273, 1, none⟩ (.int .i64 ((rd_T39 y268 x94_3).f1))).setCell ⟨gb273, 2, none⟩ (.int .i64 ((rd_T39 y268 x94_3).f2))).setCell ⟨gb273, 3, none⟩ (.int .i64 ((rd_T39 y268 x94_3).f3)))).cell? _ = some _ from hx277_3)); replace p277 := eq_true p277; replace q277 := eq_true q277)))
                        go_roundg k3
                        case measure => have := HK1.out; have := HJ23.out; have := HK3.out; omega
                        case rel => exact ⟨(true), (wrap64 (x94_3 + 1)), (by first | rfl | (simp; done) | (simp [*]; done)), (by first | rfl | (simp; done) | (simp [*]; done)), H', ⟨by have := HK1.out; have := HJ23.out; have := HK3.out; omega⟩, ⟨by (with_reducible repeat (first | apply Kd.R_alloc | apply Kd.R_drewN | apply Kd.R_drew)); exact Kd.R_mono (Kd.R_far (p := ⟨gb273, 3, none⟩) (Kd.R_far (p := ⟨gb273, 2, none⟩) (Kd.R_far (p := ⟨gb273, 1, none⟩) (Kd.R_far (p := ⟨gb273, 0, none⟩) (Kd.R_mono HO_8.out (fun k_ hk => (⟨hk, hk.2⟩ : _ ∧ k_ ≠ gb273))) (fun _ hk => hk.2) (.int .i64 ((rd_T39 y268 x94_3).f0))) (fun _ hk => hk.2) (.int .i64 ((rd_T39 y268 x94_3).f1))) (fun _ hk => hk.2) (.int .i64 ((rd_T39 y268 x94_3).f2))) (fun _ hk => hk.2) (.int .i64 ((rd_T39 y268 x94_3).f3))) (fun _ hk => trivial)⟩, ⟨by (with_reducible repeat (first | apply Kd.C_alloc | apply Kd.C_drewN | apply Kd.C_drew)); exact (SNHR271_273.out _ (Below.setCell (p := ⟨gb273, 3, none⟩) (Below.setCell (p := ⟨gb273, 2, none⟩) (Below.setCell (p := ⟨gb273, 1, none⟩) (Below.setCell (p := ⟨gb273, 0, none⟩) (Below.refl _ _) (Nat.le_refl _) (.int .i64 ((rd_T39 y268 x94_3).f0))) (Nat.le_refl _) (.int .i64 ((rd_T39 y268 x94_3).f1))) (Nat.le_refl _) (.int .i64 ((rd_T39 y268 x94_3).f2))) (Nat.le_refl _) (.int .i64 ((rd_T39 y268 x94_3).f3))))⟩, ⟨by repeat (first | (with_reducible first | exact HB.out | apply bA | apply bN | apply b1 | refine bS ?_ GE273.out) | exact HB.out)⟩⟩
                       ·rw [if_neg c58] at H
                        exact absurd H (by simp)
                      ·rw [if_neg c57] at H
                       exact absurd H (by simp)
                     ·rw [if_neg c56] at H
                      exact absurd H (by simp)
                    ·rw [if_neg c55] at H
                     exact absurd H (by simp)
                   ·rw [if_neg c54] at H
                    exact absurd H (by simp)
                  ·rw [if_neg c53] at H
                   exact absurd H (by simp)
                 ·replace c52 := Bool.eq_false_iff.mpr c52
                  subst c52
                  have H1 : (none) = some r := by rw [if_neg (show ¬ (false = true) by decide)] at H; exact H
                  clear H
                  have H := H1
                  clear H1
                  exact absurd H (by simp)
                ·rw [if_neg c50] at H
                 exact absurd H (by simp)
               ·rw [if_neg c49] at H
                exact absurd H (by simp)
              ·rw [if_neg c48] at H
               have c48b0 : decide (x94_3 < (y268.length : Int)) = false := dF c48
               clear c48
               have H' := Aside0.mk H
               clear H
               go_wp2
               repeat (go_quiet (fail); try go_wp2)
               go_loopg [7, 11, 145] k3 (fun kq v7 v11 v145 w' => ∃ (x7_4 : Bool) (x11_4 : Int) (x145_4 : Int), v7 = .bool x7_4 ∧ v11 = .int .i64 x11_4 ∧ v145 = .int .i64 x145_4 ∧ Aside0 (cohousinglaw34_SetoffPlan.l2 kq a1 x7_4 t250 x11_4 t250 (t250.length : Int) x145_4 = some r) ∧ Aside0 (kq ≤ k3) ∧ Aside0 (Kd.R k39 39 w' w.heap.size (fun _ => True) (.slice Ao47 t250.length co47) t250) ∧ Aside0 (Kd.R k39 39 w' w.heap.size (fun _ => True) (.slice Ao47 t250.length co47) t250) ∧ Aside0 (Kd.C k39 w' A46 y268.length y268) ∧ Aside0 (Below w.heap.size w w'))
               case atStart => exact ⟨(x7_3), (x11_1), (0), (by first | rfl | (simp; done) | (simp [*]; done)), (by first | rfl | (simp; done) | (simp [*]; done)), (by first | rfl | (simp; done) | (simp [*]; done)), H', ⟨Nat.le_refl _⟩, ⟨by (with_reducible repeat (first | apply Kd.R_alloc | apply Kd.R_drewN | apply Kd.R_drew)); exact HO_8.out⟩, ⟨by (with_reducible repeat (first | apply Kd.R_alloc | apply Kd.R_drewN | apply Kd.R_drew)); exact HO_8.out⟩, ⟨by repeat (first | (with_reducible exact HR271.out) | (with_reducible refine Kd.C_alloc ?_ _) | (with_reducible refine Kd.C_drewN ?_ _) | (with_reducible refine Kd.C_drew ?_) | exact HR271.out)⟩, ⟨by repeat (first | (with_reducible first | exact HB.out | apply bA | apply bN | apply b1) | exact HB.out)⟩⟩
               case round =>
                clear H'
                try clear c1
                try clear c2
                try clear p2
                try clear q2
                try clear hx2
                try clear qi2
                try clear q3
                try clear c4
                try clear q4
                try clear c5
                try clear p6
                try clear c7
                try clear c7b0
                try clear c7b1
                try clear c8
                try clear c10
                try clear c10b0
                try clear c11
                try clear c11b0
                try clear c12
                try clear c12b0
                try clear c14
                try clear c18
                try clear c25
                try clear c25b0
                try clear c25b1
                try clear p25
                try clear q25
                try clear hx25
                try clear c27
                try clear p27
                try clear q27
                try clear hx27
                try clear qi27
                try clear c28
                try clear c28b0
                try clear c28b1
                try clear c29
                try clear c29b0
                try clear c29b1
                try clear q34
                try clear c40
                try clear c42
                try clear c42b0
                try clear c42b1
                try clear c43
                try clear c43b0
                try clear c43b1
                try clear c44
                try clear c44b0
                try clear c44b1
                try clear c46
                try clear q46
                try clear c48
                try clear c48b0
                try clear c49
                try clear c49b0
                try clear c50
                try clear c50b0
                try clear c52
                try clear c53
                try clear c53b0
                try clear c53b1
                try clear c54
                try clear c54b0
                try clear c54b1
                try clear c55
                try clear c55b0
                try clear c55b1
                try clear c56
                try clear c56b0
                try clear c56b1
                try clear c57
                try clear c57b0
                try clear c58
                try clear c58b0
                try clear hcz16_0
                try clear hcz16_1
                try clear hcz16_2
                try clear hcz16_3
                try clear hcz20_0
                try clear hcz20_1
                try clear hcz20_2
                try clear hcz20_3
                try clear hcz22_0
                try clear hcz22_1
                try clear hcz22_2
                try clear hcz22_3
                try clear hcz60_0
                try clear hcz60_1
                try clear hcz60_2
                try clear hcz60_3
                try clear hfz16_0
                try clear hfz16_1
                try clear hfz16_2
                try clear hfz16_3
                try clear hfz20_0
                try clear hfz20_1
                try clear hfz20_2
                try clear hfz20_3
                try clear hfz22_0
                try clear hfz22_1
                try clear hfz22_2
                try clear hfz22_3
                try clear hfz60_0
                try clear hfz60_1
                try clear hfz60_2
                try clear hfz60_3
                try clear hx254_0
                try clear hx254_1
                try clear hx254_2
                try clear hx254_3
                try clear hx272_0
                try clear hx272_1
                try clear hx272_2
                try clear hx272_3
                try clear hx276_0
                try clear hx276_1
                try clear hx276_2
                try clear hx276_3
                try clear hx277_0
                try clear hx277_1
                try clear hx277_2
                try clear hx277_3
                try clear p2
                try clear p25
                try clear p254
                try clear p272
                try clear p276
                try clear p277
                try clear p6
                try clear q046
                try clear q2
                try clear q25
                try clear q254
                try clear q272
                try clear q276
                try clear q277
                try clear q3
                try clear q34
                try clear q4
                try clear q46
                obtain ⟨x7_4, x11_4, x145_4, rfl, rfl, rfl, HA, HK4, HO_8, HO_143, HR271, HB⟩ := hrel
                cases gk with
                | zero => exact absurd HA.out (by simp [cohousinglaw34_SetoffPlan.l2])
                | succ k4 =>
                 have H := HA.out
                 clear HA
                 simp only [cohousinglaw34_SetoffPlan.l2] at H
                 by_cases c61 : x145_4 < (t250.length : Int)
                 ·rw [if_pos c61] at H
                  have c61b0 : decide (x145_4 < (t250.length : Int)) = true := dT c61
                  clear c61
                  by_cases c62 : 0 ≤ x145_4
                  ·rw [if_pos c62] at H
                   have c62b0 : decide (0 ≤ x145_4) = true := dT c62
                   clear c62
                   by_cases c63 : x145_4 < (t250.length : Int)
                   ·rw [if_pos c63] at H
                    have c63b0 : decide (x145_4 < (t250.length : Int)) = true := dT c63
                    clear c63
                    by_cases c64 : x7_4 = true
                    ·subst c64
                     have H1 : ((cohousingref34_Late.f ((rd_T39 t250 x145_4).f0) ((rd_T39 t250 x145_4).f1) ((rd_T39 t250 x145_4).f2) ((rd_T39 t250 x145_4).f3) a1 3).bind fun t280 => (if t280 = true then (none) else (cohousinglaw34_SetoffPlan.l2 k4 a1 true t250 (wrap64 (x11_4 - ((rd_T39 t250 x145_4).f3))) t250 (t250.length : Int) (wrap64 (x145_4 + 1))))) = some r := by rw [if_pos rfl] at H; exact H
                     clear H
                     have H := H1
                     clear H1
                     replace H := Option.bind_eq_some_iff.mp H
                     obtain ⟨t280, A650, H⟩ := H
                     replace H : (if t280 = true then (none) else (cohousinglaw34_SetoffPlan.l2 k4 a1 true t250 (wrap64 (x11_4 - ((rd_T39 t250 x145_4).f3))) t250 (t250.length : Int) (wrap64 (x145_4 + 1)))) = some r := H
                     have A65 := Aside0.mk A650
                     clear A650
                     by_cases c66 : t280 = true
                     ·subst c66
                      have H1 : (none) = some r := by rw [if_pos rfl] at H; exact H
                      clear H
                      have H := H1
                      clear H1
                      exact absurd H (by simp)
                     ·replace c66 := Bool.eq_false_iff.mpr c66
                      subst c66
                      have H1 : (cohousinglaw34_SetoffPlan.l2 k4 a1 true t250 (wrap64 (x11_4 - ((rd_T39 t250 x145_4).f3))) t250 (t250.length : Int) (wrap64 (x145_4 + 1))) = some r := by rw [if_neg (show ¬ (false = true) by decide)] at H; exact H
                      clear H
                      have H := H1
                      clear H1
                      have H' := Aside0.mk H
                      clear H
                      have p278 : 0 ≤ (x145_4 : Int) := oT (by first | (with_reducible assumption) | assumption)
                      have q278 : x145_4 < (t250.length : Int) := oT (by first | (with_reducible assumption) | assumption)
                      obtain ⟨ad278, e278, hx278_0, hx278_1, hx278_2, hx278_3⟩ := at_T39 (Kd.R_reads' HO_143.out).2.2 x145_4 p278 q278
                      cases e278
                      replace p278 := eq_true p278
                      replace q278 := eq_true q278
                      go_wp2_with (first | ((with_reducible refine gate_dst (N := 22) rfl ?_); (try (refine gate_guard (by rfl) ?_; dsimp only)); refine box_event ?hg (N := 22) ?hd (cs := #[.int .i64 0, .int .i64 0, .int .i64 0, .int .i64 0]) (t := 39) ?hr ?_; (case hd => rfl); (case hg => rfl); (case hr => first | (go_simp; done) | (go_simp; rfl)); intro gb279 hg w67 hbox hb; have n0_ := Aside0.mk (Kd.R_below (Kd.R_elderB (by (with_reducible repeat (first | apply Kd.R_alloc | apply Kd.R_drewN | apply Kd.R_drew)); exact HO_8.out) gb279 (Nat.le_of_eq hg.symm)) hb); have n1_ := Aside0.mk (Kd.R_below (Kd.R_elderB (by (with_reducible repeat (first | apply Kd.R_alloc | apply Kd.R_drewN | apply Kd.R_drew)); exact HO_143.out) gb279 (Nat.le_of_eq hg.symm)) hb); have n2_ := Aside0.mk ((fun W_ (hW_ : Below gb279 w67 W_) => Kd.C_below (by repeat (first | (with_reducible exact HR271.out) | (with_reducible refine Kd.C_alloc ?_ _) | (with_reducible refine Kd.C_drewN ?_ _) | (with_reducible refine Kd.C_drew ?_) | exact HR271.out)) (hb.trans (by rw [← hg]; exact hW_)))); have n3_ := Aside0.mk (Kd.C_below (by repeat (first | (with_reducible exact HR271.out) | (with_reducible refine Kd.C_alloc ?_ _) | (with_reducible refine Kd.C_drewN ?_ _) | (with_reducible refine Kd.C_drew ?_) | exact HR271.out)) hb); have n4_ := Aside0.mk (bT (by repeat (first | (with_reducible first | exact HB.out | apply bA | apply bN | apply b1) | exact HB.out)) hb); have n5_ := Aside0.mk (hbox); have n6_ := Aside0.mk ((by rw [hg]; exact (bZ (by repeat (first | (with_reducible first | exact HB.out | apply bA | apply bN | apply b1) | exact HB.out))) : w.heap.size ≤ gb279)); have n7_ := n6_; clear HO_8; clear HO_143; clear HR271; clear HB; have HO_8 := n0_; have HO_143 := n1_; have SNHR271_279 := n2_; have HR271 := n3_; have HB := n4_; have BK279 := n5_; have GW279 := n6_; have GE279 := n7_; clear n0_ n1_ n2_ n3_ n4_ n5_ n6_ n7_; clear hb hbox hg; have hcz68_0 : w67.cell? ⟨gb279, 0, none⟩ = some (.int .i64 0) := (kC BK279.out 0).trans rfl; have hcz68_1 : w67.cell? ⟨gb279, 1, none⟩ = some (.int .i64 0) := (kC BK279.out 1).trans rfl; have hcz68_2 : w67.cell? ⟨gb279, 2, none⟩ = some (.int .i64 0) := (kC BK279.out 2).trans rfl; have hcz68_3 : w67.cell? ⟨gb279, 3, none⟩ = some (.int .i64 0) := (kC BK279.out 3).trans rfl; have hfz68_0 := blk_frozen BK279.out 0; have hfz68_1 := blk_frozen BK279.out 1; have hfz68_2 := blk_frozen BK279.out 2; have hfz68_3 := blk_frozen BK279.out 3) | (go_at_call 24; (with_reducible refine (cohousingref34_Late.calls ((rd_T39 t250 x145_4).f0) ((rd_T39 t250 x145_4).f1) ((rd_T39 t250 x145_4).f2) ((rd_T39 t250 x145_4).f3) a1 3 false _ A65.out).mono ?_); rintro e w69 ⟨rfl, hb⟩; have n0_ := Aside0.mk (Kd.R_below (by (with_reducible repeat (first | apply Kd.R_alloc | apply Kd.R_drewN | apply Kd.R_drew)); exact (Kd.R_mono (Kd.R_far (p := ⟨gb279, 3, none⟩) (Kd.R_far (p := ⟨gb279, 2, none⟩) (Kd.R_far (p := ⟨gb279, 1, none⟩) (Kd.R_far (p := ⟨gb279, 0, none⟩) (Kd.R_mono HO_8.out (fun k_ hk => (⟨hk, hk.2⟩ : _ ∧ k_ ≠ gb279))) (fun _ hk => hk.2) (.int .i64 ((rd_T39 t250 x145_4).f0))) (fun _ hk => hk.2) (.int .i64 ((rd_T39 t250 x145_4).f1))) (fun _ hk => hk.2) (.int .i64 ((rd_T39 t250 x145_4).f2))) (fun _ hk => hk.2) (.int .i64 ((rd_T39 t250 x145_4).f3))) (fun _ h_ => h_.1))) hb); have n1_ := Aside0.mk (Kd.R_below (by (with_reducible repeat (first | apply Kd.R_alloc | apply Kd.R_drewN | apply Kd.R_drew)); exact (Kd.R_mono (Kd.R_far (p := ⟨gb279, 3, none⟩) (Kd.R_far (p := ⟨gb279, 2, none⟩) (Kd.R_far (p := ⟨gb279, 1, none⟩) (Kd.R_far (p := ⟨gb279, 0, none⟩) (Kd.R_mono HO_143.out (fun k_ hk => (⟨hk, hk.2⟩ : _ ∧ k_ ≠ gb279))) (fun _ hk => hk.2) (.int .i64 ((rd_T39 t250 x145_4).f0))) (fun _ hk => hk.2) (.int .i64 ((rd_T39 t250 x145_4).f1))) (fun _ hk => hk.2) (.int .i64 ((rd_T39 t250 x145_4).f2))) (fun _ hk => hk.2) (.int .i64 ((rd_T39 t250 x145_4).f3))) (fun _ h_ => h_.1))) hb); have n2_ := Aside0.mk (Kd.C_below (by (with_reducible repeat (first | apply Kd.C_alloc | apply Kd.C_drewN | apply Kd.C_drew)); exact (SNHR271_279.out _ (Below.setCell (p := ⟨gb279, 3, none⟩) (Below.setCell (p := ⟨gb279, 2, none⟩) (Below.setCell (p := ⟨gb279, 1, none⟩) (Below.setCell (p := ⟨gb279, 0, none⟩) (Below.refl _ _) (Nat.le_refl _) (.int .i64 ((rd_T39 t250 x145_4).f0))) (Nat.le_refl _) (.int .i64 ((rd_T39 t250 x145_4).f1))) (Nat.le_refl _) (.int .i64 ((rd_T39 t250 x145_4).f2))) (Nat.le_refl _) (.int .i64 ((rd_T39 t250 x145_4).f3))))) hb); have n3_ := Aside0.mk (kB (g := gb279) (o := .cells #[.int .i64 ((rd_T39 t250 x145_4).f0), .int .i64 ((rd_T39 t250 x145_4).f1), .int .i64 ((rd_T39 t250 x145_4).f2), .int .i64 ((rd_T39 t250 x145_4).f3)] 39 (0, 0)) (by (with_reducible repeat (first | refine kN ?_ _ | refine kD ?_ | refine kA ?_ _)); refine blk_put (cs := #[.int .i64 ((rd_T39 t250 x145_4).f0), .int .i64 ((rd_T39 t250 x145_4).f1), .int .i64 ((rd_T39 t250 x145_4).f2), .int .i64 0]) ?_ 3 _ rfl; (with_reducible repeat (first | refine kN ?_ _ | refine kD ?_ | refine kA ?_ _)); refine blk_put (cs := #[.int .i64 ((rd_T39 t250 x145_4).f0), .int .i64 ((rd_T39 t250 x145_4).f1), .int .i64 0, .int .i64 0]) ?_ 2 _ rfl; (with_reducible repeat (first | refine kN ?_ _ | refine kD ?_ | refine kA ?_ _)); refine blk_put (cs := #[.int .i64 ((rd_T39 t250 x145_4).f0), .int .i64 0, .int .i64 0, .int .i64 0]) ?_ 1 _ rfl; (with_reducible repeat (first | refine kN ?_ _ | refine kD ?_ | refine kA ?_ _)); refine blk_put (cs := #[.int .i64 0, .int .i64 0, .int .i64 0, .int .i64 0]) ?_ 0 _ rfl; (with_reducible repeat (first | refine kN ?_ _ | refine kD ?_ | refine kA ?_ _)); exact BK279.out) hb); have n4_ := Aside0.mk (bT (by repeat (first | (with_reducible first | exact HB.out | apply bA | apply bN | apply b1 | refine bS ?_ GE279.out) | exact HB.out)) hb); clear HO_8; clear HO_143; clear HR271; clear BK279; clear HB; have HO_8 := n0_; have HO_143 := n1_; have HR271 := n2_; have BK279 := n3_; have HB := n4_; clear n0_ n1_ n2_ n3_ n4_; (try clear hb); (try clear hb2); (try clear hk); (try clear hi)))
                      repeat (go_quiet (first | ((with_reducible refine gate_dst (N := 22) rfl ?_); (try (refine gate_guard (by rfl) ?_; dsimp only)); refine box_event ?hg (N := 22) ?hd (cs := #[.int .i64 0, .int .i64 0, .int .i64 0, .int .i64 0]) (t := 39) ?hr ?_; (case hd => rfl); (case hg => rfl); (case hr => first | (go_simp; done) | (go_simp; rfl)); intro gb279 hg w67 hbox hb; have n0_ := Aside0.mk (Kd.R_below (Kd.R_elderB (by (with_reducible repeat (first | apply Kd.R_alloc | apply Kd.R_drewN | apply Kd.R_drew)); exact HO_8.out) gb279 (Nat.le_of_eq hg.symm)) hb); have n1_ := Aside0.mk (Kd.R_below (Kd.R_elderB (by (with_reducible repeat (first | apply Kd.R_alloc | apply Kd.R_drewN | apply Kd.R_drew)); exact HO_143.out) gb279 (Nat.le_of_eq hg.symm)) hb); have n2_ := Aside0.mk ((fun W_ (hW_ : Below gb279 w67 W_) => Kd.C_below (by repeat (first | (with_reducible exact HR271.out) | (with_reducible refine Kd.C_alloc ?_ _) | (with_reducible refine Kd.C_drewN ?_ _) | (with_reducible refine Kd.C_drew ?_) | exact HR271.out)) (hb.trans (by rw [← hg]; exact hW_)))); have n3_ := Aside0.mk (Kd.C_below (by repeat (first | (with_reducible exact HR271.out) | (with_reducible refine Kd.C_alloc ?_ _) | (with_reducible refine Kd.C_drewN ?_ _) | (with_reducible refine Kd.C_drew ?_) | exact HR271.out)) hb); have n4_ := Aside0.mk (bT (by repeat (first | (with_reducible first | exact HB.out | apply bA | apply bN | apply b1) | exact HB.out)) hb); have n5_ := Aside0.mk (hbox); have n6_ := Aside0.mk ((by rw [hg]; exact (bZ (by repeat (first | (with_reducible first | exact HB.out | apply bA | apply bN | apply b1) | exact HB.out))) : w.heap.size ≤ gb279)); have n7_ := n6_; clear HO_8; clear HO_143; clear HR271; clear HB; have HO_8 := n0_; have HO_143 := n1_; have SNHR271_279 := n2_; have HR271 := n3_; have HB := n4_; have BK279 := n5_; have GW279 := n6_; have GE279 := n7_; clear n0_ n1_ n2_ n3_ n4_ n5_ n6_ n7_; clear hb hbox hg; have hcz68_0 : w67.cell? ⟨gb279, 0, none⟩ = some (.int .i64 0) := (kC BK279.out 0).trans rfl; have hcz68_1 : w67.cell? ⟨gb279, 1, none⟩ = some (.int .i64 0) := (kC BK279.out 1).trans rfl; have hcz68_2 : w67.cell? ⟨gb279, 2, none⟩ = some (.int .i64 0) := (kC BK279.out 2).trans rfl; have hcz68_3 : w67.cell? ⟨gb279, 3, none⟩ = some (.int .i64 0) := (kC BK279.out 3).trans rfl; have hfz68_0 := blk_frozen BK279.out 0; have hfz68_1 := blk_frozen BK279.out 1; have hfz68_2 := blk_frozen BK279.out 2; have hfz68_3 := blk_frozen BK279.out 3) | (go_at_call 24; (with_reducible refine (cohousingref34_Late.calls ((rd_T39 t250 x145_4).f0) ((rd_T39 t250 x145_4).f1) ((rd_T39 t250 x145_4).f2) ((rd_T39 t250 x145_4).f3) a1 3 false _ A65.out).mono ?_); rintro e w69 ⟨rfl, hb⟩; have n0_ := Aside0.mk (Kd.R_below (by (with_reducible repeat (first | apply Kd.R_alloc | apply Kd.R_drewN | apply Kd.R_drew)); exact (Kd.R_mono (Kd.R_far (p := ⟨gb279, 3, none⟩) (Kd.R_far (p := ⟨gb279, 2, none⟩) (Kd.R_far (p := ⟨gb279, 1, none⟩) (Kd.R_far (p := ⟨gb279, 0, none⟩) (Kd.R_mono HO_8.out (fun k_ hk => (⟨hk, hk.2⟩ : _ ∧ k_ ≠ gb279))) (fun _ hk => hk.2) (.int .i64 ((rd_T39 t250 x145_4).f0))) (fun _ hk => hk.2) (.int .i64 ((rd_T39 t250 x145_4).f1))) (fun _ hk => hk.2) (.int .i64 ((rd_T39 t250 x145_4).f2))) (fun _ hk => hk.2) (.int .i64 ((rd_T39 t250 x145_4).f3))) (fun _ h_ => h_.1))) hb); have n1_ := Aside0.mk (Kd.R_below (by (with_reducible repeat (first | apply Kd.R_alloc | apply Kd.R_drewN | apply Kd.R_drew)); exact (Kd.R_mono (Kd.R_far (p := ⟨gb279, 3, none⟩) (Kd.R_far (p := ⟨gb279, 2, none⟩) (Kd.R_far (p := ⟨gb279, 1, none⟩) (Kd.R_far (p := ⟨gb279, 0, none⟩) (Kd.R_mono HO_143.out (fun k_ hk => (⟨hk, hk.2⟩ : _ ∧ k_ ≠ gb279))) (fun _ hk => hk.2) (.int .i64 ((rd_T39 t250 x145_4).f0))) (fun _ hk => hk.2) (.int .i64 ((rd_T39 t250 x145_4).f1))) (fun _ hk => hk.2) (.int .i64 ((rd_T39 t250 x145_4).f2))) (fun _ hk => hk.2) (.int .i64 ((rd_T39 t250 x145_4).f3))) (fun _ h_ => h_.1))) hb); have n2_ := Aside0.mk (Kd.C_below (by (with_reducible repeat (first | apply Kd.C_alloc | apply Kd.C_drewN | apply Kd.C_drew)); exact (SNHR271_279.out _ (Below.setCell (p := ⟨gb279, 3, none⟩) (Below.setCell (p := ⟨gb279, 2, none⟩) (Below.setCell (p := ⟨gb279, 1, none⟩) (Below.setCell (p := ⟨gb279, 0, none⟩) (Below.refl _ _) (Nat.le_refl _) (.int .i64 ((rd_T39 t250 x145_4).f0))) (Nat.le_refl _) (.int .i64 ((rd_T39 t250 x145_4).f1))) (Nat.le_refl _) (.int .i64 ((rd_T39 t250 x145_4).f2))) (Nat.le_refl _) (.int .i64 ((rd_T39 t250 x145_4).f3))))) hb); have n3_ := Aside0.mk (kB (g := gb279) (o := .cells #[.int .i64 ((rd_T39 t250 x145_4).f0), .int .i64 ((rd_T39 t250 x145_4).f1), .int .i64 ((rd_T39 t250 x145_4).f2), .int .i64 ((rd_T39 t250 x145_4).f3)] 39 (0, 0)) (by (with_reducible repeat (first | refine kN ?_ _ | refine kD ?_ | refine kA ?_ _)); refine blk_put (cs := #[.int .i64 ((rd_T39 t250 x145_4).f0), .int .i64 ((rd_T39 t250 x145_4).f1), .int .i64 ((rd_T39 t250 x145_4).f2), .int .i64 0]) ?_ 3 _ rfl; (with_reducible repeat (first | refine kN ?_ _ | refine kD ?_ | refine kA ?_ _)); refine blk_put (cs := #[.int .i64 ((rd_T39 t250 x145_4).f0), .int .i64 ((rd_T39 t250 x145_4).f1), .int .i64 0, .int .i64 0]) ?_ 2 _ rfl; (with_reducible repeat (first | refine kN ?_ _ | refine kD ?_ | refine kA ?_ _)); refine blk_put (cs := #[.int .i64 ((rd_T39 t250 x145_4).f0), .int .i64 0, .int .i64 0, .int .i64 0]) ?_ 1 _ rfl; (with_reducible repeat (first | refine kN ?_ _ | refine kD ?_ | refine kA ?_ _)); refine blk_put (cs := #[.int .i64 0, .int .i64 0, .int .i64 0, .int .i64 0]) ?_ 0 _ rfl; (with_reducible repeat (first | refine kN ?_ _ | refine kD ?_ | refine kA ?_ _)); exact BK279.out) hb); have n4_ := Aside0.mk (bT (by repeat (first | (with_reducible first | exact HB.out | apply bA | apply bN | apply b1 | refine bS ?_ GE279.out) | exact HB.out)) hb); clear HO_8; clear HO_143; clear HR271; clear BK279; clear HB; have HO_8 := n0_; have HO_143 := n1_; have HR271 := n2_; have BK279 := n3_; have HB := n4_; clear n0_ n1_ n2_ n3_ n4_; (try clear hb); (try clear hb2); (try clear hk); (try clear hi))); try go_wp2_with (first | ((with_reducible refine gate_dst (N := 22) rfl ?_); (try (refine gate_guard (by rfl) ?_; dsimp only)); refine box_event ?hg (N := 22) ?hd (cs := #[.int .i64 0, .int .i64 0, .int .i64 0, .int .i64 0]) (t := 39) ?hr ?_; (case hd => rfl); (case hg => rfl); (case hr => first | (go_simp; done) | (go_simp; rfl)); intro gb279 hg w67 hbox hb; have n0_ := Aside0.mk (Kd.R_below (Kd.R_elderB (by (with_reducible repeat (first | apply Kd.R_alloc | apply Kd.R_drewN | apply Kd.R_drew)); exact HO_8.out) gb279 (Nat.le_of_eq hg.symm)) hb); have n1_ := Aside0.mk (Kd.R_below (Kd.R_elderB (by (with_reducible repeat (first | apply Kd.R_alloc | apply Kd.R_drewN | apply Kd.R_drew)); exact HO_143.out) gb279 (Nat.le_of_eq hg.symm)) hb); have n2_ := Aside0.mk ((fun W_ (hW_ : Below gb279 w67 W_) => Kd.C_below (by repeat (first | (with_reducible exact HR271.out) | (with_reducible refine Kd.C_alloc ?_ _) | (with_reducible refine Kd.C_drewN ?_ _) | (with_reducible refine Kd.C_drew ?_) | exact HR271.out)) (hb.trans (by rw [← hg]; exact hW_)))); have n3_ := Aside0.mk (Kd.C_below (by repeat (first | (with_reducible exact HR271.out) | (with_reducible refine Kd.C_alloc ?_ _) | (with_reducible refine Kd.C_drewN ?_ _) | (with_reducible refine Kd.C_drew ?_) | exact HR271.out)) hb); have n4_ := Aside0.mk (bT (by repeat (first | (with_reducible first | exact HB.out | apply bA | apply bN | apply b1) | exact HB.out)) hb); have n5_ := Aside0.mk (hbox); have n6_ := Aside0.mk ((by rw [hg]; exact (bZ (by repeat (first | (with_reducible first | exact HB.out | apply bA | apply bN | apply b1) | exact HB.out))) : w.heap.size ≤ gb279)); have n7_ := n6_; clear HO_8; clear HO_143; clear HR271; clear HB; have HO_8 := n0_; have HO_143 := n1_; have SNHR271_279 := n2_; have HR271 := n3_; have HB := n4_; have BK279 := n5_; have GW279 := n6_; have GE279 := n7_; clear n0_ n1_ n2_ n3_ n4_ n5_ n6_ n7_; clear hb hbox hg; have hcz68_0 : w67.cell? ⟨gb279, 0, none⟩ = some (.int .i64 0) := (kC BK279.out 0).trans rfl; have hcz68_1 : w67.cell? ⟨gb279, 1, none⟩ = some (.int .i64 0) := (kC BK279.out 1).trans rfl; have hcz68_2 : w67.cell? ⟨gb279, 2, none⟩ = some (.int .i64 0) := (kC BK279.out 2).trans rfl; have hcz68_3 : w67.cell? ⟨gb279, 3, none⟩ = some (.int .i64 0) := (kC BK279.out 3).trans rfl; have hfz68_0 := blk_frozen BK279.out 0; have hfz68_1 := blk_frozen BK279.out 1; have hfz68_2 := blk_frozen BK279.out 2; have hfz68_3 := blk_frozen BK279.out 3) | (go_at_call 24; (with_reducible refine (cohousingref34_Late.calls ((rd_T39 t250 x145_4).f0) ((rd_T39 t250 x145_4).f1) ((rd_T39 t250 x145_4).f2) ((rd_T39 t250 x145_4).f3) a1 3 false _ A65.out).mono ?_); rintro e w69 ⟨rfl, hb⟩; have n0_ := Aside0.mk (Kd.R_below (by (with_reducible repeat (first | apply Kd.R_alloc | apply Kd.R_drewN | apply Kd.R_drew)); exact (Kd.R_mono (Kd.R_far (p := ⟨gb279, 3, none⟩) (Kd.R_far (p := ⟨gb279, 2, none⟩) (Kd.R_far (p := ⟨gb279, 1, none⟩) (Kd.R_far (p := ⟨gb279, 0, none⟩) (Kd.R_mono HO_8.out (fun k_ hk => (⟨hk, hk.2⟩ : _ ∧ k_ ≠ gb279))) (fun _ hk => hk.2) (.int .i64 ((rd_T39 t250 x145_4).f0))) (fun _ hk => hk.2) (.int .i64 ((rd_T39 t250 x145_4).f1))) (fun _ hk => hk.2) (.int .i64 ((rd_T39 t250 x145_4).f2))) (fun _ hk => hk.2) (.int .i64 ((rd_T39 t250 x145_4).f3))) (fun _ h_ => h_.1))) hb); have n1_ := Aside0.mk (Kd.R_below (by (with_reducible repeat (first | apply Kd.R_alloc | apply Kd.R_drewN | apply Kd.R_drew)); exact (Kd.R_mono (Kd.R_far (p := ⟨gb279, 3, none⟩) (Kd.R_far (p := ⟨gb279, 2, none⟩) (Kd.R_far (p := ⟨gb279, 1, none⟩) (Kd.R_far (p := ⟨gb279, 0, none⟩) (Kd.R_mono HO_143.out (fun k_ hk => (⟨hk, hk.2⟩ : _ ∧ k_ ≠ gb279))) (fun _ hk => hk.2) (.int .i64 ((rd_T39 t250 x145_4).f0))) (fun _ hk => hk.2) (.int .i64 ((rd_T39 t250 x145_4).f1))) (fun _ hk => hk.2) (.int .i64 ((rd_T39 t250 x145_4).f2))) (fun _ hk => hk.2) (.int .i64 ((rd_T39 t250 x145_4).f3))) (fun _ h_ => h_.1))) hb); have n2_ := Aside0.mk (Kd.C_below (by (with_reducible repeat (first | apply Kd.C_alloc | apply Kd.C_drewN | apply Kd.C_drew)); exact (SNHR271_279.out _ (Below.setCell (p := ⟨gb279, 3, none⟩) (Below.setCell (p := ⟨gb279, 2, none⟩) (Below.setCell (p := ⟨gb279, 1, none⟩) (Below.setCell (p := ⟨gb279, 0, none⟩) (Below.refl _ _) (Nat.le_refl _) (.int .i64 ((rd_T39 t250 x145_4).f0))) (Nat.le_refl _) (.int .i64 ((rd_T39 t250 x145_4).f1))) (Nat.le_refl _) (.int .i64 ((rd_T39 t250 x145_4).f2))) (Nat.le_refl _) (.int .i64 ((rd_T39 t250 x145_4).f3))))) hb); have n3_ := Aside0.mk (kB (g := gb279) (o := .cells #[.int .i64 ((rd_T39 t250 x145_4).f0), .int .i64 ((rd_T39 t250 x145_4).f1), .int .i64 ((rd_T39 t250 x145_4).f2), .int .i64 ((rd_T39 t250 x145_4).f3)] 39 (0, 0)) (by (with_reducible repeat (first | refine kN ?_ _ | refine kD ?_ | refine kA ?_ _)); refine blk_put (cs := #[.int .i64 ((rd_T39 t250 x145_4).f0), .int .i64 ((rd_T39 t250 x145_4).f1), .int .i64 ((rd_T39 t250 x145_4).f2), .int .i64 0]) ?_ 3 _ rfl; (with_reducible repeat (first | refine kN ?_ _ | refine kD ?_ | refine kA ?_ _)); refine blk_put (cs := #[.int .i64 ((rd_T39 t250 x145_4).f0), .int .i64 ((rd_T39 t250 x145_4).f1), .int .i64 0, .int .i64 0]) ?_ 2 _ rfl; (with_reducible repeat (first | refine kN ?_ _ | refine kD ?_ | refine kA ?_ _)); refine blk_put (cs := #[.int .i64 ((rd_T39 t250 x145_4).f0), .int .i64 0, .int .i64 0, .int .i64 0]) ?_ 1 _ rfl; (with_reducible repeat (first | refine kN ?_ _ | refine kD ?_ | refine kA ?_ _)); refine blk_put (cs := #[.int .i64 0, .int .i64 0, .int .i64 0, .int .i64 0]) ?_ 0 _ rfl; (with_reducible repeat (first | refine kN ?_ _ | refine kD ?_ | refine kA ?_ _)); exact BK279.out) hb); have n4_ := Aside0.mk (bT (by repeat (first | (with_reducible first | exact HB.out | apply bA | apply bN | apply b1 | refine bS ?_ GE279.out) | exact HB.out)) hb); clear HO_8; clear HO_143; clear HR271; clear BK279; clear HB; have HO_8 := n0_; have HO_143 := n1_; have HR271 := n2_; have BK279 := n3_; have HB := n4_; clear n0_ n1_ n2_ n3_ n4_; (try clear hb); (try clear hb2); (try clear hk); (try clear hi))))
                      go_roundg k4
                      case measure => have := HK1.out; have := HJ23.out; have := HK3.out; have := HK4.out; omega
                      case rel => exact ⟨(true), (wrap64 (x11_4 - ((rd_T39 t250 x145_4).f3))), (wrap64 (x145_4 + 1)), (by first | rfl | (simp; done) | (simp [*]; done)), (by first | rfl | (simp; done) | (simp [*]; done)), (by first | rfl | (simp; done) | (simp [*]; done)), H', ⟨by have := HK1.out; have := HJ23.out; have := HK3.out; have := HK4.out; omega⟩, ⟨by (with_reducible repeat (first | apply Kd.R_alloc | apply Kd.R_drewN | apply Kd.R_drew)); exact Kd.R_mono HO_8.out (fun _ hk => trivial)⟩, ⟨by (with_reducible repeat (first | apply Kd.R_alloc | apply Kd.R_drewN | apply Kd.R_drew)); exact Kd.R_mono HO_143.out (fun _ hk => trivial)⟩, ⟨by repeat (first | (with_reducible exact HR271.out) | (with_reducible refine Kd.C_alloc ?_ _) | (with_reducible refine Kd.C_drewN ?_ _) | (with_reducible refine Kd.C_drew ?_) | exact HR271.out)⟩, ⟨by repeat (first | (with_reducible first | exact HB.out | apply bA | apply bN | apply b1 | refine bS ?_ GE279.out) | exact HB.out)⟩⟩
                    ·replace c64 := Bool.eq_false_iff.mpr c64
                     subst c64
                     have H1 : (none) = some r := by rw [if_neg (show ¬ (false = true) by decide)] at H; exact H
                     clear H
                     have H := H1
                     clear H1
                     exact absurd H (by simp)
                   ·rw [if_neg c63] at H
                    exact absurd H (by simp)
                  ·rw [if_neg c62] at H
                   exact absurd H (by simp)
                 ·rw [if_neg c61] at H
                  have c61b0 : decide (x145_4 < (t250.length : Int)) = false := dF c61
                  clear c61
                  replace H := Option.bind_eq_some_iff.mp H
                  obtain ⟨⟨t281, t282⟩, A700, H⟩ := H
                  replace H : (if x7_4 = true then (if x11_4 = 0 then (if t282 = 0 then (if t281 = 0 then (some true) else (none)) else (none)) else (none)) else (none)) = some r := H
                  have A70 := Aside0.mk A700
                  clear A700
                  by_cases c71 : x7_4 = true
                  ·subst c71
                   have H1 : (if x11_4 = 0 then (if t282 = 0 then (if t281 = 0 then (some true) else (none)) else (none)) else (none)) = some r := by rw [if_pos rfl] at H; exact H
                   clear H
                   have H := H1
                   clear H1
                   by_cases c72 : x11_4 = 0
                   ·rw [if_pos c72] at H
                    have c72b0 : (x11_4 == 0) = true := beq_iff_eq.mpr c72
                    have c72b1 : (x11_4 != 0) = false := bne_eq_false_iff_eq.mpr c72
                    clear c72
                    by_cases c73 : t282 = 0
                    ·rw [if_pos c73] at H
                     have c73b0 : (t282 == 0) = true := beq_iff_eq.mpr c73
                     have c73b1 : (t282 != 0) = false := bne_eq_false_iff_eq.mpr c73
                     clear c73
                     by_cases c74 : t281 = 0
                     ·rw [if_pos c74] at H
                      have c74b0 : (t281 == 0) = true := beq_iff_eq.mpr c74
                      have c74b1 : (t281 != 0) = false := bne_eq_false_iff_eq.mpr c74
                      clear c74
                      obtain rfl := Option.some.inj H
                      go_wp2_with (first | (go_at_call 17; (refine (setoff_Interest.calls k4 _ _ t250 10000 a1 36525 _ _ ([] : List (S46)) t281 t282 _ ?side1 ?side2 ?side3 ?side4 A70.out).mono ?_); (case side1 => repeat (first | exact (Kd.R_reads' HO_8.out).2.2 | (with_reducible refine Kd.C_alloc ?_ _) | (with_reducible refine Kd.C_drewN ?_ _) | (with_reducible refine Kd.C_drew ?_))); (case side2 => exact (Kd.R_reads' HO_8.out).2.1); (case side3 => exact Kd.C_nil _ _); (case side4 => exact Nat.le_refl _); rintro e w75 ⟨rfl, hb⟩; have n0_ := Aside0.mk (Kd.R_below (by (with_reducible repeat (first | apply Kd.R_alloc | apply Kd.R_drewN | apply Kd.R_drew)); exact HO_8.out) hb); have n1_ := Aside0.mk (Kd.R_below (by (with_reducible repeat (first | apply Kd.R_alloc | apply Kd.R_drewN | apply Kd.R_drew)); exact HO_143.out) hb); have n2_ := Aside0.mk (Kd.C_below (by repeat (first | (with_reducible exact HR271.out) | (with_reducible refine Kd.C_alloc ?_ _) | (with_reducible refine Kd.C_drewN ?_ _) | (with_reducible refine Kd.C_drew ?_) | exact HR271.out)) hb); have n3_ := Aside0.mk (bT (by repeat (first | (with_reducible first | exact HB.out | apply bA | apply bN | apply b1) | exact HB.out)) hb); clear HO_8; clear HO_143; clear HR271; clear HB; have HO_8 := n0_; have HO_143 := n1_; have HR271 := n2_; have HB := n3_; clear n0_ n1_ n2_ n3_; (try clear hb); (try clear hb2); (try clear hk); (try clear hi)))
                      repeat (go_quiet (first | (go_at_call 17; (refine (setoff_Interest.calls k4 _ _ t250 10000 a1 36525 _ _ ([] : List (S46)) t281 t282 _ ?side1 ?side2 ?side3 ?side4 A70.out).mono ?_); (case side1 => repeat (first | exact (Kd.R_reads' HO_8.out).2.2 | (with_reducible refine Kd.C_alloc ?_ _) | (with_reducible refine Kd.C_drewN ?_ _) | (with_reducible refine Kd.C_drew ?_))); (case side2 => exact (Kd.R_reads' HO_8.out).2.1); (case side3 => exact Kd.C_nil _ _); (case side4 => exact Nat.le_refl _); rintro e w75 ⟨rfl, hb⟩; have n0_ := Aside0.mk (Kd.R_below (by (with_reducible repeat (first | apply Kd.R_alloc | apply Kd.R_drewN | apply Kd.R_drew)); exact HO_8.out) hb); have n1_ := Aside0.mk (Kd.R_below (by (with_reducible repeat (first | apply Kd.R_alloc | apply Kd.R_drewN | apply Kd.R_drew)); exact HO_143.out) hb); have n2_ := Aside0.mk (Kd.C_below (by repeat (first | (with_reducible exact HR271.out) | (with_reducible refine Kd.C_alloc ?_ _) | (with_reducible refine Kd.C_drewN ?_ _) | (with_reducible refine Kd.C_drew ?_) | exact HR271.out)) hb); have n3_ := Aside0.mk (bT (by repeat (first | (with_reducible first | exact HB.out | apply bA | apply bN | apply b1) | exact HB.out)) hb); clear HO_8; clear HO_143; clear HR271; clear HB; have HO_8 := n0_; have HO_143 := n1_; have HR271 := n2_; have HB := n3_; clear n0_ n1_ n2_ n3_; (try clear hb); (try clear hb2); (try clear hk); (try clear hi))); try go_wp2_with (first | (go_at_call 17; (refine (setoff_Interest.calls k4 _ _ t250 10000 a1 36525 _ _ ([] : List (S46)) t281 t282 _ ?side1 ?side2 ?side3 ?side4 A70.out).mono ?_); (case side1 => repeat (first | exact (Kd.R_reads' HO_8.out).2.2 | (with_reducible refine Kd.C_alloc ?_ _) | (with_reducible refine Kd.C_drewN ?_ _) | (with_reducible refine Kd.C_drew ?_))); (case side2 => exact (Kd.R_reads' HO_8.out).2.1); (case side3 => exact Kd.C_nil _ _); (case side4 => exact Nat.le_refl _); rintro e w75 ⟨rfl, hb⟩; have n0_ := Aside0.mk (Kd.R_below (by (with_reducible repeat (first | apply Kd.R_alloc | apply Kd.R_drewN | apply Kd.R_drew)); exact HO_8.out) hb); have n1_ := Aside0.mk (Kd.R_below (by (with_reducible repeat (first | apply Kd.R_alloc | apply Kd.R_drewN | apply Kd.R_drew)); exact HO_143.out) hb); have n2_ := Aside0.mk (Kd.C_below (by repeat (first | (with_reducible exact HR271.out) | (with_reducible refine Kd.C_alloc ?_ _) | (with_reducible refine Kd.C_drewN ?_ _) | (with_reducible refine Kd.C_drew ?_) | exact HR271.out)) hb); have n3_ := Aside0.mk (bT (by repeat (first | (with_reducible first | exact HB.out | apply bA | apply bN | apply b1) | exact HB.out)) hb); clear HO_8; clear HO_143; clear HR271; clear HB; have HO_8 := n0_; have HO_143 := n1_; have HR271 := n2_; have HB := n3_; clear n0_ n1_ n2_ n3_; (try clear hb); (try clear hb2); (try clear hk); (try clear hi))))
                      go_ret
                      exact ⟨by first | rfl | (simp [errW_none, errW_some] <;> rfl) | (simp [*, errW_none, errW_some] <;> rfl), by repeat (first | (with_reducible first | exact HB.out | apply bA | apply bN | apply b1) | exact HB.out)⟩
                     ·rw [if_neg c74] at H
                      exact absurd H (by simp)
                    ·rw [if_neg c73] at H
                     exact absurd H (by simp)
                   ·rw [if_neg c72] at H
                    exact absurd H (by simp)
                  ·replace c71 := Bool.eq_false_iff.mpr c71
                   subst c71
                   have H1 : (none) = some r := by rw [if_neg (show ¬ (false = true) by decide)] at H; exact H
                   clear H
                   have H := H1
                   clear H1
                   exact absurd H (by simp)
           ·rw [if_neg c44] at H
            exact absurd H (by simp)
          ·rw [if_neg c43] at H
           exact absurd H (by simp)
         ·rw [if_neg c42] at H
          exact absurd H (by simp)
  ·rw [if_neg c7] at H
   have c7b0 : (t251 == 0) = false := beq_eq_false_iff_ne.mpr c7
   have c7b1 : (t251 != 0) = true := bne_iff_ne.mpr c7
   by_cases c76 : (t250.length : Int) = 0
   ·rw [if_pos c76] at H
    have c76b0 : ((t250.length : Int) == 0) = true := beq_iff_eq.mpr c76
    have c76b1 : ((t250.length : Int) != 0) = false := bne_eq_false_iff_eq.mpr c76
    clear c76
    obtain rfl := Option.some.inj H
    go_enter Tryz.func8, Tryz.ntmps8
    go_wp2_with (first | (go_at_call 9; (with_reducible refine (cohousinglaw34_head.calls k  true _ ?side1 A4.out).mono ?_); (case side1 => exact GL.below HG.out (by repeat (first | (with_reducible first | exact HB.out | apply bA | apply bN | apply b1) | exact HB.out))); rintro e w77 ⟨rfl, hb⟩; have n0_ := Aside0.mk (bT (by repeat (first | (with_reducible first | exact HB.out | apply bA | apply bN | apply b1) | exact HB.out)) hb); clear HB; have HB := n0_; clear n0_; (try clear hb); (try clear hb2); (try clear hk); (try clear hi)) | (go_at_call 19; (with_reducible refine (setoff_Plan.calls k _ _ l0 a1 a2 t250 t251 _ ?side1 ?side2 ?side3 A6.out).mono ?_); (case side1 => repeat (first | exact (Kd.C_below HR0.out HB.out) | (with_reducible refine Kd.C_alloc ?_ _) | (with_reducible refine Kd.C_drewN ?_ _) | (with_reducible refine Kd.C_drew ?_))); (case side2 => exact HC0.out); (case side3 => exact GL.below HG.out (by repeat (first | (with_reducible first | exact HB.out | apply bA | apply bN | apply b1) | exact HB.out))); rintro e w78 ⟨v252, rfl, ho0, hb⟩; have n0_ := Aside0.mk (Kd.R_lower ho0 (bZ (by repeat (first | (with_reducible first | exact HB.out | apply bA | apply bN | apply b1) | exact HB.out)))); have n1_ := Aside0.mk (bT (by repeat (first | (with_reducible first | exact HB.out | apply bA | apply bN | apply b1) | exact HB.out)) hb); clear HB; have HO253 := n0_; have HB := n1_; clear n0_ n1_; (try clear hb); (try clear hb2); (try clear hk); (try clear hi); (try clear ho0); obtain ⟨Ao79, co79, eo79⟩ := Kd.R_slice HO253.out; subst eo79))
    repeat (go_quiet (first | (go_at_call 9; (with_reducible refine (cohousinglaw34_head.calls k  true _ ?side1 A4.out).mono ?_); (case side1 => exact GL.below HG.out (by repeat (first | (with_reducible first | exact HB.out | apply bA | apply bN | apply b1) | exact HB.out))); rintro e w77 ⟨rfl, hb⟩; have n0_ := Aside0.mk (bT (by repeat (first | (with_reducible first | exact HB.out | apply bA | apply bN | apply b1) | exact HB.out)) hb); clear HB; have HB := n0_; clear n0_; (try clear hb); (try clear hb2); (try clear hk); (try clear hi)) | (go_at_call 19; (with_reducible refine (setoff_Plan.calls k _ _ l0 a1 a2 t250 t251 _ ?side1 ?side2 ?side3 A6.out).mono ?_); (case side1 => repeat (first | exact (Kd.C_below HR0.out HB.out) | (with_reducible refine Kd.C_alloc ?_ _) | (with_reducible refine Kd.C_drewN ?_ _) | (with_reducible refine Kd.C_drew ?_))); (case side2 => exact HC0.out); (case side3 => exact GL.below HG.out (by repeat (first | (with_reducible first | exact HB.out | apply bA | apply bN | apply b1) | exact HB.out))); rintro e w78 ⟨v252, rfl, ho0, hb⟩; have n0_ := Aside0.mk (Kd.R_lower ho0 (bZ (by repeat (first | (with_reducible first | exact HB.out | apply bA | apply bN | apply b1) | exact HB.out)))); have n1_ := Aside0.mk (bT (by repeat (first | (with_reducible first | exact HB.out | apply bA | apply bN | apply b1) | exact HB.out)) hb); clear HB; have HO253 := n0_; have HB := n1_; clear n0_ n1_; (try clear hb); (try clear hb2); (try clear hk); (try clear hi); (try clear ho0); obtain ⟨Ao79, co79, eo79⟩ := Kd.R_slice HO253.out; subst eo79)); try go_wp2_with (first | (go_at_call 9; (with_reducible refine (cohousinglaw34_head.calls k  true _ ?side1 A4.out).mono ?_); (case side1 => exact GL.below HG.out (by repeat (first | (with_reducible first | exact HB.out | apply bA | apply bN | apply b1) | exact HB.out))); rintro e w77 ⟨rfl, hb⟩; have n0_ := Aside0.mk (bT (by repeat (first | (with_reducible first | exact HB.out | apply bA | apply bN | apply b1) | exact HB.out)) hb); clear HB; have HB := n0_; clear n0_; (try clear hb); (try clear hb2); (try clear hk); (try clear hi)) | (go_at_call 19; (with_reducible refine (setoff_Plan.calls k _ _ l0 a1 a2 t250 t251 _ ?side1 ?side2 ?side3 A6.out).mono ?_); (case side1 => repeat (first | exact (Kd.C_below HR0.out HB.out) | (with_reducible refine Kd.C_alloc ?_ _) | (with_reducible refine Kd.C_drewN ?_ _) | (with_reducible refine Kd.C_drew ?_))); (case side2 => exact HC0.out); (case side3 => exact GL.below HG.out (by repeat (first | (with_reducible first | exact HB.out | apply bA | apply bN | apply b1) | exact HB.out))); rintro e w78 ⟨v252, rfl, ho0, hb⟩; have n0_ := Aside0.mk (Kd.R_lower ho0 (bZ (by repeat (first | (with_reducible first | exact HB.out | apply bA | apply bN | apply b1) | exact HB.out)))); have n1_ := Aside0.mk (bT (by repeat (first | (with_reducible first | exact HB.out | apply bA | apply bN | apply b1) | exact HB.out)) hb); clear HB; have HO253 := n0_; have HB := n1_; clear n0_ n1_; (try clear hb); (try clear hb2); (try clear hk); (try clear hi); (try clear ho0); obtain ⟨Ao79, co79, eo79⟩ := Kd.R_slice HO253.out; subst eo79)))
    go_ret
    exact ⟨by first | rfl | (simp [errW_none, errW_some] <;> rfl) | (simp [*, errW_none, errW_some] <;> rfl), by repeat (first | (with_reducible first | exact HB.out | apply bA | apply bN | apply b1) | exact HB.out)⟩
   ·rw [if_neg c76] at H
    exact absurd H (by simp)
 ·replace c5 := Bool.eq_false_iff.mpr c5
  subst c5
  have H1 : (none) = some r := by rw [if_neg (show ¬ (false = true) by decide)] at H; exact H
  clear H
  have H := H1
  clear H1
  exact absurd H (by simp)

end Go.Proofs.YtnkgnjklkocojaaGreatDoor.X
