-- Written by a program of mine (wip/tools/xprint.py) over the kit's print.py: printed functions and hand-proved ones side by side.
import Derived.Test.YtnkgnjklkocojaaGreatDoorXx0
import Derived.Test.YtnkgnjklkocojaaGreatDoorXx1
import Derived.Test.YtnkgnjklkocojaaGreatDoorXx3
import Derived.Test.YtnkgnjklkocojaaGreatDoorXx16
import Derived.Test.YtnkgnjklkocojaaGreatDoorXx17
namespace Go.Proofs.YtnkgnjklkocojaaGreatDoor.X
open Go.RowKit Go.Proofs.YtnkgnjklkocojaaGreatDoorW.PrintWords Go.Proofs.YtnkgnjklkocojaaGreatDoorW.PrintLast Go.Proofs.YtnkgnjklkocojaaGreatDoorW.PrintMore
attribute [local go_sem] max2_int min2_int max_two min_two max_three min_three max_four min_four   -- for this text's walks alone
set_option linter.unusedVariables false
set_option linter.unusedSimpArgs false

attribute [local go_sem high] eqA39
/-! ### cohousinglaw34_SetoffOrder: function 5 -/
mutual
def cohousinglaw34_SetoffOrder.l0 : Nat → List (S39) → Int → Int → Bool → List (S39) → Int → Int → Int → Option (Bool)
 | 0, _, _, _, _, _, _, _, _ => none
 | k + 1, x0, x1, x2, x7, x8, x9, x35, x36 => if x36 < x35 then (cohousinglaw34_SetoffOrder.l1 k x0 x1 x2 x7 x8 x9 x36 x35 x36 (x0.length : Int) 0) else ((cohousinglaw34_turned.f k x0 x2).bind fun t286 => ((setoff_Pay.f t286 x1).bind fun bt289 => (if bt289.2.2 = 0 then (if bt289.2.1 = x9 then (cohousinglaw34_SetoffOrder.j2 k x7 x8 bt289.1 ((bt289.1.length : Int) != (x0.length : Int))) else (cohousinglaw34_SetoffOrder.j2 k x7 x8 bt289.1 true)) else (cohousinglaw34_SetoffOrder.j2 k x7 x8 bt289.1 true))))
def cohousinglaw34_SetoffOrder.l1 : Nat → List (S39) → Int → Int → Bool → List (S39) → Int → Int → Int → Int → Int → Int → Option (Bool)
 | 0, _, _, _, _, _, _, _, _, _, _, _ => none
 | k + 1, x0, x1, x2, x7, x8, x9, x11, x35, x36, x40, x41 => if x41 < x40 then (if 0 ≤ x41 then (if x41 < (x0.length : Int) then (if 0 ≤ x11 then (if x11 < (x0.length : Int) then ((cohousingref34_Before.f ((rd_T39 x0 x41).f0) ((rd_T39 x0 x41).f1) ((rd_T39 x0 x41).f2) ((rd_T39 x0 x41).f3) ((rd_T39 x0 x11).f0) ((rd_T39 x0 x11).f1) ((rd_T39 x0 x11).f2) ((rd_T39 x0 x11).f3)).bind fun t282 => (if t282 = true then (if x41 < (x8.length : Int) then (if ((rd_T39 x8 x41).f3) > 0 then (if x7 = true then (if x11 < (x8.length : Int) then (if (((rd_T39 x8 x11).f0) == ((rd_T39 x0 x11).f0) && (((rd_T39 x8 x11).f1) == ((rd_T39 x0 x11).f1) && (((rd_T39 x8 x11).f2) == ((rd_T39 x0 x11).f2) && (((rd_T39 x8 x11).f3) == ((rd_T39 x0 x11).f3))))) = true then (cohousinglaw34_SetoffOrder.l1 k x0 x1 x2 true x8 x9 x11 x35 x36 x40 (wrap64 (x41 + 1))) else (none)) else (none)) else (none)) else (cohousinglaw34_SetoffOrder.l1 k x0 x1 x2 x7 x8 x9 x11 x35 x36 x40 (wrap64 (x41 + 1)))) else (none)) else (cohousinglaw34_SetoffOrder.l1 k x0 x1 x2 x7 x8 x9 x11 x35 x36 x40 (wrap64 (x41 + 1))))) else (none)) else (none)) else (none)) else (none)) else (cohousinglaw34_SetoffOrder.l0 k x0 x1 x2 x7 x8 x9 x35 (wrap64 (x36 + 1)))
def cohousinglaw34_SetoffOrder.j2 : Nat → Bool → List (S39) → List (S39) → Bool → Option (Bool)
 | 0, _, _, _, _ => none
 | k + 1, x7, x8, x13, x97 => if x97 = true then (none) else (cohousinglaw34_SetoffOrder.l2 k x7 x13 x8 (x8.length : Int) 0)
def cohousinglaw34_SetoffOrder.l2 : Nat → Bool → List (S39) → List (S39) → Int → Int → Option (Bool)
 | 0, _, _, _, _, _ => none
 | k + 1, x7, x13, x98, x99, x100 => if x100 < x99 then (if 0 ≤ x100 then (if x100 < (x98.length : Int) then (if x7 = true then ((cohousinglaw34_find.f k x13 ((rd_T39 x98 x100).f0)).bind fun bt296 => (if (bt296.1 == ((rd_T39 x98 x100).f0) && (bt296.2.1 == ((rd_T39 x98 x100).f1) && (bt296.2.2.1 == ((rd_T39 x98 x100).f2) && (bt296.2.2.2 == ((rd_T39 x98 x100).f3))))) = true then (cohousinglaw34_SetoffOrder.l2 k true x13 x98 x99 (wrap64 (x100 + 1))) else (none))) else (none)) else (none)) else (none)) else (if x7 = true then (some true) else (none))
end
def cohousinglaw34_SetoffOrder.f (k : Nat) (l0 : List (S39)) (a1 : Int) (a2 : Int) : Option (Bool) := (cohousinglaw34_head.f k).bind fun t274 => (if t274 = true then ((setoff_Pay.f l0 a1).bind fun bt275 => (if bt275.2.2 = 0 then (if (bt275.1.length : Int) = (l0.length : Int) then (cohousinglaw34_SetoffOrder.l0 k l0 a1 a2 true bt275.1 bt275.2.1 (l0.length : Int) 0) else (none)) else (some true))) else (none))
theorem cohousinglaw34_SetoffOrder.mono_l : ∀ k, (∀ y0 y1 y2 y3 y4 y5 y6 y7, LeO (cohousinglaw34_SetoffOrder.l0 k y0 y1 y2 y3 y4 y5 y6 y7) (cohousinglaw34_SetoffOrder.l0 (k + 1) y0 y1 y2 y3 y4 y5 y6 y7)) ∧ (∀ y0 y1 y2 y3 y4 y5 y6 y7 y8 y9 y10, LeO (cohousinglaw34_SetoffOrder.l1 k y0 y1 y2 y3 y4 y5 y6 y7 y8 y9 y10) (cohousinglaw34_SetoffOrder.l1 (k + 1) y0 y1 y2 y3 y4 y5 y6 y7 y8 y9 y10)) ∧ (∀ y0 y1 y2 y3, LeO (cohousinglaw34_SetoffOrder.j2 k y0 y1 y2 y3) (cohousinglaw34_SetoffOrder.j2 (k + 1) y0 y1 y2 y3)) ∧ (∀ y0 y1 y2 y3 y4, LeO (cohousinglaw34_SetoffOrder.l2 k y0 y1 y2 y3 y4) (cohousinglaw34_SetoffOrder.l2 (k + 1) y0 y1 y2 y3 y4))
 | 0 => ⟨fun _ _ _ _ _ _ _ _ r h => by simp [cohousinglaw34_SetoffOrder.l0] at h, fun _ _ _ _ _ _ _ _ _ _ _ r h => by simp [cohousinglaw34_SetoffOrder.l1] at h, fun _ _ _ _ r h => by simp [cohousinglaw34_SetoffOrder.j2] at h, fun _ _ _ _ _ r h => by simp [cohousinglaw34_SetoffOrder.l2] at h⟩
 | k + 1 => by
  obtain ⟨ih0, ih1, ih2, ih3⟩ := cohousinglaw34_SetoffOrder.mono_l k
  refine ⟨?_, ?_, ?_, ?_⟩
  ·intro y0 y1 y2 y3 y4 y5 y6 y7
   unfold cohousinglaw34_SetoffOrder.l0
   repeat' first
   | (with_reducible exact ih0 _ _ _ _ _ _ _ _)
   | (with_reducible exact ih1 _ _ _ _ _ _ _ _ _ _ _)
   | (with_reducible exact ih2 _ _ _ _)
   | (with_reducible exact ih3 _ _ _ _ _)
   | (with_reducible exact cohousinglaw34_find.mono _ _ _)
   | (with_reducible exact cohousinglaw34_head.mono _)
   | (with_reducible exact cohousinglaw34_turned.mono _ _ _)
   | (with_reducible exact LeO.refl _)
   | (with_reducible exact LeO.none _)
   | (with_reducible refine LeO.ite ?_ ?_)
   | (with_reducible refine LeO.bind ?_ (fun _ => ?_))
   | exact ih0 _ _ _ _ _ _ _ _
   | exact ih1 _ _ _ _ _ _ _ _ _ _ _
   | exact ih2 _ _ _ _
   | exact ih3 _ _ _ _ _
   | exact cohousinglaw34_find.mono _ _ _
   | exact cohousinglaw34_head.mono _
   | exact cohousinglaw34_turned.mono _ _ _
   | exact LeO.none _
   | refine LeO.ite ?_ ?_
   | refine LeO.bind ?_ (fun _ => ?_)
  ·intro y0 y1 y2 y3 y4 y5 y6 y7 y8 y9 y10
   unfold cohousinglaw34_SetoffOrder.l1
   repeat' first
   | (with_reducible exact ih0 _ _ _ _ _ _ _ _)
   | (with_reducible exact ih1 _ _ _ _ _ _ _ _ _ _ _)
   | (with_reducible exact ih2 _ _ _ _)
   | (with_reducible exact ih3 _ _ _ _ _)
   | (with_reducible exact cohousinglaw34_find.mono _ _ _)
   | (with_reducible exact cohousinglaw34_head.mono _)
   | (with_reducible exact cohousinglaw34_turned.mono _ _ _)
   | (with_reducible exact LeO.refl _)
   | (with_reducible exact LeO.none _)
   | (with_reducible refine LeO.ite ?_ ?_)
   | (with_reducible refine LeO.bind ?_ (fun _ => ?_))
   | exact ih0 _ _ _ _ _ _ _ _
   | exact ih1 _ _ _ _ _ _ _ _ _ _ _
   | exact ih2 _ _ _ _
   | exact ih3 _ _ _ _ _
   | exact cohousinglaw34_find.mono _ _ _
   | exact cohousinglaw34_head.mono _
   | exact cohousinglaw34_turned.mono _ _ _
   | exact LeO.none _
   | refine LeO.ite ?_ ?_
   | refine LeO.bind ?_ (fun _ => ?_)
  ·intro y0 y1 y2 y3
   unfold cohousinglaw34_SetoffOrder.j2
   repeat' first
   | (with_reducible exact ih0 _ _ _ _ _ _ _ _)
   | (with_reducible exact ih1 _ _ _ _ _ _ _ _ _ _ _)
   | (with_reducible exact ih2 _ _ _ _)
   | (with_reducible exact ih3 _ _ _ _ _)
   | (with_reducible exact cohousinglaw34_find.mono _ _ _)
   | (with_reducible exact cohousinglaw34_head.mono _)
   | (with_reducible exact cohousinglaw34_turned.mono _ _ _)
   | (with_reducible exact LeO.refl _)
   | (with_reducible exact LeO.none _)
   | (with_reducible refine LeO.ite ?_ ?_)
   | (with_reducible refine LeO.bind ?_ (fun _ => ?_))
   | exact ih0 _ _ _ _ _ _ _ _
   | exact ih1 _ _ _ _ _ _ _ _ _ _ _
   | exact ih2 _ _ _ _
   | exact ih3 _ _ _ _ _
   | exact cohousinglaw34_find.mono _ _ _
   | exact cohousinglaw34_head.mono _
   | exact cohousinglaw34_turned.mono _ _ _
   | exact LeO.none _
   | refine LeO.ite ?_ ?_
   | refine LeO.bind ?_ (fun _ => ?_)
  ·intro y0 y1 y2 y3 y4
   unfold cohousinglaw34_SetoffOrder.l2
   repeat' first
   | (with_reducible exact ih0 _ _ _ _ _ _ _ _)
   | (with_reducible exact ih1 _ _ _ _ _ _ _ _ _ _ _)
   | (with_reducible exact ih2 _ _ _ _)
   | (with_reducible exact ih3 _ _ _ _ _)
   | (with_reducible exact cohousinglaw34_find.mono _ _ _)
   | (with_reducible exact cohousinglaw34_head.mono _)
   | (with_reducible exact cohousinglaw34_turned.mono _ _ _)
   | (with_reducible exact LeO.refl _)
   | (with_reducible exact LeO.none _)
   | (with_reducible refine LeO.ite ?_ ?_)
   | (with_reducible refine LeO.bind ?_ (fun _ => ?_))
   | exact ih0 _ _ _ _ _ _ _ _
   | exact ih1 _ _ _ _ _ _ _ _ _ _ _
   | exact ih2 _ _ _ _
   | exact ih3 _ _ _ _ _
   | exact cohousinglaw34_find.mono _ _ _
   | exact cohousinglaw34_head.mono _
   | exact cohousinglaw34_turned.mono _ _ _
   | exact LeO.none _
   | refine LeO.ite ?_ ?_
   | refine LeO.bind ?_ (fun _ => ?_)
theorem cohousinglaw34_SetoffOrder.mono : ∀ a0 a1 a2 k, LeO (cohousinglaw34_SetoffOrder.f k a0 a1 a2) (cohousinglaw34_SetoffOrder.f (k + 1) a0 a1 a2) := by
 intro a0 a1 a2 k
 obtain ⟨ih0, ih1, ih2, ih3⟩ := cohousinglaw34_SetoffOrder.mono_l k
 unfold cohousinglaw34_SetoffOrder.f
 repeat' first
   | (with_reducible exact ih0 _ _ _ _ _ _ _ _)
   | (with_reducible exact ih1 _ _ _ _ _ _ _ _ _ _ _)
   | (with_reducible exact ih2 _ _ _ _)
   | (with_reducible exact ih3 _ _ _ _ _)
   | (with_reducible exact cohousinglaw34_find.mono _ _ _)
   | (with_reducible exact cohousinglaw34_head.mono _)
   | (with_reducible exact cohousinglaw34_turned.mono _ _ _)
   | (with_reducible exact LeO.refl _)
   | (with_reducible exact LeO.none _)
   | (with_reducible refine LeO.ite ?_ ?_)
   | (with_reducible refine LeO.bind ?_ (fun _ => ?_))
   | exact ih0 _ _ _ _ _ _ _ _
   | exact ih1 _ _ _ _ _ _ _ _ _ _ _
   | exact ih2 _ _ _ _
   | exact ih3 _ _ _ _ _
   | exact cohousinglaw34_find.mono _ _ _
   | exact cohousinglaw34_head.mono _
   | exact cohousinglaw34_turned.mono _ _ _
   | exact LeO.none _
   | refine LeO.ite ?_ ?_
   | refine LeO.bind ?_ (fun _ => ?_)
def cohousinglaw34_SetoffOrder.T13 : Bool × List (List Nat × List Nat) := (true, [([], []), ([], []), ([0, 1], [0, 1]), ([2], [2]), ([], []), ([], []), ([4, 5], [4, 5]), ([6], [6]), ([3, 7], [3, 7]), ([8, 8], [8]), ([9], [9]), ([9], [9]), ([10, 11, 9], [9, 10, 11]), ([12, 9], [9, 12]), ([13, 9], [9, 13]), ([14, 9], [9, 14]), ([9, 15], [9, 15])])
def cohousinglaw34_SetoffOrder.B13 : List Nat := [0, 0, 3, 7, 0, 0, 48, 112, 255, 511, 1023, 1023, 4095, 8191, 16383, 32767, 65535]
theorem cohousinglaw34_SetoffOrder.tab13 : rtab .any (opsOf Tryz.f5 13) = cohousinglaw34_SetoffOrder.T13 := by kernel_rfl
theorem cohousinglaw34_SetoffOrder.bits13 : waitsOk cohousinglaw34_SetoffOrder.T13.2 cohousinglaw34_SetoffOrder.B13 = true := by kernel_rfl
def cohousinglaw34_SetoffOrder.T14 : Bool × List (List Nat × List Nat) := (true, [([], []), ([0], [0]), ([1], [1]), ([1], [1]), ([2, 3, 1], [1, 2, 3]), ([4, 1], [1, 4]), ([1], [1]), ([1], [1]), ([6, 7, 1], [1, 6, 7]), ([8, 1], [1, 8]), ([5, 9, 1], [1, 5, 9]), ([1, 10], [1, 10]), ([11, 1, 0, 1, 2, 3, 4, 5, 6, 7, 8, 9, 10, 11], [0, 11])])
def cohousinglaw34_SetoffOrder.B14 : List Nat := [0, 1, 3, 3, 15, 31, 3, 3, 195, 451, 1023, 2047, 4095]
theorem cohousinglaw34_SetoffOrder.tab14 : rtab .any (opsOf Tryz.f5 14) = cohousinglaw34_SetoffOrder.T14 := by kernel_rfl
theorem cohousinglaw34_SetoffOrder.bits14 : waitsOk cohousinglaw34_SetoffOrder.T14.2 cohousinglaw34_SetoffOrder.B14 = true := by kernel_rfl
def cohousinglaw34_SetoffOrder.T23 : Bool × List (List Nat × List Nat) := (true, [([], []), ([0], [0]), ([1], [1]), ([1], [1]), ([3, 1], [1, 3]), ([2, 4, 1, 1], [1, 2, 4]), ([1], [1]), ([5, 6, 1], [1, 5, 6]), ([1, 7], [1, 7]), ([8, 5, 0, 1, 2, 3, 4, 5, 6, 7, 8], [0, 8])])
def cohousinglaw34_SetoffOrder.B23 : List Nat := [0, 1, 3, 3, 11, 31, 3, 127, 255, 511]
theorem cohousinglaw34_SetoffOrder.tab23 : rtab .any (opsOf Tryz.f5 23) = cohousinglaw34_SetoffOrder.T23 := by kernel_rfl
theorem cohousinglaw34_SetoffOrder.bits23 : waitsOk cohousinglaw34_SetoffOrder.T23.2 cohousinglaw34_SetoffOrder.B23 = true := by kernel_rfl
set_option maxHeartbeats 8000000 in
set_option maxRecDepth 100000 in
theorem cohousinglaw34_SetoffOrder.calls (k : Nat) (A0 : Option Addr) (c0 : Nat) (l0 : List (S39)) (a1 : Int) (a2 : Int) (r : Bool) (w : World) (hr0 : Kd.C k39 w A0 l0.length l0) (hc0 : l0.length ≤ c0) (hG : GL w) (h : cohousinglaw34_SetoffOrder.f k l0 a1 a2 = some r) :
  Calls Tryz.prog 5 #[.slice A0 l0.length c0, .int .i64 a1, .int .i64 a2] w fun e w' => e = .returned (.bool r) ∧ Below w.heap.size w w' := by
 have hu39 := Tryz.underlying39
 have HG := Aside0.mk hG
 clear hG
 have HR0 := Aside0.mk hr0
 have HC0 := Aside0.mk hc0
 clear hr0 hc0
 have HB := Aside0.mk (Below.refl w.heap.size w)
 have H : ((cohousinglaw34_head.f k).bind fun t274 => (if t274 = true then ((setoff_Pay.f l0 a1).bind fun bt275 => (if bt275.2.2 = 0 then (if (bt275.1.length : Int) = (l0.length : Int) then (cohousinglaw34_SetoffOrder.l0 k l0 a1 a2 true bt275.1 bt275.2.1 (l0.length : Int) 0) else (none)) else (some true))) else (none))) = some r := h
 clear h
 replace H := Option.bind_eq_some_iff.mp H
 obtain ⟨t274, A40, H⟩ := H
 replace H : (if t274 = true then ((setoff_Pay.f l0 a1).bind fun bt275 => (if bt275.2.2 = 0 then (if (bt275.1.length : Int) = (l0.length : Int) then (cohousinglaw34_SetoffOrder.l0 k l0 a1 a2 true bt275.1 bt275.2.1 (l0.length : Int) 0) else (none)) else (some true))) else (none)) = some r := H
 have A4 := Aside0.mk A40
 clear A40
 by_cases c5 : t274 = true
 ·subst c5
  have H1 : ((setoff_Pay.f l0 a1).bind fun bt275 => (if bt275.2.2 = 0 then (if (bt275.1.length : Int) = (l0.length : Int) then (cohousinglaw34_SetoffOrder.l0 k l0 a1 a2 true bt275.1 bt275.2.1 (l0.length : Int) 0) else (none)) else (some true))) = some r := by rw [if_pos rfl] at H; exact H
  clear H
  have H := H1
  clear H1
  replace H := Option.bind_eq_some_iff.mp H
  obtain ⟨⟨t275, t276, t277⟩, A60, H⟩ := H
  replace H : (if t277 = 0 then (if (t275.length : Int) = (l0.length : Int) then (cohousinglaw34_SetoffOrder.l0 k l0 a1 a2 true t275 t276 (l0.length : Int) 0) else (none)) else (some true)) = some r := H
  have A6 := Aside0.mk A60
  clear A60
  by_cases c7 : t277 = 0
  ·rw [if_pos c7] at H
   have c7b0 : (t277 == 0) = true := beq_iff_eq.mpr c7
   have c7b1 : (t277 != 0) = false := bne_eq_false_iff_eq.mpr c7
   clear c7
   by_cases c8 : (t275.length : Int) = (l0.length : Int)
   ·rw [if_pos c8] at H
    have c8b0 : ((t275.length : Int) == (l0.length : Int)) = true := beq_iff_eq.mpr c8
    have c8b1 : ((t275.length : Int) != (l0.length : Int)) = false := bne_eq_false_iff_eq.mpr c8
    have c8b2 : (t275.length == l0.length) = true := by first | simpa using c8 | (simp at c8 ⊢; omega)
    clear c8
    have H' := Aside0.mk H
    clear H
    go_enter Tryz.func5, Tryz.ntmps5
    go_wp2_with (first | ((with_reducible refine gate_callee (f := 9) rfl ?_); refine goesL_ (some 18) rfl rfl Tryz.func9 (by kernel_rfl) rfl #[] rfl (by (try simp only [List.map_toArray, List.map_cons, List.map_nil]); first | done | rfl | (simp only [List.length_drop, List.length_take]; rfl)) ?_; (with_reducible refine (cohousinglaw34_head.calls k  true _ ?side1 A4.out).mono ?_); (case side1 => exact GL.below HG.out (by repeat (first | (with_reducible first | exact HB.out | apply bA | apply bN | apply b1) | exact HB.out))); rintro e w9 ⟨rfl, hb⟩; refine ⟨_, rfl, ?_⟩; have n0_ := Aside0.mk (bT (by repeat (first | (with_reducible first | exact HB.out | apply bA | apply bN | apply b1) | exact HB.out)) hb); clear HB; have HB := n0_; clear n0_; (try clear hb); (try clear hb2); (try clear hk); (try clear hi)) | ((with_reducible refine gate_callee (f := 10) rfl ?_); refine goesL_ (some 22) rfl rfl Tryz.func10 (by kernel_rfl) rfl #[.slice A0 l0.length c0, .int .i64 a1] rfl (by (try simp only [List.map_toArray, List.map_cons, List.map_nil]); first | done | rfl | (simp only [List.length_drop, List.length_take]; rfl)) ?_; (with_reducible refine (setoff_Pay.calls _ _ l0 a1 t275 t276 t277 _ ?side1 ?side2 A6.out).mono ?_); (case side1 => repeat (first | exact (Kd.C_below HR0.out HB.out) | (with_reducible refine Kd.C_alloc ?_ _) | (with_reducible refine Kd.C_drewN ?_ _) | (with_reducible refine Kd.C_drew ?_))); (case side2 => exact HC0.out); rintro e w10 ⟨v278, rfl, ho0, hb⟩; refine ⟨_, rfl, ?_⟩; have n0_ := Aside0.mk (Kd.R_lower ho0 (bZ (by repeat (first | (with_reducible first | exact HB.out | apply bA | apply bN | apply b1) | exact HB.out)))); have n1_ := Aside0.mk (bT (by repeat (first | (with_reducible first | exact HB.out | apply bA | apply bN | apply b1) | exact HB.out)) hb); clear HB; have HO279 := n0_; have HB := n1_; clear n0_ n1_; (try clear hb); (try clear hb2); (try clear hk); (try clear hi); (try clear ho0); obtain ⟨Ao11, co11, eo11⟩ := Kd.R_slice HO279.out; subst eo11))
    go_loopg [7, 36] k (fun kq v7 v36 w' => ∃ (x7_1 : Bool) (x36_1 : Int), v7 = .bool x7_1 ∧ v36 = .int .i64 x36_1 ∧ Aside0 (cohousinglaw34_SetoffOrder.l0 kq l0 a1 a2 x7_1 t275 t276 (l0.length : Int) x36_1 = some r) ∧ Aside0 (kq ≤ k) ∧ Aside0 (Kd.R k39 39 w' w.heap.size (fun _ => True) (.slice Ao11 t275.length co11) t275) ∧ Aside0 (Below w.heap.size w w'))
    case atStart => exact ⟨(true), (0), (by first | rfl | (simp; done) | (simp [*]; done)), (by first | rfl | (simp; done) | (simp [*]; done)), H', ⟨Nat.le_refl _⟩, ⟨by (with_reducible repeat (first | apply Kd.R_alloc | apply Kd.R_drewN | apply Kd.R_drew)); exact HO279.out⟩, ⟨by repeat (first | (with_reducible first | exact HB.out | apply bA | apply bN | apply b1) | exact HB.out)⟩⟩
    case round =>
     clear H'
     try clear c1
     try clear p2
     try clear c5
     try clear c7
     try clear c7b0
     try clear c7b1
     try clear c8
     try clear c8b0
     try clear c8b1
     try clear c8b2
     try clear c9
     try clear c10
     obtain ⟨x7_1, x36_1, rfl, rfl, HA, HK1, HO_8, HB⟩ := hrel
     cases gk with
     | zero => exact absurd HA.out (by simp [cohousinglaw34_SetoffOrder.l0])
     | succ k1 =>
      have H := HA.out
      clear HA
      simp only [cohousinglaw34_SetoffOrder.l0] at H
      by_cases c12 : x36_1 < (l0.length : Int)
      ·rw [if_pos c12] at H
       have c12b0 : decide (x36_1 < (l0.length : Int)) = true := dT c12
       clear c12
       have H' := Aside0.mk H
       clear H
       go_wp2
       go_loopg [7, 41] k1 (fun kq v7 v41 w' => ∃ (x7_2 : Bool) (x41_2 : Int), v7 = .bool x7_2 ∧ v41 = .int .i64 x41_2 ∧ Aside0 (cohousinglaw34_SetoffOrder.l1 kq l0 a1 a2 x7_2 t275 t276 x36_1 (l0.length : Int) x36_1 (l0.length : Int) x41_2 = some r) ∧ Aside0 (kq ≤ k1) ∧ Aside0 (Kd.R k39 39 w' w.heap.size (fun _ => True) (.slice Ao11 t275.length co11) t275) ∧ Aside0 (Below w.heap.size w w'))
       case atStart => exact ⟨(x7_1), (0), (by first | rfl | (simp; done) | (simp [*]; done)), (by first | rfl | (simp; done) | (simp [*]; done)), H', ⟨Nat.le_refl _⟩, ⟨by (with_reducible repeat (first | apply Kd.R_alloc | apply Kd.R_drewN | apply Kd.R_drew)); exact HO_8.out⟩, ⟨by repeat (first | (with_reducible first | exact HB.out | apply bA | apply bN | apply b1) | exact HB.out)⟩⟩
       case round =>
        clear H'
        try clear c1
        try clear p2
        try clear c5
        try clear c7
        try clear c7b0
        try clear c7b1
        try clear c8
        try clear c8b0
        try clear c8b1
        try clear c8b2
        try clear c9
        try clear c10
        try clear c12
        try clear c12b0
        try clear p2
        obtain ⟨x7_2, x41_2, rfl, rfl, HA, HK2, HO_8, HB⟩ := hrel
        cases gk with
        | zero => exact absurd HA.out (by simp [cohousinglaw34_SetoffOrder.l1])
        | succ k2 =>
         have H := HA.out
         clear HA
         simp only [cohousinglaw34_SetoffOrder.l1] at H
         by_cases c13 : x41_2 < (l0.length : Int)
         ·rw [if_pos c13] at H
          have c13b0 : decide (x41_2 < (l0.length : Int)) = true := dT c13
          clear c13
          by_cases c14 : 0 ≤ x41_2
          ·rw [if_pos c14] at H
           have c14b0 : decide (0 ≤ x41_2) = true := dT c14
           clear c14
           by_cases c15 : x41_2 < (l0.length : Int)
           ·rw [if_pos c15] at H
            have c15b0 : decide (x41_2 < (l0.length : Int)) = true := dT c15
            clear c15
            by_cases c16 : 0 ≤ x36_1
            ·rw [if_pos c16] at H
             have c16b0 : decide (0 ≤ x36_1) = true := dT c16
             clear c16
             by_cases c17 : x36_1 < (l0.length : Int)
             ·rw [if_pos c17] at H
              have c17b0 : decide (x36_1 < (l0.length : Int)) = true := dT c17
              clear c17
              replace H := Option.bind_eq_some_iff.mp H
              obtain ⟨t282, A180, H⟩ := H
              replace H : (if t282 = true then (if x41_2 < (t275.length : Int) then (if ((rd_T39 t275 x41_2).f3) > 0 then (if x7_2 = true then (if x36_1 < (t275.length : Int) then (if (((rd_T39 t275 x36_1).f0) == ((rd_T39 l0 x36_1).f0) && (((rd_T39 t275 x36_1).f1) == ((rd_T39 l0 x36_1).f1) && (((rd_T39 t275 x36_1).f2) == ((rd_T39 l0 x36_1).f2) && (((rd_T39 t275 x36_1).f3) == ((rd_T39 l0 x36_1).f3))))) = true then (cohousinglaw34_SetoffOrder.l1 k2 l0 a1 a2 true t275 t276 x36_1 (l0.length : Int) x36_1 (l0.length : Int) (wrap64 (x41_2 + 1))) else (none)) else (none)) else (none)) else (cohousinglaw34_SetoffOrder.l1 k2 l0 a1 a2 x7_2 t275 t276 x36_1 (l0.length : Int) x36_1 (l0.length : Int) (wrap64 (x41_2 + 1)))) else (none)) else (cohousinglaw34_SetoffOrder.l1 k2 l0 a1 a2 x7_2 t275 t276 x36_1 (l0.length : Int) x36_1 (l0.length : Int) (wrap64 (x41_2 + 1)))) = some r := H
              have A18 := Aside0.mk A180
              clear A180
              by_cases c19 : t282 = true
              ·subst c19
               have H1 : (if x41_2 < (t275.length : Int) then (if ((rd_T39 t275 x41_2).f3) > 0 then (if x7_2 = true then (if x36_1 < (t275.length : Int) then (if (((rd_T39 t275 x36_1).f0) == ((rd_T39 l0 x36_1).f0) && (((rd_T39 t275 x36_1).f1) == ((rd_T39 l0 x36_1).f1) && (((rd_T39 t275 x36_1).f2) == ((rd_T39 l0 x36_1).f2) && (((rd_T39 t275 x36_1).f3) == ((rd_T39 l0 x36_1).f3))))) = true then (cohousinglaw34_SetoffOrder.l1 k2 l0 a1 a2 true t275 t276 x36_1 (l0.length : Int) x36_1 (l0.length : Int) (wrap64 (x41_2 + 1))) else (none)) else (none)) else (none)) else (cohousinglaw34_SetoffOrder.l1 k2 l0 a1 a2 x7_2 t275 t276 x36_1 (l0.length : Int) x36_1 (l0.length : Int) (wrap64 (x41_2 + 1)))) else (none)) = some r := by rw [if_pos rfl] at H; exact H
               clear H
               have H := H1
               clear H1
               by_cases c20 : x41_2 < (t275.length : Int)
               ·rw [if_pos c20] at H
                have c20b0 : decide (x41_2 < (t275.length : Int)) = true := dT c20
                clear c20
                by_cases c21 : ((rd_T39 t275 x41_2).f3) > 0
                ·rw [if_pos c21] at H
                 have c21b0 : decide (0 < ((rd_T39 t275 x41_2).f3)) = true := dT c21
                 clear c21
                 by_cases c22 : x7_2 = true
                 ·subst c22
                  have H1 : (if x36_1 < (t275.length : Int) then (if (((rd_T39 t275 x36_1).f0) == ((rd_T39 l0 x36_1).f0) && (((rd_T39 t275 x36_1).f1) == ((rd_T39 l0 x36_1).f1) && (((rd_T39 t275 x36_1).f2) == ((rd_T39 l0 x36_1).f2) && (((rd_T39 t275 x36_1).f3) == ((rd_T39 l0 x36_1).f3))))) = true then (cohousinglaw34_SetoffOrder.l1 k2 l0 a1 a2 true t275 t276 x36_1 (l0.length : Int) x36_1 (l0.length : Int) (wrap64 (x41_2 + 1))) else (none)) else (none)) = some r := by rw [if_pos rfl] at H; exact H
                  clear H
                  have H := H1
                  clear H1
                  by_cases c23 : x36_1 < (t275.length : Int)
                  ·rw [if_pos c23] at H
                   have c23b0 : decide (x36_1 < (t275.length : Int)) = true := dT c23
                   clear c23
                   by_cases c24 : (((rd_T39 t275 x36_1).f0) == ((rd_T39 l0 x36_1).f0) && (((rd_T39 t275 x36_1).f1) == ((rd_T39 l0 x36_1).f1) && (((rd_T39 t275 x36_1).f2) == ((rd_T39 l0 x36_1).f2) && (((rd_T39 t275 x36_1).f3) == ((rd_T39 l0 x36_1).f3))))) = true
                   ·rw [if_pos c24] at H
                    have c24b0 : (((rd_T39 t275 x36_1).f0) == ((rd_T39 l0 x36_1).f0) && (((rd_T39 t275 x36_1).f1) == ((rd_T39 l0 x36_1).f1) && (((rd_T39 t275 x36_1).f2) == ((rd_T39 l0 x36_1).f2) && (((rd_T39 t275 x36_1).f3) == ((rd_T39 l0 x36_1).f3))))) = true := c24
                    (try (have c24b1 : decide (((rd_T39 t275 x36_1).f0) = ((rd_T39 l0 x36_1).f0) && (((rd_T39 t275 x36_1).f1) == ((rd_T39 l0 x36_1).f1) && (((rd_T39 t275 x36_1).f2) == ((rd_T39 l0 x36_1).f2) && (((rd_T39 t275 x36_1).f3) == ((rd_T39 l0 x36_1).f3))))) = true := by simpa using c24))
                    (try (have c24b2 : (((rd_T39 t275 x36_1).f0) == ((rd_T39 l0 x36_1).f0) && (((rd_T39 t275 x36_1).f1) == ((rd_T39 l0 x36_1).f1) && (((rd_T39 t275 x36_1).f2) == ((rd_T39 l0 x36_1).f2) && (((rd_T39 t275 x36_1).f3) == ((rd_T39 l0 x36_1).f3))))) = true := by simpa using c24))
                    clear c24
                    have H' := Aside0.mk H
                    clear H
                    try go_wp2
                    have n0_ := Aside0.mk (Kd.R_drew HO_8.out)
                    have n1_ := Aside0.mk (b1 HB.out)
                    clear HO_8
                    clear HB
                    have HO_8 := n0_
                    have HB := n1_
                    clear n0_ n1_
                    have p280 : 0 ≤ (x41_2 : Int) := oT (by first | (with_reducible assumption) | assumption)
                    have q280 : x41_2 < (l0.length : Int) := oT (by first | (with_reducible assumption) | assumption)
                    obtain ⟨ad280, e280, hx280_0, hx280_1, hx280_2, hx280_3⟩ := at_T39 HR0.out x41_2 p280 q280
                    have hw280_3 := hx280_3
                    have hw280_2 := hx280_2
                    have hw280_1 := hx280_1
                    have hw280_0 := hx280_0
                    cases e280
                    replace hx280_0 := (HB.out.cell (World.block_lt_of_cell? w _ hx280_0)).trans hx280_0
                    replace hx280_1 := (HB.out.cell (World.block_lt_of_cell? w _ hx280_1)).trans hx280_1
                    replace hx280_2 := (HB.out.cell (World.block_lt_of_cell? w _ hx280_2)).trans hx280_2
                    replace hx280_3 := (HB.out.cell (World.block_lt_of_cell? w _ hx280_3)).trans hx280_3
                    replace p280 := eq_true p280
                    replace q280 := eq_true q280
                    have p281 : 0 ≤ (x36_1 : Int) := oT (by first | (with_reducible assumption) | assumption)
                    have q281 : x36_1 < (l0.length : Int) := oT (by first | (with_reducible assumption) | assumption)
                    obtain ⟨ad281, e281, hx281_0, hx281_1, hx281_2, hx281_3⟩ := at_T39 HR0.out x36_1 p281 q281
                    have hw281_3 := hx281_3
                    have hw281_2 := hx281_2
                    have hw281_1 := hx281_1
                    have hw281_0 := hx281_0
                    obtain rfl : ad280 = ad281 := (by injection e281)
                    replace hx281_0 := (HB.out.cell (World.block_lt_of_cell? w _ hx281_0)).trans hx281_0
                    replace hx281_1 := (HB.out.cell (World.block_lt_of_cell? w _ hx281_1)).trans hx281_1
                    replace hx281_2 := (HB.out.cell (World.block_lt_of_cell? w _ hx281_2)).trans hx281_2
                    replace hx281_3 := (HB.out.cell (World.block_lt_of_cell? w _ hx281_3)).trans hx281_3
                    replace p281 := eq_true p281
                    replace q281 := eq_true q281
                    have p283 : 0 ≤ (x41_2 : Int) := oT (by first | (with_reducible assumption) | assumption)
                    have q283 : x41_2 < (t275.length : Int) := oT (by first | (with_reducible assumption) | assumption)
                    obtain ⟨ad283, e283, hx283_0, hx283_1, hx283_2, hx283_3⟩ := at_T39 (Kd.R_reads' HO_8.out).2.2 x41_2 p283 q283
                    cases e283
                    replace p283 := eq_true p283
                    replace q283 := eq_true q283
                    refine start_ (n := 17) (S := fun w' => w'.cell? (ad280.add ((x41_2).toNat * 4)) = some (.int .i64 ((rd_T39 l0 x41_2).f0)) ∧ w'.cell? ⟨(ad280.add ((x41_2).toNat * 4)).block, (ad280.add ((x41_2).toNat * 4)).off + 1, none⟩ = some (.int .i64 ((rd_T39 l0 x41_2).f1)) ∧ w'.cell? ⟨(ad280.add ((x41_2).toNat * 4)).block, (ad280.add ((x41_2).toNat * 4)).off + 2, none⟩ = some (.int .i64 ((rd_T39 l0 x41_2).f2)) ∧ w'.cell? ⟨(ad280.add ((x41_2).toNat * 4)).block, (ad280.add ((x41_2).toNat * 4)).off + 3, none⟩ = some (.int .i64 ((rd_T39 l0 x41_2).f3)) ∧ w'.cell? (ad280.add ((x36_1).toNat * 4)) = some (.int .i64 ((rd_T39 l0 x36_1).f0)) ∧ w'.cell? ⟨(ad280.add ((x36_1).toNat * 4)).block, (ad280.add ((x36_1).toNat * 4)).off + 1, none⟩ = some (.int .i64 ((rd_T39 l0 x36_1).f1)) ∧ w'.cell? ⟨(ad280.add ((x36_1).toNat * 4)).block, (ad280.add ((x36_1).toNat * 4)).off + 2, none⟩ = some (.int .i64 ((rd_T39 l0 x36_1).f2)) ∧ w'.cell? ⟨(ad280.add ((x36_1).toNat * 4)).block, (ad280.add ((x36_1).toNat * 4)).off + 3, none⟩ = some (.int .i64 ((rd_T39 l0 x36_1).f3)) ∧ w'.cell? (ad283.add ((x41_2).toNat * 4)) = some (.int .i64 ((rd_T39 t275 x41_2).f0)) ∧ w'.cell? ⟨(ad283.add ((x41_2).toNat * 4)).block, (ad283.add ((x41_2).toNat * 4)).off + 1, none⟩ = some (.int .i64 ((rd_T39 t275 x41_2).f1)) ∧ w'.cell? ⟨(ad283.add ((x41_2).toNat * 4)).block, (ad283.add ((x41_2).toNat * 4)).off + 2, none⟩ = some (.int .i64 ((rd_T39 t275 x41_2).f2)) ∧ w'.cell? ⟨(ad283.add ((x41_2).toNat * 4)).block, (ad283.add ((x41_2).toNat * 4)).off + 3, none⟩ = some (.int .i64 ((rd_T39 t275 x41_2).f3))) (ds := []) #[false, false, false, false, false, false, false, false, false, false, false, false, false, false, false, false, false] (by kernel_rfl) rfl rfl ⟨((HB.out.cell (World.block_lt_of_cell? w _ hw280_0)).trans hw280_0), ((HB.out.cell (World.block_lt_of_cell? w _ hw280_1)).trans hw280_1), ((HB.out.cell (World.block_lt_of_cell? w _ hw280_2)).trans hw280_2), ((HB.out.cell (World.block_lt_of_cell? w _ hw280_3)).trans hw280_3), ((HB.out.cell (World.block_lt_of_cell? w _ hw281_0)).trans hw281_0), ((HB.out.cell (World.block_lt_of_cell? w _ hw281_1)).trans hw281_1), ((HB.out.cell (World.block_lt_of_cell? w _ hw281_2)).trans hw281_2), ((HB.out.cell (World.block_lt_of_cell? w _ hw281_3)).trans hw281_3), hx283_0, hx283_1, hx283_2, hx283_3⟩ (fun hHeld => ?_); refine with_tabW cohousinglaw34_SetoffOrder.tab13 cohousinglaw34_SetoffOrder.bits13 (fun HT_ HW_ => ?_)
                    generalize wr.drew = w25 at HO_8 HB hx280_0 hx280_1 hx280_2 hx280_3 hx281_0 hx281_1 hx281_2 hx281_3 hx283_0 hx283_1 hx283_2 hx283_3 hHeld ⊢
                    refine pure_ (i := 0) (N := some 44) (v := ?_) (a' := ?_) #[true, false, false, false, false, false, false, false, false, false, false, false, false, false, false, false, false] rfl rfl (any_of HT_.out (by kernel_rfl)) (fun _ _ _ h => h) (Or.inl ⟨by rfl, ?_⟩) ?_ ?_
                    rotate_left
                    ·intro w'
                     go_simp
                     with_reducible rfl
                    rotate_left
                    ·simp only [Act.put, List.setIfInBounds_toArray, List.set_cons_zero, List.set_cons_succ, i64_w, i32_w]
                     rfl
                    refine pure_ (i := 1) (N := some 45) (v := ?_) (a' := ?_) #[true, true, false, false, false, false, false, false, false, false, false, false, false, false, false, false, false] rfl rfl (any_of HT_.out (by kernel_rfl)) (fun _ _ _ h => h) (Or.inl ⟨by rfl, ?_⟩) ?_ ?_
                    rotate_left
                    ·intro w'
                     go_simp
                     with_reducible rfl
                    rotate_left
                    ·simp only [Act.put, List.setIfInBounds_toArray, List.set_cons_zero, List.set_cons_succ, i64_w, i32_w]
                     rfl
                    refine pure_ (i := 2) (N := some 46) (v := ?_) (a' := ?_) #[true, true, true, false, false, false, false, false, false, false, false, false, false, false, false, false, false] rfl rfl (any_of HT_.out (by kernel_rfl)) (fun _ _ _ h => h) (Or.inl ⟨by rfl, ?_⟩) ?_ ?_
                    rotate_left
                    ·intro w'
                     go_simp
                     with_reducible rfl
                    rotate_left
                    ·simp only [Act.put, List.setIfInBounds_toArray, List.set_cons_zero, List.set_cons_succ, i64_w, i32_w]
                     rfl
                    refine pure_ (i := 4) (N := some 48) (v := ?_) (a' := ?_) #[true, true, true, false, true, false, false, false, false, false, false, false, false, false, false, false, false] rfl rfl (any_of HT_.out (by kernel_rfl)) (fun _ _ _ h => h) (Or.inl ⟨by rfl, ?_⟩) ?_ ?_
                    rotate_left
                    ·intro w'
                     go_simp
                     with_reducible rfl
                    rotate_left
                    ·simp only [Act.put, List.setIfInBounds_toArray, List.set_cons_zero, List.set_cons_succ, i64_w, i32_w]
                     rfl
                    refine pure_ (i := 5) (N := some 49) (v := ?_) (a' := ?_) #[true, true, true, false, true, true, false, false, false, false, false, false, false, false, false, false, false] rfl rfl (any_of HT_.out (by kernel_rfl)) (fun _ _ _ h => h) (Or.inl ⟨by rfl, ?_⟩) ?_ ?_
                    rotate_left
                    ·intro w'
                     go_simp
                     with_reducible rfl
                    rotate_left
                    ·simp only [Act.put, List.setIfInBounds_toArray, List.set_cons_zero, List.set_cons_succ, i64_w, i32_w]
                     rfl
                    refine pure_ (i := 6) (N := some 50) (v := ?_) (a' := ?_) #[true, true, true, false, true, true, true, false, false, false, false, false, false, false, false, false, false] rfl rfl (any_of HT_.out (by kernel_rfl)) (fun _ _ _ h => h) (Or.inl ⟨by rfl, ?_⟩) ?_ ?_
                    rotate_left
                    ·intro w'
                     go_simp
                     with_reducible rfl
                    rotate_left
                    ·simp only [Act.put, List.setIfInBounds_toArray, List.set_cons_zero, List.set_cons_succ, i64_w, i32_w]
                     rfl
                    refine take_ (i := 3) (N := some 47) (v := ?_) (a' := ?_) #[true, true, true, true, true, true, true, false, false, false, false, false, false, false, false, false, false] rfl rfl (take_ofW HT_.out HW_.out (by kernel_rfl)) (fun _ _ _ h => h) (Or.inl ⟨by rfl, ?_⟩) hHeld ?_ ?_
                    rotate_left
                    ·rintro w' ⟨s0, s1, s2, s3, s4, s5, s6, s7, s8, s9, s10, s11⟩
                     go_simp
                     with_reducible rfl
                    rotate_left
                    ·simp only [Act.put, List.setIfInBounds_toArray, List.set_cons_zero, List.set_cons_succ, i64_w, i32_w]
                     rfl
                    refine take_ (i := 7) (N := some 51) (v := ?_) (a' := ?_) #[true, true, true, true, true, true, true, true, false, false, false, false, false, false, false, false, false] rfl rfl (take_ofW HT_.out HW_.out (by kernel_rfl)) (fun _ _ _ h => h) (Or.inl ⟨by rfl, ?_⟩) hHeld ?_ ?_
                    rotate_left
                    ·rintro w' ⟨s0, s1, s2, s3, s4, s5, s6, s7, s8, s9, s10, s11⟩
                     go_simp
                     with_reducible rfl
                    rotate_left
                    ·simp only [Act.put, List.setIfInBounds_toArray, List.set_cons_zero, List.set_cons_succ, i64_w, i32_w]
                     rfl
                    refine one_ (i := 8) (N := some 52) #[true, true, true, true, true, true, true, true, true, false, false, false, false, false, false, false, false] rfl rfl (one_of HT_.out (by kernel_rfl)) (by decide) (fun K hK => ?_)
                    refine goes_ Tryz.func21 (by kernel_rfl) rfl #[.agg #[.int .i64 ((rd_T39 l0 x41_2).f0), .int .i64 ((rd_T39 l0 x41_2).f1), .int .i64 ((rd_T39 l0 x41_2).f2), .int .i64 ((rd_T39 l0 x41_2).f3)], .agg #[.int .i64 ((rd_T39 l0 x36_1).f0), .int .i64 ((rd_T39 l0 x36_1).f1), .int .i64 ((rd_T39 l0 x36_1).f2), .int .i64 ((rd_T39 l0 x36_1).f3)]] (by rfl) rfl rfl (by (try simp only [List.map_toArray, List.map_cons, List.map_nil]); first | done | rfl | (simp only [List.length_drop, List.length_take]; rfl)) ?_
                    with_reducible refine (cohousingref34_Before.calls ((rd_T39 l0 x41_2).f0) ((rd_T39 l0 x41_2).f1) ((rd_T39 l0 x41_2).f2) ((rd_T39 l0 x41_2).f3) ((rd_T39 l0 x36_1).f0) ((rd_T39 l0 x36_1).f1) ((rd_T39 l0 x36_1).f2) ((rd_T39 l0 x36_1).f3) true _ A18.out).mono ?_
                    rintro e w26 ⟨rfl, hb⟩
                    have HS8_ := (hb.cell (World.block_lt_of_cell? _ _ (hHeld.2.2.2.2.2.2.2.2.1))).trans (hHeld.2.2.2.2.2.2.2.2.1)
                    have HS9_ := (hb.cell (World.block_lt_of_cell? _ _ (hHeld.2.2.2.2.2.2.2.2.2.1))).trans (hHeld.2.2.2.2.2.2.2.2.2.1)
                    have HS10_ := (hb.cell (World.block_lt_of_cell? _ _ (hHeld.2.2.2.2.2.2.2.2.2.2.1))).trans (hHeld.2.2.2.2.2.2.2.2.2.2.1)
                    have HS11_ := (hb.cell (World.block_lt_of_cell? _ _ (hHeld.2.2.2.2.2.2.2.2.2.2.2))).trans (hHeld.2.2.2.2.2.2.2.2.2.2.2)
                    refine ⟨_, rfl, ?_⟩
                    have n0_ := Aside0.mk (Kd.R_below (by (with_reducible repeat (first | apply Kd.R_alloc | apply Kd.R_drewN | apply Kd.R_drew)); exact HO_8.out) hb)
                    have n1_ := Aside0.mk (bT (by repeat (first | (with_reducible first | exact HB.out | apply bA | apply bN | apply b1) | exact HB.out)) hb)
                    clear HO_8
                    clear HB
                    have HO_8 := n0_
                    have HB := n1_
                    clear n0_ n1_
                    (try clear hb)
                    (try clear hb2)
                    (try clear hk)
                    (try clear hi)
                    refine hK.out _ _ ⟨((HB.out.cell (World.block_lt_of_cell? w _ hw280_0)).trans hw280_0), ((HB.out.cell (World.block_lt_of_cell? w _ hw280_1)).trans hw280_1), ((HB.out.cell (World.block_lt_of_cell? w _ hw280_2)).trans hw280_2), ((HB.out.cell (World.block_lt_of_cell? w _ hw280_3)).trans hw280_3), ((HB.out.cell (World.block_lt_of_cell? w _ hw281_0)).trans hw281_0), ((HB.out.cell (World.block_lt_of_cell? w _ hw281_1)).trans hw281_1), ((HB.out.cell (World.block_lt_of_cell? w _ hw281_2)).trans hw281_2), ((HB.out.cell (World.block_lt_of_cell? w _ hw281_3)).trans hw281_3), HS8_, HS9_, HS10_, HS11_⟩ (fun hHeld => ?_)
                    clear hK K
                    refine norm_ (a' := ?_) ?_ ?_
                    rotate_left
                    ·show Act.put _ (some 52) _ = _
                     simp only [Act.put, List.setIfInBounds_toArray, List.set_cons_zero, List.set_cons_succ, i64_w, i32_w]
                     rfl
                    refine pure_ (i := 9) (N := some 53) (v := ?_) (a' := ?_) #[true, true, true, true, true, true, true, true, true, true, false, false, false, false, false, false, false] rfl rfl (any_of HT_.out (by kernel_rfl)) (fun _ _ _ h => h) (Or.inl ⟨by rfl, ?_⟩) ?_ ?_
                    rotate_left
                    ·intro w'
                     go_simp
                     with_reducible rfl
                    rotate_left
                    ·simp only [Act.put, List.setIfInBounds_toArray, List.set_cons_zero, List.set_cons_succ, i64_w, i32_w]
                     rfl
                    refine pure_ (i := 10) (N := some 54) (v := ?_) (a' := ?_) #[true, true, true, true, true, true, true, true, true, true, true, false, false, false, false, false, false] rfl rfl (any_of HT_.out (by kernel_rfl)) (fun _ _ _ h => h) (Or.inl ⟨by rfl, ?_⟩) ?_ ?_
                    rotate_left
                    ·intro w'
                     go_simp
                     with_reducible rfl
                    rotate_left
                    ·simp only [Act.put, List.setIfInBounds_toArray, List.set_cons_zero, List.set_cons_succ, i64_w, i32_w]
                     rfl
                    refine pure_ (i := 11) (N := some 55) (v := ?_) (a' := ?_) #[true, true, true, true, true, true, true, true, true, true, true, true, false, false, false, false, false] rfl rfl (any_of HT_.out (by kernel_rfl)) (fun _ _ _ h => h) (Or.inl ⟨by rfl, ?_⟩) ?_ ?_
                    rotate_left
                    ·intro w'
                     go_simp
                     with_reducible rfl
                    rotate_left
                    ·simp only [Act.put, List.setIfInBounds_toArray, List.set_cons_zero, List.set_cons_succ, i64_w, i32_w]
                     rfl
                    refine pure_ (i := 12) (N := some 56) (v := ?_) (a' := ?_) #[true, true, true, true, true, true, true, true, true, true, true, true, true, false, false, false, false] rfl rfl (any_of HT_.out (by kernel_rfl)) (fun _ _ _ h => h) (Or.inl ⟨by rfl, ?_⟩) ?_ ?_
                    rotate_left
                    ·intro w'
                     go_simp
                     with_reducible rfl
                    rotate_left
                    ·simp only [Act.put, List.setIfInBounds_toArray, List.set_cons_zero, List.set_cons_succ, i64_w, i32_w]
                     rfl
                    refine pure_ (i := 13) (N := some 57) (v := ?_) (a' := ?_) #[true, true, true, true, true, true, true, true, true, true, true, true, true, true, false, false, false] rfl rfl (any_of HT_.out (by kernel_rfl)) (fun _ _ _ h => h) (Or.inl ⟨by rfl, ?_⟩) ?_ ?_
                    rotate_left
                    ·intro w'
                     go_simp
                     with_reducible rfl
                    rotate_left
                    ·simp only [Act.put, List.setIfInBounds_toArray, List.set_cons_zero, List.set_cons_succ, i64_w, i32_w]
                     rfl
                    refine take_ (i := 14) (N := some 58) (v := ?_) (a' := ?_) #[true, true, true, true, true, true, true, true, true, true, true, true, true, true, true, false, false] rfl rfl (take_ofW HT_.out HW_.out (by kernel_rfl)) (fun _ _ _ h => h) (Or.inl ⟨by rfl, ?_⟩) hHeld ?_ ?_
                    rotate_left
                    ·rintro w' ⟨s0, s1, s2, s3, s4, s5, s6, s7, s8, s9, s10, s11⟩
                     go_simp
                     with_reducible rfl
                    rotate_left
                    ·simp only [Act.put, List.setIfInBounds_toArray, List.set_cons_zero, List.set_cons_succ, i64_w, i32_w]
                     rfl
                    refine pure_ (i := 15) (N := some 59) (v := ?_) (a' := ?_) #[true, true, true, true, true, true, true, true, true, true, true, true, true, true, true, true, false] rfl rfl (any_of HT_.out (by kernel_rfl)) (fun _ _ _ h => h) (Or.inl ⟨by rfl, ?_⟩) ?_ ?_
                    rotate_left
                    ·intro w'
                     go_simp
                     with_reducible rfl
                    rotate_left
                    ·simp only [Act.put, List.setIfInBounds_toArray, List.set_cons_zero, List.set_cons_succ, i64_w, i32_w]
                     rfl
                    refine pure_ (i := 16) (N := some 60) (v := ?_) (a' := ?_) #[true, true, true, true, true, true, true, true, true, true, true, true, true, true, true, true, true] rfl rfl (any_of HT_.out (by kernel_rfl)) (fun _ _ _ h => h) (Or.inl ⟨by rfl, ?_⟩) ?_ ?_
                    rotate_left
                    ·intro w'
                     go_simp
                     with_reducible rfl
                    rotate_left
                    ·simp only [Act.put, List.setIfInBounds_toArray, List.set_cons_zero, List.set_cons_succ, i64_w, i32_w]
                     rfl
                    refine done_ (done_of HT_.out (by kernel_rfl)) ?_
                    try go_wp2
                    have n0_ := Aside0.mk (Kd.R_drew HO_8.out)
                    have n1_ := Aside0.mk (b1 HB.out)
                    clear HO_8
                    clear HB
                    have HO_8 := n0_
                    have HB := n1_
                    clear n0_ n1_
                    have p284 : 0 ≤ (x36_1 : Int) := oT (by first | (with_reducible assumption) | assumption)
                    have q284 : x36_1 < (t275.length : Int) := oT (by first | (with_reducible assumption) | assumption)
                    obtain ⟨ad284, e284, hx284_0, hx284_1, hx284_2, hx284_3⟩ := at_T39 (Kd.R_reads' HO_8.out).2.2 x36_1 p284 q284
                    obtain rfl : ad283 = ad284 := (by injection e284)
                    replace p284 := eq_true p284
                    replace q284 := eq_true q284
                    have p285 : 0 ≤ (x36_1 : Int) := oT (by first | (with_reducible assumption) | assumption)
                    have q285 : x36_1 < (l0.length : Int) := oT (by first | (with_reducible assumption) | assumption)
                    obtain ⟨ad285, e285, hx285_0, hx285_1, hx285_2, hx285_3⟩ := at_T39 HR0.out x36_1 p285 q285
                    have hw285_3 := hx285_3
                    have hw285_2 := hx285_2
                    have hw285_1 := hx285_1
                    have hw285_0 := hx285_0
                    obtain rfl : ad280 = ad285 := (by injection e285)
                    replace hx285_0 := (HB.out.cell (World.block_lt_of_cell? w _ hx285_0)).trans hx285_0
                    replace hx285_1 := (HB.out.cell (World.block_lt_of_cell? w _ hx285_1)).trans hx285_1
                    replace hx285_2 := (HB.out.cell (World.block_lt_of_cell? w _ hx285_2)).trans hx285_2
                    replace hx285_3 := (HB.out.cell (World.block_lt_of_cell? w _ hx285_3)).trans hx285_3
                    replace p285 := eq_true p285
                    replace q285 := eq_true q285
                    refine start_ (n := 13) (S := fun w' => w'.cell? (ad283.add ((x36_1).toNat * 4)) = some (.int .i64 ((rd_T39 t275 x36_1).f0)) ∧ w'.cell? ⟨(ad283.add ((x36_1).toNat * 4)).block, (ad283.add ((x36_1).toNat * 4)).off + 1, none⟩ = some (.int .i64 ((rd_T39 t275 x36_1).f1)) ∧ w'.cell? ⟨(ad283.add ((x36_1).toNat * 4)).block, (ad283.add ((x36_1).toNat * 4)).off + 2, none⟩ = some (.int .i64 ((rd_T39 t275 x36_1).f2)) ∧ w'.cell? ⟨(ad283.add ((x36_1).toNat * 4)).block, (ad283.add ((x36_1).toNat * 4)).off + 3, none⟩ = some (.int .i64 ((rd_T39 t275 x36_1).f3)) ∧ w'.cell? (ad280.add ((x36_1).toNat * 4)) = some (.int .i64 ((rd_T39 l0 x36_1).f0)) ∧ w'.cell? ⟨(ad280.add ((x36_1).toNat * 4)).block, (ad280.add ((x36_1).toNat * 4)).off + 1, none⟩ = some (.int .i64 ((rd_T39 l0 x36_1).f1)) ∧ w'.cell? ⟨(ad280.add ((x36_1).toNat * 4)).block, (ad280.add ((x36_1).toNat * 4)).off + 2, none⟩ = some (.int .i64 ((rd_T39 l0 x36_1).f2)) ∧ w'.cell? ⟨(ad280.add ((x36_1).toNat * 4)).block, (ad280.add ((x36_1).toNat * 4)).off + 3, none⟩ = some (.int .i64 ((rd_T39 l0 x36_1).f3))) (ds := []) #[false, false, false, false, false, false, false, false, false, false, false, false, false] (by kernel_rfl) rfl rfl ⟨hx284_0, hx284_1, hx284_2, hx284_3, ((HB.out.cell (World.block_lt_of_cell? w _ hw285_0)).trans hw285_0), ((HB.out.cell (World.block_lt_of_cell? w _ hw285_1)).trans hw285_1), ((HB.out.cell (World.block_lt_of_cell? w _ hw285_2)).trans hw285_2), ((HB.out.cell (World.block_lt_of_cell? w _ hw285_3)).trans hw285_3)⟩ (fun hHeld => ?_); refine with_tabW cohousinglaw34_SetoffOrder.tab14 cohousinglaw34_SetoffOrder.bits14 (fun HT_ HW_ => ?_)
                    generalize w26.drew = w27 at HO_8 HB hx284_0 hx284_1 hx284_2 hx284_3 hx285_0 hx285_1 hx285_2 hx285_3 hHeld ⊢
                    refine pure_ (i := 0) (N := some 61) (v := ?_) (a' := ?_) #[true, false, false, false, false, false, false, false, false, false, false, false, false] rfl rfl (any_of HT_.out (by kernel_rfl)) (fun _ _ _ h => h) (Or.inl ⟨by rfl, ?_⟩) ?_ ?_
                    rotate_left
                    ·intro w'
                     go_simp
                     with_reducible rfl
                    rotate_left
                    ·simp only [Act.put, List.setIfInBounds_toArray, List.set_cons_zero, List.set_cons_succ, i64_w, i32_w]
                     rfl
                    refine pure_ (i := 1) (N := some 62) (v := ?_) (a' := ?_) #[true, true, false, false, false, false, false, false, false, false, false, false, false] rfl rfl (any_of HT_.out (by kernel_rfl)) (fun _ _ _ h => h) (Or.inl ⟨by rfl, ?_⟩) ?_ ?_
                    rotate_left
                    ·intro w'
                     go_simp
                     with_reducible rfl
                    rotate_left
                    ·simp only [Act.put, List.setIfInBounds_toArray, List.set_cons_zero, List.set_cons_succ, i64_w, i32_w]
                     rfl
                    refine pure_ (i := 2) (N := some 63) (v := ?_) (a' := ?_) #[true, true, true, false, false, false, false, false, false, false, false, false, false] rfl rfl (any_of HT_.out (by kernel_rfl)) (fun _ _ _ h => h) (Or.inl ⟨by rfl, ?_⟩) ?_ ?_
                    rotate_left
                    ·intro w'
                     go_simp
                     with_reducible rfl
                    rotate_left
                    ·simp only [Act.put, List.setIfInBounds_toArray, List.set_cons_zero, List.set_cons_succ, i64_w, i32_w]
                     rfl
                    refine pure_ (i := 3) (N := some 64) (v := ?_) (a' := ?_) #[true, true, true, true, false, false, false, false, false, false, false, false, false] rfl rfl (any_of HT_.out (by kernel_rfl)) (fun _ _ _ h => h) (Or.inl ⟨by rfl, ?_⟩) ?_ ?_
                    rotate_left
                    ·intro w'
                     go_simp
                     with_reducible rfl
                    rotate_left
                    ·simp only [Act.put, List.setIfInBounds_toArray, List.set_cons_zero, List.set_cons_succ, i64_w, i32_w]
                     rfl
                    refine pure_ (i := 4) (N := some 65) (v := ?_) (a' := ?_) #[true, true, true, true, true, false, false, false, false, false, false, false, false] rfl rfl (any_of HT_.out (by kernel_rfl)) (fun _ _ _ h => h) (Or.inl ⟨by rfl, ?_⟩) ?_ ?_
                    rotate_left
                    ·intro w'
                     go_simp
                     with_reducible rfl
                    rotate_left
                    ·simp only [Act.put, List.setIfInBounds_toArray, List.set_cons_zero, List.set_cons_succ, i64_w, i32_w]
                     rfl
                    refine pure_ (i := 6) (N := some 67) (v := ?_) (a' := ?_) #[true, true, true, true, true, false, true, false, false, false, false, false, false] rfl rfl (any_of HT_.out (by kernel_rfl)) (fun _ _ _ h => h) (Or.inl ⟨by rfl, ?_⟩) ?_ ?_
                    rotate_left
                    ·intro w'
                     go_simp
                     with_reducible rfl
                    rotate_left
                    ·simp only [Act.put, List.setIfInBounds_toArray, List.set_cons_zero, List.set_cons_succ, i64_w, i32_w]
                     rfl
                    refine pure_ (i := 7) (N := some 68) (v := ?_) (a' := ?_) #[true, true, true, true, true, false, true, true, false, false, false, false, false] rfl rfl (any_of HT_.out (by kernel_rfl)) (fun _ _ _ h => h) (Or.inl ⟨by rfl, ?_⟩) ?_ ?_
                    rotate_left
                    ·intro w'
                     go_simp
                     with_reducible rfl
                    rotate_left
                    ·simp only [Act.put, List.setIfInBounds_toArray, List.set_cons_zero, List.set_cons_succ, i64_w, i32_w]
                     rfl
                    refine pure_ (i := 8) (N := some 69) (v := ?_) (a' := ?_) #[true, true, true, true, true, false, true, true, true, false, false, false, false] rfl rfl (any_of HT_.out (by kernel_rfl)) (fun _ _ _ h => h) (Or.inl ⟨by rfl, ?_⟩) ?_ ?_
                    rotate_left
                    ·intro w'
                     go_simp
                     with_reducible rfl
                    rotate_left
                    ·simp only [Act.put, List.setIfInBounds_toArray, List.set_cons_zero, List.set_cons_succ, i64_w, i32_w]
                     rfl
                    refine take_ (i := 5) (N := some 66) (v := ?_) (a' := ?_) #[true, true, true, true, true, true, true, true, true, false, false, false, false] rfl rfl (take_ofW HT_.out HW_.out (by kernel_rfl)) (fun _ _ _ h => h) (Or.inl ⟨by rfl, ?_⟩) hHeld ?_ ?_
                    rotate_left
                    ·rintro w' ⟨s0, s1, s2, s3, s4, s5, s6, s7⟩
                     go_simp
                     with_reducible rfl
                    rotate_left
                    ·simp only [Act.put, List.setIfInBounds_toArray, List.set_cons_zero, List.set_cons_succ, i64_w, i32_w]
                     rfl
                    refine take_ (i := 9) (N := some 70) (v := ?_) (a' := ?_) #[true, true, true, true, true, true, true, true, true, true, false, false, false] rfl rfl (take_ofW HT_.out HW_.out (by kernel_rfl)) (fun _ _ _ h => h) (Or.inl ⟨by rfl, ?_⟩) hHeld ?_ ?_
                    rotate_left
                    ·rintro w' ⟨s0, s1, s2, s3, s4, s5, s6, s7⟩
                     go_simp
                     with_reducible rfl
                    rotate_left
                    ·simp only [Act.put, List.setIfInBounds_toArray, List.set_cons_zero, List.set_cons_succ, i64_w, i32_w]
                     rfl
                    refine pure_ (i := 10) (N := some 71) (v := ?_) (a' := ?_) #[true, true, true, true, true, true, true, true, true, true, true, false, false] rfl rfl (any_of HT_.out (by kernel_rfl)) (fun _ _ _ h => h) (Or.inl ⟨by rfl, ?_⟩) ?_ ?_
                    rotate_left
                    ·intro w'
                     go_simp
                     with_reducible rfl
                    rotate_left
                    ·simp only [Act.put, List.setIfInBounds_toArray, List.set_cons_zero, List.set_cons_succ, i64_w, i32_w]
                     rfl
                    refine pure_ (i := 11) (N := some 72) (v := ?_) (a' := ?_) #[true, true, true, true, true, true, true, true, true, true, true, true, false] rfl rfl (any_of HT_.out (by kernel_rfl)) (fun _ _ _ h => h) (Or.inl ⟨by rfl, ?_⟩) ?_ ?_
                    rotate_left
                    ·intro w'
                     go_simp
                     with_reducible rfl
                    rotate_left
                    ·simp only [Act.put, List.setIfInBounds_toArray, List.set_cons_zero, List.set_cons_succ, i64_w, i32_w]
                     rfl
                    refine pure_ (i := 12) (N := some 7) (v := ?_) (a' := ?_) #[true, true, true, true, true, true, true, true, true, true, true, true, true] rfl rfl (any_of HT_.out (by kernel_rfl)) (fun _ _ _ h => h) (Or.inl ⟨by rfl, ?_⟩) ?_ ?_
                    rotate_left
                    ·intro w'
                     go_simp
                     with_reducible rfl
                    rotate_left
                    ·simp only [Act.put, List.setIfInBounds_toArray, List.set_cons_zero, List.set_cons_succ, i64_w, i32_w]
                     rfl
                    refine done_ (done_of HT_.out (by kernel_rfl)) ?_
                    try go_wp2
                    go_roundg k2
                    case measure => have := HK1.out; have := HK2.out; omega
                    case rel => exact ⟨(true), (wrap64 (x41_2 + 1)), (by first | rfl | (simp; done) | (simp [*]; done)), (by first | rfl | (simp; done) | (simp [*]; done)), H', ⟨by have := HK1.out; have := HK2.out; omega⟩, ⟨by (with_reducible repeat (first | apply Kd.R_alloc | apply Kd.R_drewN | apply Kd.R_drew)); exact HO_8.out⟩, ⟨by repeat (first | (with_reducible first | exact HB.out | apply bA | apply bN | apply b1) | exact HB.out)⟩⟩
                   ·rw [if_neg c24] at H
                    exact absurd H (by simp)
                  ·rw [if_neg c23] at H
                   exact absurd H (by simp)
                 ·replace c22 := Bool.eq_false_iff.mpr c22
                  subst c22
                  have H1 : (none) = some r := by rw [if_neg (show ¬ (false = true) by decide)] at H; exact H
                  clear H
                  have H := H1
                  clear H1
                  exact absurd H (by simp)
                ·rw [if_neg c21] at H
                 have c21b0 : decide (0 < ((rd_T39 t275 x41_2).f3)) = false := dF c21
                 clear c21
                 have H' := Aside0.mk H
                 clear H
                 try go_wp2
                 have n0_ := Aside0.mk (Kd.R_drew HO_8.out)
                 have n1_ := Aside0.mk (b1 HB.out)
                 clear HO_8
                 clear HB
                 have HO_8 := n0_
                 have HB := n1_
                 clear n0_ n1_
                 have p280 : 0 ≤ (x41_2 : Int) := oT (by first | (with_reducible assumption) | assumption)
                 have q280 : x41_2 < (l0.length : Int) := oT (by first | (with_reducible assumption) | assumption)
                 obtain ⟨ad280, e280, hx280_0, hx280_1, hx280_2, hx280_3⟩ := at_T39 HR0.out x41_2 p280 q280
                 have hw280_3 := hx280_3
                 have hw280_2 := hx280_2
                 have hw280_1 := hx280_1
                 have hw280_0 := hx280_0
                 cases e280
                 replace hx280_0 := (HB.out.cell (World.block_lt_of_cell? w _ hx280_0)).trans hx280_0
                 replace hx280_1 := (HB.out.cell (World.block_lt_of_cell? w _ hx280_1)).trans hx280_1
                 replace hx280_2 := (HB.out.cell (World.block_lt_of_cell? w _ hx280_2)).trans hx280_2
                 replace hx280_3 := (HB.out.cell (World.block_lt_of_cell? w _ hx280_3)).trans hx280_3
                 replace p280 := eq_true p280
                 replace q280 := eq_true q280
                 have p281 : 0 ≤ (x36_1 : Int) := oT (by first | (with_reducible assumption) | assumption)
                 have q281 : x36_1 < (l0.length : Int) := oT (by first | (with_reducible assumption) | assumption)
                 obtain ⟨ad281, e281, hx281_0, hx281_1, hx281_2, hx281_3⟩ := at_T39 HR0.out x36_1 p281 q281
                 have hw281_3 := hx281_3
                 have hw281_2 := hx281_2
                 have hw281_1 := hx281_1
                 have hw281_0 := hx281_0
                 obtain rfl : ad280 = ad281 := (by injection e281)
                 replace hx281_0 := (HB.out.cell (World.block_lt_of_cell? w _ hx281_0)).trans hx281_0
                 replace hx281_1 := (HB.out.cell (World.block_lt_of_cell? w _ hx281_1)).trans hx281_1
                 replace hx281_2 := (HB.out.cell (World.block_lt_of_cell? w _ hx281_2)).trans hx281_2
                 replace hx281_3 := (HB.out.cell (World.block_lt_of_cell? w _ hx281_3)).trans hx281_3
                 replace p281 := eq_true p281
                 replace q281 := eq_true q281
                 have p283 : 0 ≤ (x41_2 : Int) := oT (by first | (with_reducible assumption) | assumption)
                 have q283 : x41_2 < (t275.length : Int) := oT (by first | (with_reducible assumption) | assumption)
                 obtain ⟨ad283, e283, hx283_0, hx283_1, hx283_2, hx283_3⟩ := at_T39 (Kd.R_reads' HO_8.out).2.2 x41_2 p283 q283
                 cases e283
                 replace p283 := eq_true p283
                 replace q283 := eq_true q283
                 refine start_ (n := 17) (S := fun w' => w'.cell? (ad280.add ((x41_2).toNat * 4)) = some (.int .i64 ((rd_T39 l0 x41_2).f0)) ∧ w'.cell? ⟨(ad280.add ((x41_2).toNat * 4)).block, (ad280.add ((x41_2).toNat * 4)).off + 1, none⟩ = some (.int .i64 ((rd_T39 l0 x41_2).f1)) ∧ w'.cell? ⟨(ad280.add ((x41_2).toNat * 4)).block, (ad280.add ((x41_2).toNat * 4)).off + 2, none⟩ = some (.int .i64 ((rd_T39 l0 x41_2).f2)) ∧ w'.cell? ⟨(ad280.add ((x41_2).toNat * 4)).block, (ad280.add ((x41_2).toNat * 4)).off + 3, none⟩ = some (.int .i64 ((rd_T39 l0 x41_2).f3)) ∧ w'.cell? (ad280.add ((x36_1).toNat * 4)) = some (.int .i64 ((rd_T39 l0 x36_1).f0)) ∧ w'.cell? ⟨(ad280.add ((x36_1).toNat * 4)).block, (ad280.add ((x36_1).toNat * 4)).off + 1, none⟩ = some (.int .i64 ((rd_T39 l0 x36_1).f1)) ∧ w'.cell? ⟨(ad280.add ((x36_1).toNat * 4)).block, (ad280.add ((x36_1).toNat * 4)).off + 2, none⟩ = some (.int .i64 ((rd_T39 l0 x36_1).f2)) ∧ w'.cell? ⟨(ad280.add ((x36_1).toNat * 4)).block, (ad280.add ((x36_1).toNat * 4)).off + 3, none⟩ = some (.int .i64 ((rd_T39 l0 x36_1).f3)) ∧ w'.cell? (ad283.add ((x41_2).toNat * 4)) = some (.int .i64 ((rd_T39 t275 x41_2).f0)) ∧ w'.cell? ⟨(ad283.add ((x41_2).toNat * 4)).block, (ad283.add ((x41_2).toNat * 4)).off + 1, none⟩ = some (.int .i64 ((rd_T39 t275 x41_2).f1)) ∧ w'.cell? ⟨(ad283.add ((x41_2).toNat * 4)).block, (ad283.add ((x41_2).toNat * 4)).off + 2, none⟩ = some (.int .i64 ((rd_T39 t275 x41_2).f2)) ∧ w'.cell? ⟨(ad283.add ((x41_2).toNat * 4)).block, (ad283.add ((x41_2).toNat * 4)).off + 3, none⟩ = some (.int .i64 ((rd_T39 t275 x41_2).f3))) (ds := []) #[false, false, false, false, false, false, false, false, false, false, false, false, false, false, false, false, false] (by kernel_rfl) rfl rfl ⟨((HB.out.cell (World.block_lt_of_cell? w _ hw280_0)).trans hw280_0), ((HB.out.cell (World.block_lt_of_cell? w _ hw280_1)).trans hw280_1), ((HB.out.cell (World.block_lt_of_cell? w _ hw280_2)).trans hw280_2), ((HB.out.cell (World.block_lt_of_cell? w _ hw280_3)).trans hw280_3), ((HB.out.cell (World.block_lt_of_cell? w _ hw281_0)).trans hw281_0), ((HB.out.cell (World.block_lt_of_cell? w _ hw281_1)).trans hw281_1), ((HB.out.cell (World.block_lt_of_cell? w _ hw281_2)).trans hw281_2), ((HB.out.cell (World.block_lt_of_cell? w _ hw281_3)).trans hw281_3), hx283_0, hx283_1, hx283_2, hx283_3⟩ (fun hHeld => ?_); refine with_tabW cohousinglaw34_SetoffOrder.tab13 cohousinglaw34_SetoffOrder.bits13 (fun HT_ HW_ => ?_)
                 generalize wr.drew = w28 at HO_8 HB hx280_0 hx280_1 hx280_2 hx280_3 hx281_0 hx281_1 hx281_2 hx281_3 hx283_0 hx283_1 hx283_2 hx283_3 hHeld ⊢
                 refine pure_ (i := 0) (N := some 44) (v := ?_) (a' := ?_) #[true, false, false, false, false, false, false, false, false, false, false, false, false, false, false, false, false] rfl rfl (any_of HT_.out (by kernel_rfl)) (fun _ _ _ h => h) (Or.inl ⟨by rfl, ?_⟩) ?_ ?_
                 rotate_left
                 ·intro w'
                  go_simp
                  with_reducible rfl
                 rotate_left
                 ·simp only [Act.put, List.setIfInBounds_toArray, List.set_cons_zero, List.set_cons_succ, i64_w, i32_w]
                  rfl
                 refine pure_ (i := 1) (N := some 45) (v := ?_) (a' := ?_) #[true, true, false, false, false, false, false, false, false, false, false, false, false, false, false, false, false] rfl rfl (any_of HT_.out (by kernel_rfl)) (fun _ _ _ h => h) (Or.inl ⟨by rfl, ?_⟩) ?_ ?_
                 rotate_left
                 ·intro w'
                  go_simp
                  with_reducible rfl
                 rotate_left
                 ·simp only [Act.put, List.setIfInBounds_toArray, List.set_cons_zero, List.set_cons_succ, i64_w, i32_w]
                  rfl
                 refine pure_ (i := 2) (N := some 46) (v := ?_) (a' := ?_) #[true, true, true, false, false, false, false, false, false, false, false, false, false, false, false, false, false] rfl rfl (any_of HT_.out (by kernel_rfl)) (fun _ _ _ h => h) (Or.inl ⟨by rfl, ?_⟩) ?_ ?_
                 rotate_left
                 ·intro w'
                  go_simp
                  with_reducible rfl
                 rotate_left
                 ·simp only [Act.put, List.setIfInBounds_toArray, List.set_cons_zero, List.set_cons_succ, i64_w, i32_w]
                  rfl
                 refine pure_ (i := 4) (N := some 48) (v := ?_) (a' := ?_) #[true, true, true, false, true, false, false, false, false, false, false, false, false, false, false, false, false] rfl rfl (any_of HT_.out (by kernel_rfl)) (fun _ _ _ h => h) (Or.inl ⟨by rfl, ?_⟩) ?_ ?_
                 rotate_left
                 ·intro w'
                  go_simp
                  with_reducible rfl
                 rotate_left
                 ·simp only [Act.put, List.setIfInBounds_toArray, List.set_cons_zero, List.set_cons_succ, i64_w, i32_w]
                  rfl
                 refine pure_ (i := 5) (N := some 49) (v := ?_) (a' := ?_) #[true, true, true, false, true, true, false, false, false, false, false, false, false, false, false, false, false] rfl rfl (any_of HT_.out (by kernel_rfl)) (fun _ _ _ h => h) (Or.inl ⟨by rfl, ?_⟩) ?_ ?_
                 rotate_left
                 ·intro w'
                  go_simp
                  with_reducible rfl
                 rotate_left
                 ·simp only [Act.put, List.setIfInBounds_toArray, List.set_cons_zero, List.set_cons_succ, i64_w, i32_w]
                  rfl
                 refine pure_ (i := 6) (N := some 50) (v := ?_) (a' := ?_) #[true, true, true, false, true, true, true, false, false, false, false, false, false, false, false, false, false] rfl rfl (any_of HT_.out (by kernel_rfl)) (fun _ _ _ h => h) (Or.inl ⟨by rfl, ?_⟩) ?_ ?_
                 rotate_left
                 ·intro w'
                  go_simp
                  with_reducible rfl
                 rotate_left
                 ·simp only [Act.put, List.setIfInBounds_toArray, List.set_cons_zero, List.set_cons_succ, i64_w, i32_w]
                  rfl
                 refine take_ (i := 3) (N := some 47) (v := ?_) (a' := ?_) #[true, true, true, true, true, true, true, false, false, false, false, false, false, false, false, false, false] rfl rfl (take_ofW HT_.out HW_.out (by kernel_rfl)) (fun _ _ _ h => h) (Or.inl ⟨by rfl, ?_⟩) hHeld ?_ ?_
                 rotate_left
                 ·rintro w' ⟨s0, s1, s2, s3, s4, s5, s6, s7, s8, s9, s10, s11⟩
                  go_simp
                  with_reducible rfl
                 rotate_left
                 ·simp only [Act.put, List.setIfInBounds_toArray, List.set_cons_zero, List.set_cons_succ, i64_w, i32_w]
                  rfl
                 refine take_ (i := 7) (N := some 51) (v := ?_) (a' := ?_) #[true, true, true, true, true, true, true, true, false, false, false, false, false, false, false, false, false] rfl rfl (take_ofW HT_.out HW_.out (by kernel_rfl)) (fun _ _ _ h => h) (Or.inl ⟨by rfl, ?_⟩) hHeld ?_ ?_
                 rotate_left
                 ·rintro w' ⟨s0, s1, s2, s3, s4, s5, s6, s7, s8, s9, s10, s11⟩
                  go_simp
                  with_reducible rfl
                 rotate_left
                 ·simp only [Act.put, List.setIfInBounds_toArray, List.set_cons_zero, List.set_cons_succ, i64_w, i32_w]
                  rfl
                 refine one_ (i := 8) (N := some 52) #[true, true, true, true, true, true, true, true, true, false, false, false, false, false, false, false, false] rfl rfl (one_of HT_.out (by kernel_rfl)) (by decide) (fun K hK => ?_)
                 refine goes_ Tryz.func21 (by kernel_rfl) rfl #[.agg #[.int .i64 ((rd_T39 l0 x41_2).f0), .int .i64 ((rd_T39 l0 x41_2).f1), .int .i64 ((rd_T39 l0 x41_2).f2), .int .i64 ((rd_T39 l0 x41_2).f3)], .agg #[.int .i64 ((rd_T39 l0 x36_1).f0), .int .i64 ((rd_T39 l0 x36_1).f1), .int .i64 ((rd_T39 l0 x36_1).f2), .int .i64 ((rd_T39 l0 x36_1).f3)]] (by rfl) rfl rfl (by (try simp only [List.map_toArray, List.map_cons, List.map_nil]); first | done | rfl | (simp only [List.length_drop, List.length_take]; rfl)) ?_
                 with_reducible refine (cohousingref34_Before.calls ((rd_T39 l0 x41_2).f0) ((rd_T39 l0 x41_2).f1) ((rd_T39 l0 x41_2).f2) ((rd_T39 l0 x41_2).f3) ((rd_T39 l0 x36_1).f0) ((rd_T39 l0 x36_1).f1) ((rd_T39 l0 x36_1).f2) ((rd_T39 l0 x36_1).f3) true _ A18.out).mono ?_
                 rintro e w29 ⟨rfl, hb⟩
                 have HS8_ := (hb.cell (World.block_lt_of_cell? _ _ (hHeld.2.2.2.2.2.2.2.2.1))).trans (hHeld.2.2.2.2.2.2.2.2.1)
                 have HS9_ := (hb.cell (World.block_lt_of_cell? _ _ (hHeld.2.2.2.2.2.2.2.2.2.1))).trans (hHeld.2.2.2.2.2.2.2.2.2.1)
                 have HS10_ := (hb.cell (World.block_lt_of_cell? _ _ (hHeld.2.2.2.2.2.2.2.2.2.2.1))).trans (hHeld.2.2.2.2.2.2.2.2.2.2.1)
                 have HS11_ := (hb.cell (World.block_lt_of_cell? _ _ (hHeld.2.2.2.2.2.2.2.2.2.2.2))).trans (hHeld.2.2.2.2.2.2.2.2.2.2.2)
                 refine ⟨_, rfl, ?_⟩
                 have n0_ := Aside0.mk (Kd.R_below (by (with_reducible repeat (first | apply Kd.R_alloc | apply Kd.R_drewN | apply Kd.R_drew)); exact HO_8.out) hb)
                 have n1_ := Aside0.mk (bT (by repeat (first | (with_reducible first | exact HB.out | apply bA | apply bN | apply b1) | exact HB.out)) hb)
                 clear HO_8
                 clear HB
                 have HO_8 := n0_
                 have HB := n1_
                 clear n0_ n1_
                 (try clear hb)
                 (try clear hb2)
                 (try clear hk)
                 (try clear hi)
                 refine hK.out _ _ ⟨((HB.out.cell (World.block_lt_of_cell? w _ hw280_0)).trans hw280_0), ((HB.out.cell (World.block_lt_of_cell? w _ hw280_1)).trans hw280_1), ((HB.out.cell (World.block_lt_of_cell? w _ hw280_2)).trans hw280_2), ((HB.out.cell (World.block_lt_of_cell? w _ hw280_3)).trans hw280_3), ((HB.out.cell (World.block_lt_of_cell? w _ hw281_0)).trans hw281_0), ((HB.out.cell (World.block_lt_of_cell? w _ hw281_1)).trans hw281_1), ((HB.out.cell (World.block_lt_of_cell? w _ hw281_2)).trans hw281_2), ((HB.out.cell (World.block_lt_of_cell? w _ hw281_3)).trans hw281_3), HS8_, HS9_, HS10_, HS11_⟩ (fun hHeld => ?_)
                 clear hK K
                 refine norm_ (a' := ?_) ?_ ?_
                 rotate_left
                 ·show Act.put _ (some 52) _ = _
                  simp only [Act.put, List.setIfInBounds_toArray, List.set_cons_zero, List.set_cons_succ, i64_w, i32_w]
                  rfl
                 refine pure_ (i := 9) (N := some 53) (v := ?_) (a' := ?_) #[true, true, true, true, true, true, true, true, true, true, false, false, false, false, false, false, false] rfl rfl (any_of HT_.out (by kernel_rfl)) (fun _ _ _ h => h) (Or.inl ⟨by rfl, ?_⟩) ?_ ?_
                 rotate_left
                 ·intro w'
                  go_simp
                  with_reducible rfl
                 rotate_left
                 ·simp only [Act.put, List.setIfInBounds_toArray, List.set_cons_zero, List.set_cons_succ, i64_w, i32_w]
                  rfl
                 refine pure_ (i := 10) (N := some 54) (v := ?_) (a' := ?_) #[true, true, true, true, true, true, true, true, true, true, true, false, false, false, false, false, false] rfl rfl (any_of HT_.out (by kernel_rfl)) (fun _ _ _ h => h) (Or.inl ⟨by rfl, ?_⟩) ?_ ?_
                 rotate_left
                 ·intro w'
                  go_simp
                  with_reducible rfl
                 rotate_left
                 ·simp only [Act.put, List.setIfInBounds_toArray, List.set_cons_zero, List.set_cons_succ, i64_w, i32_w]
                  rfl
                 refine pure_ (i := 11) (N := some 55) (v := ?_) (a' := ?_) #[true, true, true, true, true, true, true, true, true, true, true, true, false, false, false, false, false] rfl rfl (any_of HT_.out (by kernel_rfl)) (fun _ _ _ h => h) (Or.inl ⟨by rfl, ?_⟩) ?_ ?_
                 rotate_left
                 ·intro w'
                  go_simp
                  with_reducible rfl
                 rotate_left
                 ·simp only [Act.put, List.setIfInBounds_toArray, List.set_cons_zero, List.set_cons_succ, i64_w, i32_w]
                  rfl
                 refine pure_ (i := 12) (N := some 56) (v := ?_) (a' := ?_) #[true, true, true, true, true, true, true, true, true, true, true, true, true, false, false, false, false] rfl rfl (any_of HT_.out (by kernel_rfl)) (fun _ _ _ h => h) (Or.inl ⟨by rfl, ?_⟩) ?_ ?_
                 rotate_left
                 ·intro w'
                  go_simp
                  with_reducible rfl
                 rotate_left
                 ·simp only [Act.put, List.setIfInBounds_toArray, List.set_cons_zero, List.set_cons_succ, i64_w, i32_w]
                  rfl
                 refine pure_ (i := 13) (N := some 57) (v := ?_) (a' := ?_) #[true, true, true, true, true, true, true, true, true, true, true, true, true, true, false, false, false] rfl rfl (any_of HT_.out (by kernel_rfl)) (fun _ _ _ h => h) (Or.inl ⟨by rfl, ?_⟩) ?_ ?_
                 rotate_left
                 ·intro w'
                  go_simp
                  with_reducible rfl
                 rotate_left
                 ·simp only [Act.put, List.setIfInBounds_toArray, List.set_cons_zero, List.set_cons_succ, i64_w, i32_w]
                  rfl
                 refine take_ (i := 14) (N := some 58) (v := ?_) (a' := ?_) #[true, true, true, true, true, true, true, true, true, true, true, true, true, true, true, false, false] rfl rfl (take_ofW HT_.out HW_.out (by kernel_rfl)) (fun _ _ _ h => h) (Or.inl ⟨by rfl, ?_⟩) hHeld ?_ ?_
                 rotate_left
                 ·rintro w' ⟨s0, s1, s2, s3, s4, s5, s6, s7, s8, s9, s10, s11⟩
                  go_simp
                  with_reducible rfl
                 rotate_left
                 ·simp only [Act.put, List.setIfInBounds_toArray, List.set_cons_zero, List.set_cons_succ, i64_w, i32_w]
                  rfl
                 refine pure_ (i := 15) (N := some 59) (v := ?_) (a' := ?_) #[true, true, true, true, true, true, true, true, true, true, true, true, true, true, true, true, false] rfl rfl (any_of HT_.out (by kernel_rfl)) (fun _ _ _ h => h) (Or.inl ⟨by rfl, ?_⟩) ?_ ?_
                 rotate_left
                 ·intro w'
                  go_simp
                  with_reducible rfl
                 rotate_left
                 ·simp only [Act.put, List.setIfInBounds_toArray, List.set_cons_zero, List.set_cons_succ, i64_w, i32_w]
                  rfl
                 refine pure_ (i := 16) (N := some 60) (v := ?_) (a' := ?_) #[true, true, true, true, true, true, true, true, true, true, true, true, true, true, true, true, true] rfl rfl (any_of HT_.out (by kernel_rfl)) (fun _ _ _ h => h) (Or.inl ⟨by rfl, ?_⟩) ?_ ?_
                 rotate_left
                 ·intro w'
                  go_simp
                  with_reducible rfl
                 rotate_left
                 ·simp only [Act.put, List.setIfInBounds_toArray, List.set_cons_zero, List.set_cons_succ, i64_w, i32_w]
                  rfl
                 refine done_ (done_of HT_.out (by kernel_rfl)) ?_
                 try go_wp2
                 go_roundg k2
                 case measure => have := HK1.out; have := HK2.out; omega
                 case rel => exact ⟨(x7_2), (wrap64 (x41_2 + 1)), (by first | rfl | (simp; done) | (simp [*]; done)), (by first | rfl | (simp; done) | (simp [*]; done)), H', ⟨by have := HK1.out; have := HK2.out; omega⟩, ⟨by (with_reducible repeat (first | apply Kd.R_alloc | apply Kd.R_drewN | apply Kd.R_drew)); exact HO_8.out⟩, ⟨by repeat (first | (with_reducible first | exact HB.out | apply bA | apply bN | apply b1) | exact HB.out)⟩⟩
               ·rw [if_neg c20] at H
                exact absurd H (by simp)
              ·replace c19 := Bool.eq_false_iff.mpr c19
               subst c19
               have H1 : (cohousinglaw34_SetoffOrder.l1 k2 l0 a1 a2 x7_2 t275 t276 x36_1 (l0.length : Int) x36_1 (l0.length : Int) (wrap64 (x41_2 + 1))) = some r := by rw [if_neg (show ¬ (false = true) by decide)] at H; exact H
               clear H
               have H := H1
               clear H1
               have H' := Aside0.mk H
               clear H
               try go_wp2
               have n0_ := Aside0.mk (Kd.R_drew HO_8.out)
               have n1_ := Aside0.mk (b1 HB.out)
               clear HO_8
               clear HB
               have HO_8 := n0_
               have HB := n1_
               clear n0_ n1_
               have p280 : 0 ≤ (x41_2 : Int) := oT (by first | (with_reducible assumption) | assumption)
               have q280 : x41_2 < (l0.length : Int) := oT (by first | (with_reducible assumption) | assumption)
               obtain ⟨ad280, e280, hx280_0, hx280_1, hx280_2, hx280_3⟩ := at_T39 HR0.out x41_2 p280 q280
               have hw280_3 := hx280_3
               have hw280_2 := hx280_2
               have hw280_1 := hx280_1
               have hw280_0 := hx280_0
               cases e280
               replace hx280_0 := (HB.out.cell (World.block_lt_of_cell? w _ hx280_0)).trans hx280_0
               replace hx280_1 := (HB.out.cell (World.block_lt_of_cell? w _ hx280_1)).trans hx280_1
               replace hx280_2 := (HB.out.cell (World.block_lt_of_cell? w _ hx280_2)).trans hx280_2
               replace hx280_3 := (HB.out.cell (World.block_lt_of_cell? w _ hx280_3)).trans hx280_3
               replace p280 := eq_true p280
               replace q280 := eq_true q280
               have p281 : 0 ≤ (x36_1 : Int) := oT (by first | (with_reducible assumption) | assumption)
               have q281 : x36_1 < (l0.length : Int) := oT (by first | (with_reducible assumption) | assumption)
               obtain ⟨ad281, e281, hx281_0, hx281_1, hx281_2, hx281_3⟩ := at_T39 HR0.out x36_1 p281 q281
               have hw281_3 := hx281_3
               have hw281_2 := hx281_2
               have hw281_1 := hx281_1
               have hw281_0 := hx281_0
               obtain rfl : ad280 = ad281 := (by injection e281)
               replace hx281_0 := (HB.out.cell (World.block_lt_of_cell? w _ hx281_0)).trans hx281_0
               replace hx281_1 := (HB.out.cell (World.block_lt_of_cell? w _ hx281_1)).trans hx281_1
               replace hx281_2 := (HB.out.cell (World.block_lt_of_cell? w _ hx281_2)).trans hx281_2
               replace hx281_3 := (HB.out.cell (World.block_lt_of_cell? w _ hx281_3)).trans hx281_3
               replace p281 := eq_true p281
               replace q281 := eq_true q281
               refine start_ (n := 17) (S := fun w' => w'.cell? (ad280.add ((x41_2).toNat * 4)) = some (.int .i64 ((rd_T39 l0 x41_2).f0)) ∧ w'.cell? ⟨(ad280.add ((x41_2).toNat * 4)).block, (ad280.add ((x41_2).toNat * 4)).off + 1, none⟩ = some (.int .i64 ((rd_T39 l0 x41_2).f1)) ∧ w'.cell? ⟨(ad280.add ((x41_2).toNat * 4)).block, (ad280.add ((x41_2).toNat * 4)).off + 2, none⟩ = some (.int .i64 ((rd_T39 l0 x41_2).f2)) ∧ w'.cell? ⟨(ad280.add ((x41_2).toNat * 4)).block, (ad280.add ((x41_2).toNat * 4)).off + 3, none⟩ = some (.int .i64 ((rd_T39 l0 x41_2).f3)) ∧ w'.cell? (ad280.add ((x36_1).toNat * 4)) = some (.int .i64 ((rd_T39 l0 x36_1).f0)) ∧ w'.cell? ⟨(ad280.add ((x36_1).toNat * 4)).block, (ad280.add ((x36_1).toNat * 4)).off + 1, none⟩ = some (.int .i64 ((rd_T39 l0 x36_1).f1)) ∧ w'.cell? ⟨(ad280.add ((x36_1).toNat * 4)).block, (ad280.add ((x36_1).toNat * 4)).off + 2, none⟩ = some (.int .i64 ((rd_T39 l0 x36_1).f2)) ∧ w'.cell? ⟨(ad280.add ((x36_1).toNat * 4)).block, (ad280.add ((x36_1).toNat * 4)).off + 3, none⟩ = some (.int .i64 ((rd_T39 l0 x36_1).f3))) (ds := []) #[false, false, false, false, false, false, false, false, false, false, false, false, false, false, false, false, false] (by kernel_rfl) rfl rfl ⟨((HB.out.cell (World.block_lt_of_cell? w _ hw280_0)).trans hw280_0), ((HB.out.cell (World.block_lt_of_cell? w _ hw280_1)).trans hw280_1), ((HB.out.cell (World.block_lt_of_cell? w _ hw280_2)).trans hw280_2), ((HB.out.cell (World.block_lt_of_cell? w _ hw280_3)).trans hw280_3), ((HB.out.cell (World.block_lt_of_cell? w _ hw281_0)).trans hw281_0), ((HB.out.cell (World.block_lt_of_cell? w _ hw281_1)).trans hw281_1), ((HB.out.cell (World.block_lt_of_cell? w _ hw281_2)).trans hw281_2), ((HB.out.cell (World.block_lt_of_cell? w _ hw281_3)).trans hw281_3)⟩ (fun hHeld => ?_); refine with_tabW cohousinglaw34_SetoffOrder.tab13 cohousinglaw34_SetoffOrder.bits13 (fun HT_ HW_ => ?_)
               generalize wr.drew = w30 at HO_8 HB hx280_0 hx280_1 hx280_2 hx280_3 hx281_0 hx281_1 hx281_2 hx281_3 hHeld ⊢
               refine pure_ (i := 0) (N := some 44) (v := ?_) (a' := ?_) #[true, false, false, false, false, false, false, false, false, false, false, false, false, false, false, false, false] rfl rfl (any_of HT_.out (by kernel_rfl)) (fun _ _ _ h => h) (Or.inl ⟨by rfl, ?_⟩) ?_ ?_
               rotate_left
               ·intro w'
                go_simp
                with_reducible rfl
               rotate_left
               ·simp only [Act.put, List.setIfInBounds_toArray, List.set_cons_zero, List.set_cons_succ, i64_w, i32_w]
                rfl
               refine pure_ (i := 1) (N := some 45) (v := ?_) (a' := ?_) #[true, true, false, false, false, false, false, false, false, false, false, false, false, false, false, false, false] rfl rfl (any_of HT_.out (by kernel_rfl)) (fun _ _ _ h => h) (Or.inl ⟨by rfl, ?_⟩) ?_ ?_
               rotate_left
               ·intro w'
                go_simp
                with_reducible rfl
               rotate_left
               ·simp only [Act.put, List.setIfInBounds_toArray, List.set_cons_zero, List.set_cons_succ, i64_w, i32_w]
                rfl
               refine pure_ (i := 2) (N := some 46) (v := ?_) (a' := ?_) #[true, true, true, false, false, false, false, false, false, false, false, false, false, false, false, false, false] rfl rfl (any_of HT_.out (by kernel_rfl)) (fun _ _ _ h => h) (Or.inl ⟨by rfl, ?_⟩) ?_ ?_
               rotate_left
               ·intro w'
                go_simp
                with_reducible rfl
               rotate_left
               ·simp only [Act.put, List.setIfInBounds_toArray, List.set_cons_zero, List.set_cons_succ, i64_w, i32_w]
                rfl
               refine pure_ (i := 4) (N := some 48) (v := ?_) (a' := ?_) #[true, true, true, false, true, false, false, false, false, false, false, false, false, false, false, false, false] rfl rfl (any_of HT_.out (by kernel_rfl)) (fun _ _ _ h => h) (Or.inl ⟨by rfl, ?_⟩) ?_ ?_
               rotate_left
               ·intro w'
                go_simp
                with_reducible rfl
               rotate_left
               ·simp only [Act.put, List.setIfInBounds_toArray, List.set_cons_zero, List.set_cons_succ, i64_w, i32_w]
                rfl
               refine pure_ (i := 5) (N := some 49) (v := ?_) (a' := ?_) #[true, true, true, false, true, true, false, false, false, false, false, false, false, false, false, false, false] rfl rfl (any_of HT_.out (by kernel_rfl)) (fun _ _ _ h => h) (Or.inl ⟨by rfl, ?_⟩) ?_ ?_
               rotate_left
               ·intro w'
                go_simp
                with_reducible rfl
               rotate_left
               ·simp only [Act.put, List.setIfInBounds_toArray, List.set_cons_zero, List.set_cons_succ, i64_w, i32_w]
                rfl
               refine pure_ (i := 6) (N := some 50) (v := ?_) (a' := ?_) #[true, true, true, false, true, true, true, false, false, false, false, false, false, false, false, false, false] rfl rfl (any_of HT_.out (by kernel_rfl)) (fun _ _ _ h => h) (Or.inl ⟨by rfl, ?_⟩) ?_ ?_
               rotate_left
               ·intro w'
                go_simp
                with_reducible rfl
               rotate_left
               ·simp only [Act.put, List.setIfInBounds_toArray, List.set_cons_zero, List.set_cons_succ, i64_w, i32_w]
                rfl
               refine take_ (i := 3) (N := some 47) (v := ?_) (a' := ?_) #[true, true, true, true, true, true, true, false, false, false, false, false, false, false, false, false, false] rfl rfl (take_ofW HT_.out HW_.out (by kernel_rfl)) (fun _ _ _ h => h) (Or.inl ⟨by rfl, ?_⟩) hHeld ?_ ?_
               rotate_left
               ·rintro w' ⟨s0, s1, s2, s3, s4, s5, s6, s7⟩
                go_simp
                with_reducible rfl
               rotate_left
               ·simp only [Act.put, List.setIfInBounds_toArray, List.set_cons_zero, List.set_cons_succ, i64_w, i32_w]
                rfl
               refine take_ (i := 7) (N := some 51) (v := ?_) (a' := ?_) #[true, true, true, true, true, true, true, true, false, false, false, false, false, false, false, false, false] rfl rfl (take_ofW HT_.out HW_.out (by kernel_rfl)) (fun _ _ _ h => h) (Or.inl ⟨by rfl, ?_⟩) hHeld ?_ ?_
               rotate_left
               ·rintro w' ⟨s0, s1, s2, s3, s4, s5, s6, s7⟩
                go_simp
                with_reducible rfl
               rotate_left
               ·simp only [Act.put, List.setIfInBounds_toArray, List.set_cons_zero, List.set_cons_succ, i64_w, i32_w]
                rfl
               refine one_ (i := 8) (N := some 52) #[true, true, true, true, true, true, true, true, true, false, false, false, false, false, false, false, false] rfl rfl (one_of HT_.out (by kernel_rfl)) (by decide) (fun K hK => ?_)
               refine goes_ Tryz.func21 (by kernel_rfl) rfl #[.agg #[.int .i64 ((rd_T39 l0 x41_2).f0), .int .i64 ((rd_T39 l0 x41_2).f1), .int .i64 ((rd_T39 l0 x41_2).f2), .int .i64 ((rd_T39 l0 x41_2).f3)], .agg #[.int .i64 ((rd_T39 l0 x36_1).f0), .int .i64 ((rd_T39 l0 x36_1).f1), .int .i64 ((rd_T39 l0 x36_1).f2), .int .i64 ((rd_T39 l0 x36_1).f3)]] (by rfl) rfl rfl (by (try simp only [List.map_toArray, List.map_cons, List.map_nil]); first | done | rfl | (simp only [List.length_drop, List.length_take]; rfl)) ?_
               with_reducible refine (cohousingref34_Before.calls ((rd_T39 l0 x41_2).f0) ((rd_T39 l0 x41_2).f1) ((rd_T39 l0 x41_2).f2) ((rd_T39 l0 x41_2).f3) ((rd_T39 l0 x36_1).f0) ((rd_T39 l0 x36_1).f1) ((rd_T39 l0 x36_1).f2) ((rd_T39 l0 x36_1).f3) false _ A18.out).mono ?_
               rintro e w31 ⟨rfl, hb⟩
               refine ⟨_, rfl, ?_⟩
               have n0_ := Aside0.mk (Kd.R_below (by (with_reducible repeat (first | apply Kd.R_alloc | apply Kd.R_drewN | apply Kd.R_drew)); exact HO_8.out) hb)
               have n1_ := Aside0.mk (bT (by repeat (first | (with_reducible first | exact HB.out | apply bA | apply bN | apply b1) | exact HB.out)) hb)
               clear HO_8
               clear HB
               have HO_8 := n0_
               have HB := n1_
               clear n0_ n1_
               (try clear hb)
               (try clear hb2)
               (try clear hk)
               (try clear hi)
               refine hK.out _ _ ⟨((HB.out.cell (World.block_lt_of_cell? w _ hw280_0)).trans hw280_0), ((HB.out.cell (World.block_lt_of_cell? w _ hw280_1)).trans hw280_1), ((HB.out.cell (World.block_lt_of_cell? w _ hw280_2)).trans hw280_2), ((HB.out.cell (World.block_lt_of_cell? w _ hw280_3)).trans hw280_3), ((HB.out.cell (World.block_lt_of_cell? w _ hw281_0)).trans hw281_0), ((HB.out.cell (World.block_lt_of_cell? w _ hw281_1)).trans hw281_1), ((HB.out.cell (World.block_lt_of_cell? w _ hw281_2)).trans hw281_2), ((HB.out.cell (World.block_lt_of_cell? w _ hw281_3)).trans hw281_3)⟩ (fun hHeld => ?_)
               clear hK K
               refine norm_ (a' := ?_) ?_ ?_
               rotate_left
               ·show Act.put _ (some 52) _ = _
                simp only [Act.put, List.setIfInBounds_toArray, List.set_cons_zero, List.set_cons_succ, i64_w, i32_w]
                rfl
               refine pure_ (i := 9) (N := some 53) (v := ?_) (a' := ?_) #[true, true, true, true, true, true, true, true, true, true, false, false, false, false, false, false, false] rfl rfl (any_of HT_.out (by kernel_rfl)) (fun _ _ _ h => h) (Or.inl ⟨by rfl, ?_⟩) ?_ ?_
               rotate_left
               ·intro w'
                go_simp
                with_reducible rfl
               rotate_left
               ·simp only [Act.put, List.setIfInBounds_toArray, List.set_cons_zero, List.set_cons_succ, i64_w, i32_w]
                rfl
               refine pure_ (i := 10) (N := some 54) (v := undef) (a' := ?_) #[true, true, true, true, true, true, true, true, true, true, true, false, false, false, false, false, false] rfl rfl (any_of HT_.out (by kernel_rfl)) (fun _ _ _ h => h) (Or.inr ⟨by rfl, rfl⟩) ?_ ?_
               rotate_left
               ·simp only [Act.put, List.setIfInBounds_toArray, List.set_cons_zero, List.set_cons_succ, i64_w, i32_w]
                rfl
               refine pure_ (i := 11) (N := some 55) (v := undef) (a' := ?_) #[true, true, true, true, true, true, true, true, true, true, true, true, false, false, false, false, false] rfl rfl (any_of HT_.out (by kernel_rfl)) (fun _ _ _ h => h) (Or.inr ⟨by rfl, rfl⟩) ?_ ?_
               rotate_left
               ·simp only [Act.put, List.setIfInBounds_toArray, List.set_cons_zero, List.set_cons_succ, i64_w, i32_w]
                rfl
               refine pure_ (i := 12) (N := some 56) (v := undef) (a' := ?_) #[true, true, true, true, true, true, true, true, true, true, true, true, true, false, false, false, false] rfl rfl (any_of HT_.out (by kernel_rfl)) (fun _ _ _ h => h) (Or.inr ⟨by rfl, rfl⟩) ?_ ?_
               rotate_left
               ·simp only [Act.put, List.setIfInBounds_toArray, List.set_cons_zero, List.set_cons_succ, i64_w, i32_w]
                rfl
               refine pure_ (i := 13) (N := some 57) (v := undef) (a' := ?_) #[true, true, true, true, true, true, true, true, true, true, true, true, true, true, false, false, false] rfl rfl (any_of HT_.out (by kernel_rfl)) (fun _ _ _ h => h) (Or.inr ⟨by rfl, rfl⟩) ?_ ?_
               rotate_left
               ·simp only [Act.put, List.setIfInBounds_toArray, List.set_cons_zero, List.set_cons_succ, i64_w, i32_w]
                rfl
               refine pure_ (i := 14) (N := some 58) (v := undef) (a' := ?_) #[true, true, true, true, true, true, true, true, true, true, true, true, true, true, true, false, false] rfl rfl (any_of HT_.out (by kernel_rfl)) (fun _ _ _ h => h) (Or.inr ⟨by rfl, rfl⟩) ?_ ?_
               rotate_left
               ·simp only [Act.put, List.setIfInBounds_toArray, List.set_cons_zero, List.set_cons_succ, i64_w, i32_w]
                rfl
               refine pure_ (i := 15) (N := some 59) (v := undef) (a' := ?_) #[true, true, true, true, true, true, true, true, true, true, true, true, true, true, true, true, false] rfl rfl (any_of HT_.out (by kernel_rfl)) (fun _ _ _ h => h) (Or.inr ⟨by rfl, rfl⟩) ?_ ?_
               rotate_left
               ·simp only [Act.put, List.setIfInBounds_toArray, List.set_cons_zero, List.set_cons_succ, i64_w, i32_w]
                rfl
               refine pure_ (i := 16) (N := some 60) (v := ?_) (a' := ?_) #[true, true, true, true, true, true, true, true, true, true, true, true, true, true, true, true, true] rfl rfl (any_of HT_.out (by kernel_rfl)) (fun _ _ _ h => h) (Or.inl ⟨by rfl, ?_⟩) ?_ ?_
               rotate_left
               ·intro w'
                go_simp
                with_reducible rfl
               rotate_left
               ·simp only [Act.put, List.setIfInBounds_toArray, List.set_cons_zero, List.set_cons_succ, i64_w, i32_w]
                rfl
               refine done_ (done_of HT_.out (by kernel_rfl)) ?_
               try go_wp2
               go_roundg k2
               case measure => have := HK1.out; have := HK2.out; omega
               case rel => exact ⟨(x7_2), (wrap64 (x41_2 + 1)), (by first | rfl | (simp; done) | (simp [*]; done)), (by first | rfl | (simp; done) | (simp [*]; done)), H', ⟨by have := HK1.out; have := HK2.out; omega⟩, ⟨by (with_reducible repeat (first | apply Kd.R_alloc | apply Kd.R_drewN | apply Kd.R_drew)); exact HO_8.out⟩, ⟨by repeat (first | (with_reducible first | exact HB.out | apply bA | apply bN | apply b1) | exact HB.out)⟩⟩
             ·rw [if_neg c17] at H
              exact absurd H (by simp)
            ·rw [if_neg c16] at H
             exact absurd H (by simp)
           ·rw [if_neg c15] at H
            exact absurd H (by simp)
          ·rw [if_neg c14] at H
           exact absurd H (by simp)
         ·rw [if_neg c13] at H
          have c13b0 : decide (x41_2 < (l0.length : Int)) = false := dF c13
          clear c13
          have H' := Aside0.mk H
          clear H
          go_wp2
          go_roundg k2
          case measure => have := HK1.out; have := HK2.out; omega
          case rel => exact ⟨(x7_2), (wrap64 (x36_1 + 1)), (by first | rfl | (simp; done) | (simp [*]; done)), (by first | rfl | (simp; done) | (simp [*]; done)), H', ⟨by have := HK1.out; have := HK2.out; omega⟩, ⟨by (with_reducible repeat (first | apply Kd.R_alloc | apply Kd.R_drewN | apply Kd.R_drew)); exact HO_8.out⟩, ⟨by repeat (first | (with_reducible first | exact HB.out | apply bA | apply bN | apply b1) | exact HB.out)⟩⟩
      ·rw [if_neg c12] at H
       have c12b0 : decide (x36_1 < (l0.length : Int)) = false := dF c12
       clear c12
       replace H := Option.bind_eq_some_iff.mp H
       obtain ⟨t286, A320, H⟩ := H
       replace H : ((setoff_Pay.f t286 a1).bind fun bt289 => (if bt289.2.2 = 0 then (if bt289.2.1 = t276 then (cohousinglaw34_SetoffOrder.j2 k1 x7_1 t275 bt289.1 ((bt289.1.length : Int) != (l0.length : Int))) else (cohousinglaw34_SetoffOrder.j2 k1 x7_1 t275 bt289.1 true)) else (cohousinglaw34_SetoffOrder.j2 k1 x7_1 t275 bt289.1 true))) = some r := H
       have A32 := Aside0.mk A320
       clear A320
       replace H := Option.bind_eq_some_iff.mp H
       obtain ⟨⟨t289, t290, t291⟩, A330, H⟩ := H
       replace H : (if t291 = 0 then (if t290 = t276 then (cohousinglaw34_SetoffOrder.j2 k1 x7_1 t275 t289 ((t289.length : Int) != (l0.length : Int))) else (cohousinglaw34_SetoffOrder.j2 k1 x7_1 t275 t289 true)) else (cohousinglaw34_SetoffOrder.j2 k1 x7_1 t275 t289 true)) = some r := H
       have A33 := Aside0.mk A330
       clear A330
       have HC34 := Aside0.mk H
       clear H
       go_upto_region 18 with (first | ((with_reducible refine gate_callee (f := 22) rfl ?_); refine goesL_ (some 78) rfl rfl Tryz.func22 (by kernel_rfl) rfl #[.slice A0 l0.length c0, .int .i64 a2] rfl (by (try simp only [List.map_toArray, List.map_cons, List.map_nil]); first | done | rfl | (simp only [List.length_drop, List.length_take]; rfl)) ?_; (with_reducible refine (cohousinglaw34_turned.calls k1 _ _ l0 a2 t286 _ ?side1 ?side2 A32.out).mono ?_); (case side1 => repeat (first | exact (Kd.C_below HR0.out HB.out) | (with_reducible refine Kd.C_alloc ?_ _) | (with_reducible refine Kd.C_drewN ?_ _) | (with_reducible refine Kd.C_drew ?_))); (case side2 => exact HC0.out); rintro e w35 ⟨v287, rfl, ho0, hb⟩; refine ⟨_, rfl, ?_⟩; have n0_ := Aside0.mk (Kd.R_elder' (by (with_reducible repeat (first | apply Kd.R_alloc | apply Kd.R_drewN | apply Kd.R_drew)); exact HO_8.out) (Kd.R_base ho0) hb); have n1_ := Aside0.mk (Kd.R_lower (Kd.R_new' ho0 (Kd.R_lt (by (with_reducible repeat (first | apply Kd.R_alloc | apply Kd.R_drewN | apply Kd.R_drew)); exact HO_8.out))) (bZ (by repeat (first | (with_reducible first | exact HB.out | apply bA | apply bN | apply b1) | exact HB.out)))); have n2_ := Aside0.mk (bT (by repeat (first | (with_reducible first | exact HB.out | apply bA | apply bN | apply b1) | exact HB.out)) hb); clear HO_8; clear HB; have HO_8 := n0_; have HO288 := n1_; have HB := n2_; clear n0_ n1_ n2_; (try clear hb); (try clear hb2); (try clear hk); (try clear hi); (try clear ho0); obtain ⟨Ao36, co36, eo36⟩ := Kd.R_slice HO288.out; subst eo36) | ((with_reducible refine gate_callee (f := 10) rfl ?_); refine goesL_ (some 80) rfl rfl Tryz.func10 (by kernel_rfl) rfl #[.slice Ao36 t286.length co36, .int .i64 a1] rfl (by (try simp only [List.map_toArray, List.map_cons, List.map_nil]); first | done | rfl | (simp only [List.length_drop, List.length_take]; rfl)) ?_; (with_reducible refine (setoff_Pay.calls _ _ t286 a1 t289 t290 t291 _ ?side1 ?side2 A33.out).mono ?_); (case side1 => repeat (first | exact (Kd.R_reads' HO288.out).2.2 | (with_reducible refine Kd.C_alloc ?_ _) | (with_reducible refine Kd.C_drewN ?_ _) | (with_reducible refine Kd.C_drew ?_))); (case side2 => exact (Kd.R_reads' HO288.out).2.1); rintro e w37 ⟨v292, rfl, ho0, hb⟩; refine ⟨_, rfl, ?_⟩; have n0_ := Aside0.mk (Kd.R_elder' (by (with_reducible repeat (first | apply Kd.R_alloc | apply Kd.R_drewN | apply Kd.R_drew)); exact HO_8.out) (Kd.R_base ho0) hb); have n1_ := Aside0.mk (Kd.R_elder' (by (with_reducible repeat (first | apply Kd.R_alloc | apply Kd.R_drewN | apply Kd.R_drew)); exact HO288.out) (Kd.R_base ho0) hb); have n2_ := Aside0.mk (Kd.R_lower (Kd.R_new' (Kd.R_new' ho0 (Kd.R_lt (by (with_reducible repeat (first | apply Kd.R_alloc | apply Kd.R_drewN | apply Kd.R_drew)); exact HO_8.out))) (Kd.R_lt (by (with_reducible repeat (first | apply Kd.R_alloc | apply Kd.R_drewN | apply Kd.R_drew)); exact HO288.out))) (bZ (by repeat (first | (with_reducible first | exact HB.out | apply bA | apply bN | apply b1) | exact HB.out)))); have n3_ := Aside0.mk (bT (by repeat (first | (with_reducible first | exact HB.out | apply bA | apply bN | apply b1) | exact HB.out)) hb); clear HO_8; clear HO288; clear HB; have HO_8 := n0_; have HO288 := n1_; have HO293 := n2_; have HB := n3_; clear n0_ n1_ n2_ n3_; (try clear hb); (try clear hb2); (try clear hk); (try clear hi); (try clear ho0)))
       (try simp only [Act.put, List.setIfInBounds_toArray, List.set_cons_zero, List.set_cons_succ])
       go_cut [97] (fun v97 wc => ∃ (kq : Nat) (x97_33 : Bool), v97 = .bool x97_33 ∧ Aside0 (cohousinglaw34_SetoffOrder.j2 kq x7_1 t275 t289 x97_33 = some r) ∧ Aside0 (kq ≤ k1) ∧ Aside0 (Kd.R k39 39 wc w.heap.size (fun k_ => some k_ ≠ (v292 : Value).ownBlock) (.slice Ao11 t275.length co11) t275) ∧ Aside0 (Kd.R k39 39 wc w.heap.size (fun k_ => some k_ ≠ ((.slice Ao11 t275.length co11) : Value).ownBlock) v292 t289) ∧ Aside0 (Below w.heap.size w wc))
       case first =>
        have H := HC34.out
        clear HC34
        by_cases c38 : t291 = 0
        ·rw [if_pos c38] at H
         have c38b0 : (t291 == 0) = true := beq_iff_eq.mpr c38
         have c38b1 : (t291 != 0) = false := bne_eq_false_iff_eq.mpr c38
         clear c38
         (first | rw [c38b0] | (simp only [i64_w, i32_w]; rw [c38b0]) | skip)
         by_cases c39 : t290 = t276
         ·rw [if_pos c39] at H
          have c39b0 : (t290 == t276) = true := beq_iff_eq.mpr c39
          have c39b1 : (t290 != t276) = false := bne_eq_false_iff_eq.mpr c39
          clear c39
          have H' := Aside0.mk H
          clear H
          obtain ⟨Ao40, co40, eo40⟩ := Kd.R_slice HO293.out
          subst eo40
          go_wp2
          go_meet
          case rel => exact ⟨_, (((t289.length : Int) != (l0.length : Int))), (by first | rfl | (simp; done) | (simp [*]; done)), H', ⟨by have := HK1.out; first | omega | exact Nat.le_refl _⟩, ⟨by (with_reducible repeat (first | apply Kd.R_alloc | apply Kd.R_drewN | apply Kd.R_drew)); exact Kd.R_mono HO_8.out (fun _ hk => hk.2)⟩, ⟨by (with_reducible repeat (first | apply Kd.R_alloc | apply Kd.R_drewN | apply Kd.R_drew)); exact Kd.R_mono HO293.out (fun _ hk => hk.1.2)⟩, ⟨by repeat (first | (with_reducible first | exact HB.out | apply bA | apply bN | apply b1) | exact HB.out)⟩⟩
         ·rw [if_neg c39] at H
          have c39b0 : (t290 == t276) = false := beq_eq_false_iff_ne.mpr c39
          have c39b1 : (t290 != t276) = true := bne_iff_ne.mpr c39
          have H' := Aside0.mk H
          clear H
          go_wp2
          go_meet
          case rel => exact ⟨_, (true), (by first | rfl | (simp; done) | (simp [*]; done)), H', ⟨by have := HK1.out; first | omega | exact Nat.le_refl _⟩, ⟨by (with_reducible repeat (first | apply Kd.R_alloc | apply Kd.R_drewN | apply Kd.R_drew)); exact Kd.R_mono HO_8.out (fun _ hk => hk.2)⟩, ⟨by (with_reducible repeat (first | apply Kd.R_alloc | apply Kd.R_drewN | apply Kd.R_drew)); exact Kd.R_mono HO293.out (fun _ hk => hk.1.2)⟩, ⟨by repeat (first | (with_reducible first | exact HB.out | apply bA | apply bN | apply b1) | exact HB.out)⟩⟩
        ·rw [if_neg c38] at H
         have c38b0 : (t291 == 0) = false := beq_eq_false_iff_ne.mpr c38
         have c38b1 : (t291 != 0) = true := bne_iff_ne.mpr c38
         (first | rw [c38b0] | (simp only [i64_w, i32_w]; rw [c38b0]) | skip)
         have H' := Aside0.mk H
         clear H
         go_wp2
         go_meet
         case rel => exact ⟨_, (true), (by first | rfl | (simp; done) | (simp [*]; done)), H', ⟨by have := HK1.out; first | omega | exact Nat.le_refl _⟩, ⟨by (with_reducible repeat (first | apply Kd.R_alloc | apply Kd.R_drewN | apply Kd.R_drew)); exact Kd.R_mono HO_8.out (fun _ hk => hk.2)⟩, ⟨by (with_reducible repeat (first | apply Kd.R_alloc | apply Kd.R_drewN | apply Kd.R_drew)); exact Kd.R_mono HO293.out (fun _ hk => hk.1.2)⟩, ⟨by repeat (first | (with_reducible first | exact HB.out | apply bA | apply bN | apply b1) | exact HB.out)⟩⟩
       case rest =>
        clear HC34
        try clear c1
        try clear c2
        try clear p2
        try clear q2
        try clear hx2
        try clear c3
        try clear p6
        try clear c10
        try clear c12
        try clear c12b0
        try clear c13
        try clear c13b0
        try clear c14
        try clear c15
        try clear c16
        try clear c17
        try clear c19
        try clear c20
        try clear c21
        try clear c21b0
        try clear c22
        try clear c23
        try clear c24
        try clear p28
        try clear q28
        try clear hx28
        try clear c38
        try clear c38b0
        try clear c38b1
        try clear c39
        try clear c39b0
        try clear c39b1
        try clear hx280_0
        try clear hx280_1
        try clear hx280_2
        try clear hx280_3
        try clear hx281_0
        try clear hx281_1
        try clear hx281_2
        try clear hx281_3
        try clear hx283_0
        try clear hx283_1
        try clear hx283_2
        try clear hx283_3
        try clear hx284_0
        try clear hx284_1
        try clear hx284_2
        try clear hx284_3
        try clear hx285_0
        try clear hx285_1
        try clear hx285_2
        try clear hx285_3
        try clear p280
        try clear p281
        try clear p283
        try clear p285
        try clear q280
        try clear q281
        try clear q283
        try clear q285
        obtain ⟨kq, x97_33, rfl, HA, HJ33, HO_8, HO_13, HB⟩ := hcut
        cases kq with
        | zero => exact absurd HA.out (by simp [cohousinglaw34_SetoffOrder.j2])
        | succ kj33 =>
         have H := HA.out
         clear HA
         simp only [cohousinglaw34_SetoffOrder.j2] at H
         by_cases c41 : x97_33 = true
         ·subst c41
          have H1 : (none) = some r := by rw [if_pos rfl] at H; exact H
          clear H
          have H := H1
          clear H1
          exact absurd H (by simp)
         ·replace c41 := Bool.eq_false_iff.mpr c41
          subst c41
          have H1 : (cohousinglaw34_SetoffOrder.l2 kj33 x7_1 t289 t275 (t275.length : Int) 0) = some r := by rw [if_neg (show ¬ (false = true) by decide)] at H; exact H
          clear H
          have H := H1
          clear H1
          have H' := Aside0.mk H
          clear H
          go_wp2
          go_loopg [7, 100] kj33 (fun kq v7 v100 w' => ∃ (x7_3 : Bool) (x100_3 : Int), v7 = .bool x7_3 ∧ v100 = .int .i64 x100_3 ∧ Aside0 (cohousinglaw34_SetoffOrder.l2 kq x7_3 t289 t275 (t275.length : Int) x100_3 = some r) ∧ Aside0 (kq ≤ kj33) ∧ Aside0 (Kd.R k39 39 w' w.heap.size (fun k_ => some k_ ≠ ((.slice Ao11 t275.length co11) : Value).ownBlock) v292 t289) ∧ Aside0 (Kd.R k39 39 w' w.heap.size (fun k_ => some k_ ≠ (v292 : Value).ownBlock) (.slice Ao11 t275.length co11) t275) ∧ Aside0 (Below w.heap.size w w'))
          case atStart => exact ⟨(x7_1), (0), (by first | rfl | (simp; done) | (simp [*]; done)), (by first | rfl | (simp; done) | (simp [*]; done)), H', ⟨Nat.le_refl _⟩, ⟨by (with_reducible repeat (first | apply Kd.R_alloc | apply Kd.R_drewN | apply Kd.R_drew)); exact HO_13.out⟩, ⟨by (with_reducible repeat (first | apply Kd.R_alloc | apply Kd.R_drewN | apply Kd.R_drew)); exact HO_8.out⟩, ⟨by repeat (first | (with_reducible first | exact HB.out | apply bA | apply bN | apply b1) | exact HB.out)⟩⟩
          case round =>
           clear H'
           try clear c1
           try clear c2
           try clear p2
           try clear q2
           try clear hx2
           try clear c3
           try clear c4
           try clear p6
           try clear c10
           try clear c12
           try clear c12b0
           try clear c13
           try clear c13b0
           try clear c14
           try clear c15
           try clear c16
           try clear c17
           try clear c19
           try clear c20
           try clear c21
           try clear c21b0
           try clear c22
           try clear c23
           try clear c24
           try clear p28
           try clear q28
           try clear hx28
           try clear c38
           try clear c38b0
           try clear c38b1
           try clear c39
           try clear c39b0
           try clear c39b1
           try clear c41
           try clear hx280_0
           try clear hx280_1
           try clear hx280_2
           try clear hx280_3
           try clear hx281_0
           try clear hx281_1
           try clear hx281_2
           try clear hx281_3
           try clear hx283_0
           try clear hx283_1
           try clear hx283_2
           try clear hx283_3
           try clear hx284_0
           try clear hx284_1
           try clear hx284_2
           try clear hx284_3
           try clear hx285_0
           try clear hx285_1
           try clear hx285_2
           try clear hx285_3
           try clear p2
           try clear p28
           try clear p280
           try clear p281
           try clear p283
           try clear p285
           try clear p6
           try clear q2
           try clear q28
           try clear q280
           try clear q281
           try clear q283
           try clear q285
           obtain ⟨x7_3, x100_3, rfl, rfl, HA, HK3, HO_13, HO_98, HB⟩ := hrel
           cases gk with
           | zero => exact absurd HA.out (by simp [cohousinglaw34_SetoffOrder.l2])
           | succ k3 =>
            have H := HA.out
            clear HA
            simp only [cohousinglaw34_SetoffOrder.l2] at H
            by_cases c42 : x100_3 < (t275.length : Int)
            ·rw [if_pos c42] at H
             have c42b0 : decide (x100_3 < (t275.length : Int)) = true := dT c42
             clear c42
             by_cases c43 : 0 ≤ x100_3
             ·rw [if_pos c43] at H
              have c43b0 : decide (0 ≤ x100_3) = true := dT c43
              clear c43
              by_cases c44 : x100_3 < (t275.length : Int)
              ·rw [if_pos c44] at H
               have c44b0 : decide (x100_3 < (t275.length : Int)) = true := dT c44
               clear c44
               by_cases c45 : x7_3 = true
               ·subst c45
                have H1 : ((cohousinglaw34_find.f k3 t289 ((rd_T39 t275 x100_3).f0)).bind fun bt296 => (if (bt296.1 == ((rd_T39 t275 x100_3).f0) && (bt296.2.1 == ((rd_T39 t275 x100_3).f1) && (bt296.2.2.1 == ((rd_T39 t275 x100_3).f2) && (bt296.2.2.2 == ((rd_T39 t275 x100_3).f3))))) = true then (cohousinglaw34_SetoffOrder.l2 k3 true t289 t275 (t275.length : Int) (wrap64 (x100_3 + 1))) else (none))) = some r := by rw [if_pos rfl] at H; exact H
                clear H
                have H := H1
                clear H1
                replace H := Option.bind_eq_some_iff.mp H
                obtain ⟨⟨t296, t297, t298, t299⟩, A460, H⟩ := H
                replace H : (if (t296 == ((rd_T39 t275 x100_3).f0) && (t297 == ((rd_T39 t275 x100_3).f1) && (t298 == ((rd_T39 t275 x100_3).f2) && (t299 == ((rd_T39 t275 x100_3).f3))))) = true then (cohousinglaw34_SetoffOrder.l2 k3 true t289 t275 (t275.length : Int) (wrap64 (x100_3 + 1))) else (none)) = some r := H
                have A46 := Aside0.mk A460
                clear A460
                by_cases c47 : (t296 == ((rd_T39 t275 x100_3).f0) && (t297 == ((rd_T39 t275 x100_3).f1) && (t298 == ((rd_T39 t275 x100_3).f2) && (t299 == ((rd_T39 t275 x100_3).f3))))) = true
                ·rw [if_pos c47] at H
                 have c47b0 : (t296 == ((rd_T39 t275 x100_3).f0) && (t297 == ((rd_T39 t275 x100_3).f1) && (t298 == ((rd_T39 t275 x100_3).f2) && (t299 == ((rd_T39 t275 x100_3).f3))))) = true := c47
                 (try (have c47b1 : decide (t296 = ((rd_T39 t275 x100_3).f0) && (t297 == ((rd_T39 t275 x100_3).f1) && (t298 == ((rd_T39 t275 x100_3).f2) && (t299 == ((rd_T39 t275 x100_3).f3))))) = true := by simpa using c47))
                 (try (have c47b2 : (t296 == ((rd_T39 t275 x100_3).f0) && (t297 == ((rd_T39 t275 x100_3).f1) && (t298 == ((rd_T39 t275 x100_3).f2) && (t299 == ((rd_T39 t275 x100_3).f3))))) = true := by simpa using c47))
                 clear c47
                 have H' := Aside0.mk H
                 clear H
                 have p294 : 0 ≤ (x100_3 : Int) := oT (by first | (with_reducible assumption) | assumption)
                 have q294 : x100_3 < (t275.length : Int) := oT (by first | (with_reducible assumption) | assumption)
                 obtain ⟨ad294, e294, hx294_0, hx294_1, hx294_2, hx294_3⟩ := at_T39 (Kd.R_reads' HO_98.out).2.2 x100_3 p294 q294
                 cases e294
                 replace p294 := eq_true p294
                 replace q294 := eq_true q294
                 try go_wp2_with (first | ((with_reducible refine gate_dst (N := 17) rfl ?_); (try (refine gate_guard (by rfl) ?_; dsimp only)); refine box_event ?hg (N := 17) ?hd (cs := #[.int .i64 0, .int .i64 0, .int .i64 0, .int .i64 0]) (t := 39) ?hr ?_; (case hd => rfl); (case hg => rfl); (case hr => first | (go_simp; done) | (go_simp; rfl)); intro gb295 hg w48 hbox hb; have n0_ := Aside0.mk (Kd.R_below (Kd.R_elderB (by (with_reducible repeat (first | apply Kd.R_alloc | apply Kd.R_drewN | apply Kd.R_drew)); exact HO_13.out) gb295 (Nat.le_of_eq hg.symm)) hb); have n1_ := Aside0.mk (Kd.R_below (Kd.R_elderB (by (with_reducible repeat (first | apply Kd.R_alloc | apply Kd.R_drewN | apply Kd.R_drew)); exact HO_98.out) gb295 (Nat.le_of_eq hg.symm)) hb); have n2_ := Aside0.mk (bT (by repeat (first | (with_reducible first | exact HB.out | apply bA | apply bN | apply b1) | exact HB.out)) hb); have n3_ := Aside0.mk (hbox); have n4_ := Aside0.mk ((by rw [hg]; exact (bZ (by repeat (first | (with_reducible first | exact HB.out | apply bA | apply bN | apply b1) | exact HB.out))) : w.heap.size ≤ gb295)); have n5_ := n4_; clear HO_13; clear HO_98; clear HB; have HO_13 := n0_; have HO_98 := n1_; have HB := n2_; have BK295 := n3_; have GW295 := n4_; have GE295 := n5_; clear n0_ n1_ n2_ n3_ n4_ n5_; clear hb hbox hg; have hcz49_0 : w48.cell? ⟨gb295, 0, none⟩ = some (.int .i64 0) := (kC BK295.out 0).trans rfl; have hcz49_1 : w48.cell? ⟨gb295, 1, none⟩ = some (.int .i64 0) := (kC BK295.out 1).trans rfl; have hcz49_2 : w48.cell? ⟨gb295, 2, none⟩ = some (.int .i64 0) := (kC BK295.out 2).trans rfl; have hcz49_3 : w48.cell? ⟨gb295, 3, none⟩ = some (.int .i64 0) := (kC BK295.out 3).trans rfl; have hfz49_0 := blk_frozen BK295.out 0; have hfz49_1 := blk_frozen BK295.out 1; have hfz49_2 := blk_frozen BK295.out 2; have hfz49_3 := blk_frozen BK295.out 3))
                 have n0_ : Aside0 (Kd.R k39 39 ((((w48.setCell ⟨gb295, 0, none⟩ (.int .i64 ((rd_T39 t275 x100_3).f0))).setCell ⟨gb295, 1, none⟩ (.int .i64 ((rd_T39 t275 x100_3).f1))).setCell ⟨gb295, 2, none⟩ (.int .i64 ((rd_T39 t275 x100_3).f2))).setCell ⟨gb295, 3, none⟩ (.int .i64 ((rd_T39 t275 x100_3).f3))) w.heap.size (fun k_ => some k_ ≠ (.slice (some ad294) t275.length co11 : Value).ownBlock ∧ k_ ≠ gb295) v292 t289) := ⟨by (with_reducible repeat (first | apply Kd.R_alloc | apply Kd.R_drewN | apply Kd.R_drew)); exact Kd.R_mono (Kd.R_far (p := ⟨gb295, 3, none⟩) (Kd.R_far (p := ⟨gb295, 2, none⟩) (Kd.R_far (p := ⟨gb295, 1, none⟩) (Kd.R_far (p := ⟨gb295, 0, none⟩) (Kd.R_mono HO_13.out (fun k_ hk => (⟨hk, hk.2⟩ : _ ∧ k_ ≠ gb295))) (fun _ hk => hk.2) (.int .i64 ((rd_T39 t275 x100_3).f0))) (fun _ hk => hk.2) (.int .i64 ((rd_T39 t275 x100_3).f1))) (fun _ hk => hk.2) (.int .i64 ((rd_T39 t275 x100_3).f2))) (fun _ hk => hk.2) (.int .i64 ((rd_T39 t275 x100_3).f3))) (fun _ hk => ⟨hk.1.1, hk.1.2⟩)⟩
                 have n1_ : Aside0 (Kd.R k39 39 ((((w48.setCell ⟨gb295, 0, none⟩ (.int .i64 ((rd_T39 t275 x100_3).f0))).setCell ⟨gb295, 1, none⟩ (.int .i64 ((rd_T39 t275 x100_3).f1))).setCell ⟨gb295, 2, none⟩ (.int .i64 ((rd_T39 t275 x100_3).f2))).setCell ⟨gb295, 3, none⟩ (.int .i64 ((rd_T39 t275 x100_3).f3))) w.heap.size (fun k_ => some k_ ≠ (v292 : Value).ownBlock ∧ k_ ≠ gb295) (.slice (some ad294) t275.length co11) t275) := ⟨by (with_reducible repeat (first | apply Kd.R_alloc | apply Kd.R_drewN | apply Kd.R_drew)); exact Kd.R_mono (Kd.R_far (p := ⟨gb295, 3, none⟩) (Kd.R_far (p := ⟨gb295, 2, none⟩) (Kd.R_far (p := ⟨gb295, 1, none⟩) (Kd.R_far (p := ⟨gb295, 0, none⟩) (Kd.R_mono HO_98.out (fun k_ hk => (⟨hk, hk.2⟩ : _ ∧ k_ ≠ gb295))) (fun _ hk => hk.2) (.int .i64 ((rd_T39 t275 x100_3).f0))) (fun _ hk => hk.2) (.int .i64 ((rd_T39 t275 x100_3).f1))) (fun _ hk => hk.2) (.int .i64 ((rd_T39 t275 x100_3).f2))) (fun _ hk => hk.2) (.int .i64 ((rd_T39 t275 x100_3).f3))) (fun _ hk => ⟨hk.1.1, hk.1.2⟩)⟩
                 have n2_ : Aside0 (((((w48.setCell ⟨gb295, 0, none⟩ (.int .i64 ((rd_T39 t275 x100_3).f0))).setCell ⟨gb295, 1, none⟩ (.int .i64 ((rd_T39 t275 x100_3).f1))).setCell ⟨gb295, 2, none⟩ (.int .i64 ((rd_T39 t275 x100_3).f2))).setCell ⟨gb295, 3, none⟩ (.int .i64 ((rd_T39 t275 x100_3).f3))).heap[gb295]? = some (.cells #[.int .i64 ((rd_T39 t275 x100_3).f0), .int .i64 ((rd_T39 t275 x100_3).f1), .int .i64 ((rd_T39 t275 x100_3).f2), .int .i64 ((rd_T39 t275 x100_3).f3)] 39 (0, 0))) := ⟨by (with_reducible repeat (first | refine kN ?_ _ | refine kD ?_ | refine kA ?_ _)); refine blk_put (cs := #[.int .i64 ((rd_T39 t275 x100_3).f0), .int .i64 ((rd_T39 t275 x100_3).f1), .int .i64 ((rd_T39 t275 x100_3).f2), .int .i64 0]) ?_ 3 _ rfl; (with_reducible repeat (first | refine kN ?_ _ | refine kD ?_ | refine kA ?_ _)); refine blk_put (cs := #[.int .i64 ((rd_T39 t275 x100_3).f0), .int .i64 ((rd_T39 t275 x100_3).f1), .int .i64 0, .int .i64 0]) ?_ 2 _ rfl; (with_reducible repeat (first | refine kN ?_ _ | refine kD ?_ | refine kA ?_ _)); refine blk_put (cs := #[.int .i64 ((rd_T39 t275 x100_3).f0), .int .i64 0, .int .i64 0, .int .i64 0]) ?_ 1 _ rfl; (with_reducible repeat (first | refine kN ?_ _ | refine kD ?_ | refine kA ?_ _)); refine blk_put (cs := #[.int .i64 0, .int .i64 0, .int .i64 0, .int .i64 0]) ?_ 0 _ rfl; (with_reducible repeat (first | refine kN ?_ _ | refine kD ?_ | refine kA ?_ _)); exact BK295.out⟩
                 have n3_ : Aside0 (Below w.heap.size w ((((w48.setCell ⟨gb295, 0, none⟩ (.int .i64 ((rd_T39 t275 x100_3).f0))).setCell ⟨gb295, 1, none⟩ (.int .i64 ((rd_T39 t275 x100_3).f1))).setCell ⟨gb295, 2, none⟩ (.int .i64 ((rd_T39 t275 x100_3).f2))).setCell ⟨gb295, 3, none⟩ (.int .i64 ((rd_T39 t275 x100_3).f3)))) := ⟨by repeat (first | (with_reducible first | exact HB.out | apply bA | apply bN | apply b1 | refine bS ?_ GE295.out) | exact HB.out)⟩
                 (try clear HO_13)
                 (try clear HO_98)
                 (try clear BK295)
                 (try clear HB)
                 generalize ((((w48.setCell ⟨gb295, 0, none⟩ (.int .i64 ((rd_T39 t275 x100_3).f0))).setCell ⟨gb295, 1, none⟩ (.int .i64 ((rd_T39 t275 x100_3).f1))).setCell ⟨gb295, 2, none⟩ (.int .i64 ((rd_T39 t275 x100_3).f2))).setCell ⟨gb295, 3, none⟩ (.int .i64 ((rd_T39 t275 x100_3).f3))) = w50 at n0_ n1_ n2_ n3_ ⊢
                 have HO_13 := n0_
                 have HO_98 := n1_
                 have BK295 := n2_
                 have HB := n3_
                 clear n0_ n1_ n2_ n3_
                 have n0_ := Aside0.mk (Kd.R_drew HO_13.out)
                 have n1_ := Aside0.mk (Kd.R_drew HO_98.out)
                 have n2_ := Aside0.mk (kD BK295.out)
                 have n3_ := Aside0.mk (b1 HB.out)
                 clear HO_13
                 clear HO_98
                 clear BK295
                 clear HB
                 have HO_13 := n0_
                 have HO_98 := n1_
                 have BK295 := n2_
                 have HB := n3_
                 clear n0_ n1_ n2_ n3_
                 obtain ⟨Ao52, co52, eo52⟩ := Kd.R_slice HO_13.out
                 (first | subst eo52 | (injection eo52 with f1_ f2_ f3_; have f4_ := f1_.symm; have f5_ := f3_.symm; clear f1_ f2_ f3_; subst f4_; subst f5_))
                 refine start_ (n := 10) (S := fun w' => w'.cell? ⟨gb295, 0, none⟩ = some (.int .i64 ((rd_T39 t275 x100_3).f0)) ∧ w'.cell? ⟨gb295, 1, none⟩ = some (.int .i64 ((rd_T39 t275 x100_3).f1)) ∧ w'.cell? ⟨gb295, 2, none⟩ = some (.int .i64 ((rd_T39 t275 x100_3).f2)) ∧ w'.cell? ⟨gb295, 3, none⟩ = some (.int .i64 ((rd_T39 t275 x100_3).f3))) (ds := []) #[false, false, false, false, false, false, false, false, false, false] (by kernel_rfl) rfl rfl ⟨(kC BK295.out 0).trans rfl, (kC BK295.out 1).trans rfl, (kC BK295.out 2).trans rfl, (kC BK295.out 3).trans rfl⟩ (fun hHeld => ?_); refine with_tabW cohousinglaw34_SetoffOrder.tab23 cohousinglaw34_SetoffOrder.bits23 (fun HT_ HW_ => ?_)
                 generalize w50.drew = w51 at HO_13 HO_98 BK295 HB hHeld ⊢
                 refine pure_ (i := 0) (N := some 104) (v := ?_) (a' := ?_) #[true, false, false, false, false, false, false, false, false, false] rfl rfl (any_of HT_.out (by kernel_rfl)) (fun _ _ _ h => h) (Or.inl ⟨by rfl, ?_⟩) ?_ ?_
                 rotate_left
                 ·intro w'
                  go_simp
                  with_reducible rfl
                 rotate_left
                 ·simp only [Act.put, List.setIfInBounds_toArray, List.set_cons_zero, List.set_cons_succ, i64_w, i32_w]
                  rfl
                 refine pure_ (i := 1) (N := some 105) (v := ?_) (a' := ?_) #[true, true, false, false, false, false, false, false, false, false] rfl rfl (any_of HT_.out (by kernel_rfl)) (fun _ _ _ h => h) (Or.inl ⟨by rfl, ?_⟩) ?_ ?_
                 rotate_left
                 ·intro w'
                  go_simp
                  with_reducible rfl
                 rotate_left
                 ·simp only [Act.put, List.setIfInBounds_toArray, List.set_cons_zero, List.set_cons_succ, i64_w, i32_w]
                  rfl
                 refine pure_ (i := 2) (N := some 106) (v := ?_) (a' := ?_) #[true, true, true, false, false, false, false, false, false, false] rfl rfl (any_of HT_.out (by kernel_rfl)) (fun _ _ _ h => h) (Or.inl ⟨by rfl, ?_⟩) ?_ ?_
                 rotate_left
                 ·intro w'
                  go_simp
                  with_reducible rfl
                 rotate_left
                 ·simp only [Act.put, List.setIfInBounds_toArray, List.set_cons_zero, List.set_cons_succ, i64_w, i32_w]
                  rfl
                 refine pure_ (i := 3) (N := some 107) (v := ?_) (a' := ?_) #[true, true, true, true, false, false, false, false, false, false] rfl rfl (any_of HT_.out (by kernel_rfl)) (fun _ _ _ h => h) (Or.inl ⟨by rfl, ?_⟩) ?_ ?_
                 rotate_left
                 ·intro w'
                  go_simp
                  with_reducible rfl
                 rotate_left
                 ·simp only [Act.put, List.setIfInBounds_toArray, List.set_cons_zero, List.set_cons_succ, i64_w, i32_w]
                  rfl
                 refine take_ (i := 4) (N := some 108) (v := ?_) (a' := ?_) #[true, true, true, true, true, false, false, false, false, false] rfl rfl (take_ofW HT_.out HW_.out (by kernel_rfl)) (fun _ _ _ h => h) (Or.inl ⟨by rfl, ?_⟩) hHeld ?_ ?_
                 rotate_left
                 ·rintro w' ⟨s0, s1, s2, s3⟩
                  go_simp
                  with_reducible rfl
                 rotate_left
                 ·simp only [Act.put, List.setIfInBounds_toArray, List.set_cons_zero, List.set_cons_succ, i64_w, i32_w]
                  rfl
                 refine take_ (i := 6) (N := some 110) (v := ?_) (a' := ?_) #[true, true, true, true, true, false, true, false, false, false] rfl rfl (take_ofW HT_.out HW_.out (by kernel_rfl)) (fun _ _ _ h => h) (Or.inl ⟨by rfl, ?_⟩) hHeld ?_ ?_
                 rotate_left
                 ·rintro w' ⟨s0, s1, s2, s3⟩
                  go_simp
                  with_reducible rfl
                 rotate_left
                 ·simp only [Act.put, List.setIfInBounds_toArray, List.set_cons_zero, List.set_cons_succ, i64_w, i32_w]
                  rfl
                 refine one_ (i := 5) (N := some 109) #[true, true, true, true, true, true, true, false, false, false] rfl rfl (one_of HT_.out (by kernel_rfl)) (by decide) (fun K hK => ?_)
                 refine goes_ Tryz.func23 (by kernel_rfl) rfl #[.slice Ao52 t289.length co52, .int .i64 ((rd_T39 t275 x100_3).f0)] (by rfl) rfl rfl (by (try simp only [List.map_toArray, List.map_cons, List.map_nil]); first | done | rfl | (simp only [List.length_drop, List.length_take]; rfl)) ?_
                 with_reducible refine (cohousinglaw34_find.calls k3 _ _ t289 ((rd_T39 t275 x100_3).f0) t296 t297 t298 t299 _ ?side1 ?side2 A46.out).mono ?_
                 (case side1 => repeat (first | exact (Kd.R_reads' HO_13.out).2.2 | (with_reducible refine Kd.C_alloc ?_ _) | (with_reducible refine Kd.C_drewN ?_ _) | (with_reducible refine Kd.C_drew ?_)))
                 (case side2 => exact (Kd.R_reads' HO_13.out).2.1)
                 rintro e w53 ⟨rfl, hb⟩
                 refine ⟨_, rfl, ?_⟩
                 have n0_ := Aside0.mk (Kd.R_below (by (with_reducible repeat (first | apply Kd.R_alloc | apply Kd.R_drewN | apply Kd.R_drew)); exact HO_13.out) hb)
                 have n1_ := Aside0.mk (Kd.R_below (by (with_reducible repeat (first | apply Kd.R_alloc | apply Kd.R_drewN | apply Kd.R_drew)); exact HO_98.out) hb)
                 have n2_ := Aside0.mk (kB (g := gb295) (o := .cells #[.int .i64 ((rd_T39 t275 x100_3).f0), .int .i64 ((rd_T39 t275 x100_3).f1), .int .i64 ((rd_T39 t275 x100_3).f2), .int .i64 ((rd_T39 t275 x100_3).f3)] 39 (0, 0)) (by (with_reducible repeat (first | refine kN ?_ _ | refine kD ?_ | refine kA ?_ _)); exact BK295.out) hb)
                 have n3_ := Aside0.mk (bT (by repeat (first | (with_reducible first | exact HB.out | apply bA | apply bN | apply b1 | refine bS ?_ GE295.out) | exact HB.out)) hb)
                 clear HO_13
                 clear HO_98
                 clear BK295
                 clear HB
                 have HO_13 := n0_
                 have HO_98 := n1_
                 have BK295 := n2_
                 have HB := n3_
                 clear n0_ n1_ n2_ n3_
                 (try clear hb)
                 (try clear hb2)
                 (try clear hk)
                 (try clear hi)
                 refine hK.out _ _ ⟨(kC BK295.out 0).trans rfl, (kC BK295.out 1).trans rfl, (kC BK295.out 2).trans rfl, (kC BK295.out 3).trans rfl⟩ (fun hHeld => ?_)
                 clear hK K
                 refine norm_ (a' := ?_) ?_ ?_
                 rotate_left
                 ·show Act.put _ (some 109) _ = _
                  simp only [Act.put, List.setIfInBounds_toArray, List.set_cons_zero, List.set_cons_succ, i64_w, i32_w]
                  rfl
                 refine pure_ (i := 7) (N := some 111) (v := ?_) (a' := ?_) #[true, true, true, true, true, true, true, true, false, false] rfl rfl (any_of HT_.out (by kernel_rfl)) (fun _ _ _ h => h) (Or.inl ⟨by rfl, ?_⟩) ?_ ?_
                 rotate_left
                 ·intro w'
                  go_simp
                  with_reducible rfl
                 rotate_left
                 ·simp only [Act.put, List.setIfInBounds_toArray, List.set_cons_zero, List.set_cons_succ, i64_w, i32_w]
                  rfl
                 refine pure_ (i := 8) (N := some 112) (v := ?_) (a' := ?_) #[true, true, true, true, true, true, true, true, true, false] rfl rfl (any_of HT_.out (by kernel_rfl)) (fun _ _ _ h => h) (Or.inl ⟨by rfl, ?_⟩) ?_ ?_
                 rotate_left
                 ·intro w'
                  go_simp
                  with_reducible rfl
                 rotate_left
                 ·simp only [Act.put, List.setIfInBounds_toArray, List.set_cons_zero, List.set_cons_succ, i64_w, i32_w]
                  rfl
                 refine pure_ (i := 9) (N := some 7) (v := ?_) (a' := ?_) #[true, true, true, true, true, true, true, true, true, true] rfl rfl (any_of HT_.out (by kernel_rfl)) (fun _ _ _ h => h) (Or.inl ⟨by rfl, ?_⟩) ?_ ?_
                 rotate_left
                 ·intro w'
                  go_simp
                  with_reducible rfl
                 rotate_left
                 ·simp only [Act.put, List.setIfInBounds_toArray, List.set_cons_zero, List.set_cons_succ, i64_w, i32_w]
                  rfl
                 refine done_ (done_of HT_.out (by kernel_rfl)) ?_
                 try go_wp2
                 go_roundg k3
                 case measure => have := HK1.out; have := HJ33.out; have := HK3.out; omega
                 case rel => exact ⟨(true), (wrap64 (x100_3 + 1)), (by first | rfl | (simp; done) | (simp [*]; done)), (by first | rfl | (simp; done) | (simp [*]; done)), H', ⟨by have := HK1.out; have := HJ33.out; have := HK3.out; omega⟩, ⟨by (with_reducible repeat (first | apply Kd.R_alloc | apply Kd.R_drewN | apply Kd.R_drew)); exact Kd.R_mono HO_13.out (fun _ hk => hk.1)⟩, ⟨by (with_reducible repeat (first | apply Kd.R_alloc | apply Kd.R_drewN | apply Kd.R_drew)); exact Kd.R_mono HO_98.out (fun _ hk => hk.1)⟩, ⟨by repeat (first | (with_reducible first | exact HB.out | apply bA | apply bN | apply b1 | refine bS ?_ GE295.out) | exact HB.out)⟩⟩
                ·rw [if_neg c47] at H
                 exact absurd H (by simp)
               ·replace c45 := Bool.eq_false_iff.mpr c45
                subst c45
                have H1 : (none) = some r := by rw [if_neg (show ¬ (false = true) by decide)] at H; exact H
                clear H
                have H := H1
                clear H1
                exact absurd H (by simp)
              ·rw [if_neg c44] at H
               exact absurd H (by simp)
             ·rw [if_neg c43] at H
              exact absurd H (by simp)
            ·rw [if_neg c42] at H
             have c42b0 : decide (x100_3 < (t275.length : Int)) = false := dF c42
             clear c42
             by_cases c54 : x7_3 = true
             ·subst c54
              have H1 : (some true) = some r := by rw [if_pos rfl] at H; exact H
              clear H
              have H := H1
              clear H1
              obtain rfl := Option.some.inj H
              go_wp2
              go_ret
              exact ⟨by first | rfl | (simp [errW_none, errW_some] <;> rfl) | (simp [*, errW_none, errW_some] <;> rfl), by repeat (first | (with_reducible first | exact HB.out | apply bA | apply bN | apply b1) | exact HB.out)⟩
             ·replace c54 := Bool.eq_false_iff.mpr c54
              subst c54
              have H1 : (none) = some r := by rw [if_neg (show ¬ (false = true) by decide)] at H; exact H
              clear H
              have H := H1
              clear H1
              exact absurd H (by simp)
   ·rw [if_neg c8] at H
    exact absurd H (by simp)
  ·rw [if_neg c7] at H
   have c7b0 : (t277 == 0) = false := beq_eq_false_iff_ne.mpr c7
   have c7b1 : (t277 != 0) = true := bne_iff_ne.mpr c7
   obtain rfl := Option.some.inj H
   go_enter Tryz.func5, Tryz.ntmps5
   go_wp2_with (first | ((with_reducible refine gate_callee (f := 9) rfl ?_); refine goesL_ (some 18) rfl rfl Tryz.func9 (by kernel_rfl) rfl #[] rfl (by (try simp only [List.map_toArray, List.map_cons, List.map_nil]); first | done | rfl | (simp only [List.length_drop, List.length_take]; rfl)) ?_; (with_reducible refine (cohousinglaw34_head.calls k  true _ ?side1 A4.out).mono ?_); (case side1 => exact GL.below HG.out (by repeat (first | (with_reducible first | exact HB.out | apply bA | apply bN | apply b1) | exact HB.out))); rintro e w55 ⟨rfl, hb⟩; refine ⟨_, rfl, ?_⟩; have n0_ := Aside0.mk (bT (by repeat (first | (with_reducible first | exact HB.out | apply bA | apply bN | apply b1) | exact HB.out)) hb); clear HB; have HB := n0_; clear n0_; (try clear hb); (try clear hb2); (try clear hk); (try clear hi)) | ((with_reducible refine gate_callee (f := 10) rfl ?_); refine goesL_ (some 22) rfl rfl Tryz.func10 (by kernel_rfl) rfl #[.slice A0 l0.length c0, .int .i64 a1] rfl (by (try simp only [List.map_toArray, List.map_cons, List.map_nil]); first | done | rfl | (simp only [List.length_drop, List.length_take]; rfl)) ?_; (with_reducible refine (setoff_Pay.calls _ _ l0 a1 t275 t276 t277 _ ?side1 ?side2 A6.out).mono ?_); (case side1 => repeat (first | exact (Kd.C_below HR0.out HB.out) | (with_reducible refine Kd.C_alloc ?_ _) | (with_reducible refine Kd.C_drewN ?_ _) | (with_reducible refine Kd.C_drew ?_))); (case side2 => exact HC0.out); rintro e w56 ⟨v278, rfl, ho0, hb⟩; refine ⟨_, rfl, ?_⟩; have n0_ := Aside0.mk (Kd.R_lower ho0 (bZ (by repeat (first | (with_reducible first | exact HB.out | apply bA | apply bN | apply b1) | exact HB.out)))); have n1_ := Aside0.mk (bT (by repeat (first | (with_reducible first | exact HB.out | apply bA | apply bN | apply b1) | exact HB.out)) hb); clear HB; have HO279 := n0_; have HB := n1_; clear n0_ n1_; (try clear hb); (try clear hb2); (try clear hk); (try clear hi); (try clear ho0)))
   go_ret
   exact ⟨by first | rfl | (simp [errW_none, errW_some] <;> rfl) | (simp [*, errW_none, errW_some] <;> rfl), by repeat (first | (with_reducible first | exact HB.out | apply bA | apply bN | apply b1) | exact HB.out)⟩
 ·replace c5 := Bool.eq_false_iff.mpr c5
  subst c5
  have H1 : (none) = some r := by rw [if_neg (show ¬ (false = true) by decide)] at H; exact H
  clear H
  have H := H1
  clear H1
  exact absurd H (by simp)

end Go.Proofs.YtnkgnjklkocojaaGreatDoor.X
