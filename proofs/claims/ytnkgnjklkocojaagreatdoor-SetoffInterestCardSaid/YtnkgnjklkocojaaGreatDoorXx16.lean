-- Written by a program of mine (wip/tools/xprint.py) over the kit's print.py: printed functions and hand-proved ones side by side.
import Derived.Test.YtnkgnjklkocojaaGreatDoorXx0
import Derived.Test.YtnkgnjklkocojaaGreatDoorXx2
import Derived.Test.YtnkgnjklkocojaaGreatDoorXx3
import Derived.Test.YtnkgnjklkocojaaGreatDoorXx4
import Derived.Test.YtnkgnjklkocojaaGreatDoorXx9
import Derived.Test.YtnkgnjklkocojaaGreatDoorXx10
import Derived.Test.YtnkgnjklkocojaaGreatDoorXx15
import Derived.Deep.RegionWith
namespace Go.Proofs.YtnkgnjklkocojaaGreatDoor.X
open Go.RowKit Go.Proofs.YtnkgnjklkocojaaGreatDoorW.PrintWords Go.Proofs.YtnkgnjklkocojaaGreatDoorW.PrintLast Go.Proofs.YtnkgnjklkocojaaGreatDoorW.PrintMore
attribute [local go_sem] max2_int min2_int max_two min_two max_three min_three max_four min_four   -- for this text's walks alone
set_option linter.unusedVariables false
set_option linter.unusedSimpArgs false

/-! ### setoff_Plan: function 19 -/
mutual
def setoff_Plan.j0 : Nat → List (S39) → Int → Int → Bool → Option ((List (S39)) × Int)
 | 0, _, _, _, _ => none
 | k + 1, x0, x1, x2, x35 => if x35 = true then (some (([] : List (S39)), 1)) else ((setoff_late.f x0 x1 (([3] : List Int))).bind fun bt215 => (if (bt215.1.length : Int) = 0 then (some (([] : List (S39)), 4)) else ((setoff_open.f k bt215.1).bind fun bt221 => ((setoff_instalment.f k x1 x2).bind fun bt223 => (if bt223.2 = 0 then (setoff_Plan.j1 k x0 x1 x2 bt215.2 bt221.1 (!bt221.2)) else (setoff_Plan.j1 k x0 x1 x2 bt215.2 bt221.1 true))))))
def setoff_Plan.j1 : Nat → List (S39) → Int → Int → List (S39) → Int → Bool → Option ((List (S39)) × Int)
 | 0, _, _, _, _, _, _ => none
 | k + 1, x0, x1, x2, x9, x10, x62 => if x62 = true then (some (([] : List (S39)), 3)) else (setoff_Plan.l0 k x1 x2 x9 x10 0 x0 (x0.length : Int) 0)
def setoff_Plan.l0 : Nat → Int → Int → List (S39) → Int → Int → List (S39) → Int → Int → Option ((List (S39)) × Int)
 | 0, _, _, _, _, _, _, _, _ => none
 | k + 1, x1, x2, x9, x10, x14, x63, x64, x65 => if x65 < x64 then (if 0 ≤ x65 then (if x65 < (x63.length : Int) then (setoff_Plan.l0 k x1 x2 x9 x10 (mx x14 ((rd_T39 x63 x65).f0)) x63 x64 (wrap64 (x65 + 1))) else (none)) else (none)) else (if (wrap64 ((x9.length : Int) + x2)) > 100 then (setoff_Plan.j3 k x1 x2 x9 x10 x14 true) else (setoff_Plan.j3 k x1 x2 x9 x10 x14 (decide ((wrap64 (x14 + x2)) > 1000000))))
def setoff_Plan.j3 : Nat → Int → Int → List (S39) → Int → Int → Bool → Option ((List (S39)) × Int)
 | 0, _, _, _, _, _, _ => none
 | k + 1, x1, x2, x9, x10, x14, x84 => if x84 = true then (some (([] : List (S39)), 2)) else ((slices_Repeat_int_int.f (([1] : List Int)) x2).bind fun t230 => ((money_Split.f x10 t230).bind fun bt233 => (setoff_Plan.l1 k x1 x9 x14 bt233.1 (bt233.1.length : Int) 0)))
def setoff_Plan.l1 : Nat → Int → List (S39) → Int → List Int → Int → Int → Option ((List (S39)) × Int)
 | 0, _, _, _, _, _, _ => none
 | k + 1, x1, x9, x14, x93, x94, x95 => if x95 < x94 then (if 0 ≤ x95 then (if x95 < (x93.length : Int) then ((setoff_instalment.f k x1 (wrap64 (x95 + 1))).bind fun bt238 => (if x9.length < 4398046511104 then (setoff_Plan.l1 k x1 (x9 ++ [(⟨wrap64 ((wrap64 (x14 + x95)) + 1), 3, bt238.1, rd x93 x95⟩ : S39)]) x14 x93 x94 (wrap64 (x95 + 1))) else (none))) else (none)) else (none)) else (some (x9, 0))
end
def setoff_Plan.f (k : Nat) (l0 : List (S39)) (a1 : Int) (a2 : Int) : Option ((List (S39)) × Int) := (setoff_Valid.f l0).bind fun t209 => (if t209 = true then ((setoff_between.f a1 0 36524).bind fun t210 => (if t210 = true then ((setoff_between.f a2 1 60).bind fun t211 => (setoff_Plan.j0 k l0 a1 a2 (!t211))) else (setoff_Plan.j0 k l0 a1 a2 true))) else (setoff_Plan.j0 k l0 a1 a2 true))
theorem setoff_Plan.mono_l : ∀ k, (∀ y0 y1 y2 y3, LeO (setoff_Plan.j0 k y0 y1 y2 y3) (setoff_Plan.j0 (k + 1) y0 y1 y2 y3)) ∧ (∀ y0 y1 y2 y3 y4 y5, LeO (setoff_Plan.j1 k y0 y1 y2 y3 y4 y5) (setoff_Plan.j1 (k + 1) y0 y1 y2 y3 y4 y5)) ∧ (∀ y0 y1 y2 y3 y4 y5 y6 y7, LeO (setoff_Plan.l0 k y0 y1 y2 y3 y4 y5 y6 y7) (setoff_Plan.l0 (k + 1) y0 y1 y2 y3 y4 y5 y6 y7)) ∧ (∀ y0 y1 y2 y3 y4 y5, LeO (setoff_Plan.j3 k y0 y1 y2 y3 y4 y5) (setoff_Plan.j3 (k + 1) y0 y1 y2 y3 y4 y5)) ∧ (∀ y0 y1 y2 y3 y4 y5, LeO (setoff_Plan.l1 k y0 y1 y2 y3 y4 y5) (setoff_Plan.l1 (k + 1) y0 y1 y2 y3 y4 y5))
 | 0 => ⟨fun _ _ _ _ r h => by simp [setoff_Plan.j0] at h, fun _ _ _ _ _ _ r h => by simp [setoff_Plan.j1] at h, fun _ _ _ _ _ _ _ _ r h => by simp [setoff_Plan.l0] at h, fun _ _ _ _ _ _ r h => by simp [setoff_Plan.j3] at h, fun _ _ _ _ _ _ r h => by simp [setoff_Plan.l1] at h⟩
 | k + 1 => by
  obtain ⟨ih0, ih1, ih2, ih3, ih4⟩ := setoff_Plan.mono_l k
  refine ⟨?_, ?_, ?_, ?_, ?_⟩
  ·intro y0 y1 y2 y3
   unfold setoff_Plan.j0
   repeat' first
   | (with_reducible exact ih0 _ _ _ _)
   | (with_reducible exact ih1 _ _ _ _ _ _)
   | (with_reducible exact ih2 _ _ _ _ _ _ _ _)
   | (with_reducible exact ih3 _ _ _ _ _ _)
   | (with_reducible exact ih4 _ _ _ _ _ _)
   | (with_reducible exact setoff_instalment.mono _ _ _)
   | (with_reducible exact setoff_open.mono _ _)
   | (with_reducible exact LeO.refl _)
   | (with_reducible exact LeO.none _)
   | (with_reducible refine LeO.ite ?_ ?_)
   | (with_reducible refine LeO.bind ?_ (fun _ => ?_))
   | exact ih0 _ _ _ _
   | exact ih1 _ _ _ _ _ _
   | exact ih2 _ _ _ _ _ _ _ _
   | exact ih3 _ _ _ _ _ _
   | exact ih4 _ _ _ _ _ _
   | exact setoff_instalment.mono _ _ _
   | exact setoff_open.mono _ _
   | exact LeO.none _
   | refine LeO.ite ?_ ?_
   | refine LeO.bind ?_ (fun _ => ?_)
  ·intro y0 y1 y2 y3 y4 y5
   unfold setoff_Plan.j1
   repeat' first
   | (with_reducible exact ih0 _ _ _ _)
   | (with_reducible exact ih1 _ _ _ _ _ _)
   | (with_reducible exact ih2 _ _ _ _ _ _ _ _)
   | (with_reducible exact ih3 _ _ _ _ _ _)
   | (with_reducible exact ih4 _ _ _ _ _ _)
   | (with_reducible exact setoff_instalment.mono _ _ _)
   | (with_reducible exact setoff_open.mono _ _)
   | (with_reducible exact LeO.refl _)
   | (with_reducible exact LeO.none _)
   | (with_reducible refine LeO.ite ?_ ?_)
   | (with_reducible refine LeO.bind ?_ (fun _ => ?_))
   | exact ih0 _ _ _ _
   | exact ih1 _ _ _ _ _ _
   | exact ih2 _ _ _ _ _ _ _ _
   | exact ih3 _ _ _ _ _ _
   | exact ih4 _ _ _ _ _ _
   | exact setoff_instalment.mono _ _ _
   | exact setoff_open.mono _ _
   | exact LeO.none _
   | refine LeO.ite ?_ ?_
   | refine LeO.bind ?_ (fun _ => ?_)
  ·intro y0 y1 y2 y3 y4 y5 y6 y7
   unfold setoff_Plan.l0
   repeat' first
   | (with_reducible exact ih0 _ _ _ _)
   | (with_reducible exact ih1 _ _ _ _ _ _)
   | (with_reducible exact ih2 _ _ _ _ _ _ _ _)
   | (with_reducible exact ih3 _ _ _ _ _ _)
   | (with_reducible exact ih4 _ _ _ _ _ _)
   | (with_reducible exact setoff_instalment.mono _ _ _)
   | (with_reducible exact setoff_open.mono _ _)
   | (with_reducible exact LeO.refl _)
   | (with_reducible exact LeO.none _)
   | (with_reducible refine LeO.ite ?_ ?_)
   | (with_reducible refine LeO.bind ?_ (fun _ => ?_))
   | exact ih0 _ _ _ _
   | exact ih1 _ _ _ _ _ _
   | exact ih2 _ _ _ _ _ _ _ _
   | exact ih3 _ _ _ _ _ _
   | exact ih4 _ _ _ _ _ _
   | exact setoff_instalment.mono _ _ _
   | exact setoff_open.mono _ _
   | exact LeO.none _
   | refine LeO.ite ?_ ?_
   | refine LeO.bind ?_ (fun _ => ?_)
  ·intro y0 y1 y2 y3 y4 y5
   unfold setoff_Plan.j3
   repeat' first
   | (with_reducible exact ih0 _ _ _ _)
   | (with_reducible exact ih1 _ _ _ _ _ _)
   | (with_reducible exact ih2 _ _ _ _ _ _ _ _)
   | (with_reducible exact ih3 _ _ _ _ _ _)
   | (with_reducible exact ih4 _ _ _ _ _ _)
   | (with_reducible exact setoff_instalment.mono _ _ _)
   | (with_reducible exact setoff_open.mono _ _)
   | (with_reducible exact LeO.refl _)
   | (with_reducible exact LeO.none _)
   | (with_reducible refine LeO.ite ?_ ?_)
   | (with_reducible refine LeO.bind ?_ (fun _ => ?_))
   | exact ih0 _ _ _ _
   | exact ih1 _ _ _ _ _ _
   | exact ih2 _ _ _ _ _ _ _ _
   | exact ih3 _ _ _ _ _ _
   | exact ih4 _ _ _ _ _ _
   | exact setoff_instalment.mono _ _ _
   | exact setoff_open.mono _ _
   | exact LeO.none _
   | refine LeO.ite ?_ ?_
   | refine LeO.bind ?_ (fun _ => ?_)
  ·intro y0 y1 y2 y3 y4 y5
   unfold setoff_Plan.l1
   repeat' first
   | (with_reducible exact ih0 _ _ _ _)
   | (with_reducible exact ih1 _ _ _ _ _ _)
   | (with_reducible exact ih2 _ _ _ _ _ _ _ _)
   | (with_reducible exact ih3 _ _ _ _ _ _)
   | (with_reducible exact ih4 _ _ _ _ _ _)
   | (with_reducible exact setoff_instalment.mono _ _ _)
   | (with_reducible exact setoff_open.mono _ _)
   | (with_reducible exact LeO.refl _)
   | (with_reducible exact LeO.none _)
   | (with_reducible refine LeO.ite ?_ ?_)
   | (with_reducible refine LeO.bind ?_ (fun _ => ?_))
   | exact ih0 _ _ _ _
   | exact ih1 _ _ _ _ _ _
   | exact ih2 _ _ _ _ _ _ _ _
   | exact ih3 _ _ _ _ _ _
   | exact ih4 _ _ _ _ _ _
   | exact setoff_instalment.mono _ _ _
   | exact setoff_open.mono _ _
   | exact LeO.none _
   | refine LeO.ite ?_ ?_
   | refine LeO.bind ?_ (fun _ => ?_)
theorem setoff_Plan.mono : ∀ a0 a1 a2 k, LeO (setoff_Plan.f k a0 a1 a2) (setoff_Plan.f (k + 1) a0 a1 a2) := by
 intro a0 a1 a2 k
 obtain ⟨ih0, ih1, ih2, ih3, ih4⟩ := setoff_Plan.mono_l k
 unfold setoff_Plan.f
 repeat' first
   | (with_reducible exact ih0 _ _ _ _)
   | (with_reducible exact ih1 _ _ _ _ _ _)
   | (with_reducible exact ih2 _ _ _ _ _ _ _ _)
   | (with_reducible exact ih3 _ _ _ _ _ _)
   | (with_reducible exact ih4 _ _ _ _ _ _)
   | (with_reducible exact setoff_instalment.mono _ _ _)
   | (with_reducible exact setoff_open.mono _ _)
   | (with_reducible exact LeO.refl _)
   | (with_reducible exact LeO.none _)
   | (with_reducible refine LeO.ite ?_ ?_)
   | (with_reducible refine LeO.bind ?_ (fun _ => ?_))
   | exact ih0 _ _ _ _
   | exact ih1 _ _ _ _ _ _
   | exact ih2 _ _ _ _ _ _ _ _
   | exact ih3 _ _ _ _ _ _
   | exact ih4 _ _ _ _ _ _
   | exact setoff_instalment.mono _ _ _
   | exact setoff_open.mono _ _
   | exact LeO.none _
   | refine LeO.ite ?_ ?_
   | refine LeO.bind ?_ (fun _ => ?_)
set_option maxHeartbeats 8000000 in
set_option maxRecDepth 100000 in
theorem setoff_Plan.calls (k : Nat) (A0 : Option Addr) (c0 : Nat) (l0 : List (S39)) (a1 : Int) (a2 : Int) (r1 : List (S39)) (r2 : Int) (w : World) (hr0 : Kd.C k39 w A0 l0.length l0) (hc0 : l0.length ≤ c0) (hG : GL w) (h : setoff_Plan.f k l0 a1 a2 = some (r1, r2)) :
  Calls Tryz.prog 19 #[.slice A0 l0.length c0, .int .i64 a1, .int .i64 a2] w fun e w' => ∃ v0_ : Value, e = .returned (.tuple #[v0_, .int .i64 r2]) ∧ Kd.R k39 39 w' w.heap.size (fun _ => True) v0_ r1 ∧ Below w.heap.size w w' := by
 have hu39 := Tryz.underlying39
 have HG := Aside0.mk hG
 clear hG
 have HR0 := Aside0.mk hr0
 have HC0 := Aside0.mk hc0
 clear hr0 hc0
 have HB := Aside0.mk (Below.refl w.heap.size w)
 have H : ((setoff_Valid.f l0).bind fun t209 => (if t209 = true then ((setoff_between.f a1 0 36524).bind fun t210 => (if t210 = true then ((setoff_between.f a2 1 60).bind fun t211 => (setoff_Plan.j0 k l0 a1 a2 (!t211))) else (setoff_Plan.j0 k l0 a1 a2 true))) else (setoff_Plan.j0 k l0 a1 a2 true))) = some (r1, r2) := h
 clear h
 have HC4 := Aside0.mk H
 clear H
 go_enter Tryz.func19, Tryz.ntmps19
 go_upto_region 1 with (fail)
 go_cut [35] (fun v35 wc => ∃ (kq : Nat) (x35_3 : Bool), v35 = .bool x35_3 ∧ Aside0 (setoff_Plan.j0 kq l0 a1 a2 x35_3 = some (r1, r2)) ∧ Aside0 (kq ≤ k) ∧ Aside0 (Below w.heap.size w wc))
 case first =>
  have H := HC4.out
  clear HC4
  replace H := Option.bind_eq_some_iff.mp H
  obtain ⟨t209, A50, H⟩ := H
  replace H : (if t209 = true then ((setoff_between.f a1 0 36524).bind fun t210 => (if t210 = true then ((setoff_between.f a2 1 60).bind fun t211 => (setoff_Plan.j0 k l0 a1 a2 (!t211))) else (setoff_Plan.j0 k l0 a1 a2 true))) else (setoff_Plan.j0 k l0 a1 a2 true)) = some (r1, r2) := H
  have A5 := Aside0.mk A50
  clear A50
  by_cases c6 : t209 = true
  ·subst c6
   have H1 : ((setoff_between.f a1 0 36524).bind fun t210 => (if t210 = true then ((setoff_between.f a2 1 60).bind fun t211 => (setoff_Plan.j0 k l0 a1 a2 (!t211))) else (setoff_Plan.j0 k l0 a1 a2 true))) = some (r1, r2) := by rw [if_pos rfl] at H; exact H
   clear H
   have H := H1
   clear H1
   replace H := Option.bind_eq_some_iff.mp H
   obtain ⟨t210, A70, H⟩ := H
   replace H : (if t210 = true then ((setoff_between.f a2 1 60).bind fun t211 => (setoff_Plan.j0 k l0 a1 a2 (!t211))) else (setoff_Plan.j0 k l0 a1 a2 true)) = some (r1, r2) := H
   have A7 := Aside0.mk A70
   clear A70
   by_cases c8 : t210 = true
   ·subst c8
    have H1 : ((setoff_between.f a2 1 60).bind fun t211 => (setoff_Plan.j0 k l0 a1 a2 (!t211))) = some (r1, r2) := by rw [if_pos rfl] at H; exact H
    clear H
    have H := H1
    clear H1
    replace H := Option.bind_eq_some_iff.mp H
    obtain ⟨t211, A90, H⟩ := H
    replace H : (setoff_Plan.j0 k l0 a1 a2 (!t211)) = some (r1, r2) := H
    have A9 := Aside0.mk A90
    clear A90
    have H' := Aside0.mk H
    clear H
    go_wp2_with (first | ((with_reducible refine gate_callee (f := 12) rfl ?_); refine goesL_ (some 24) rfl rfl Tryz.func12 (by kernel_rfl) rfl #[.slice A0 l0.length c0] rfl (by (try simp only [List.map_toArray, List.map_cons, List.map_nil]); first | done | rfl | (simp only [List.length_drop, List.length_take]; rfl)) ?_; (with_reducible refine (setoff_Valid.calls _ _ l0 true _ ?side1 ?side2 A5.out).mono ?_); (case side1 => repeat (first | exact (Kd.C_below HR0.out HB.out) | (with_reducible refine Kd.C_alloc ?_ _) | (with_reducible refine Kd.C_drewN ?_ _) | (with_reducible refine Kd.C_drew ?_))); (case side2 => exact HC0.out); rintro e w10 ⟨rfl, hb⟩; refine ⟨_, rfl, ?_⟩; have n0_ := Aside0.mk (bT (by repeat (first | (with_reducible first | exact HB.out | apply bA | apply bN | apply b1) | exact HB.out)) hb); clear HB; have HB := n0_; clear n0_; (try clear hb); (try clear hb2); (try clear hk); (try clear hi)) | (go_at_call 27; (with_reducible refine (setoff_between.calls a1 0 36524 true _ A7.out).mono ?_); rintro e w' ⟨rfl, ⟨nd, rfl⟩⟩) | (go_at_call 27; (with_reducible refine (setoff_between.calls a2 1 60 t211 _ A9.out).mono ?_); rintro e w' ⟨rfl, ⟨nd, rfl⟩⟩))
    go_meet
    case rel => exact ⟨_, (!t211), (by first | rfl | (simp; done) | (simp [*]; done)), H', ⟨by first | omega | exact Nat.le_refl _⟩, ⟨by repeat (first | (with_reducible first | exact HB.out | apply bA | apply bN | apply b1) | exact HB.out)⟩⟩
   ·replace c8 := Bool.eq_false_iff.mpr c8
    subst c8
    have H1 : (setoff_Plan.j0 k l0 a1 a2 true) = some (r1, r2) := by rw [if_neg (show ¬ (false = true) by decide)] at H; exact H
    clear H
    have H := H1
    clear H1
    have H' := Aside0.mk H
    clear H
    go_wp2_with (first | ((with_reducible refine gate_callee (f := 12) rfl ?_); refine goesL_ (some 24) rfl rfl Tryz.func12 (by kernel_rfl) rfl #[.slice A0 l0.length c0] rfl (by (try simp only [List.map_toArray, List.map_cons, List.map_nil]); first | done | rfl | (simp only [List.length_drop, List.length_take]; rfl)) ?_; (with_reducible refine (setoff_Valid.calls _ _ l0 true _ ?side1 ?side2 A5.out).mono ?_); (case side1 => repeat (first | exact (Kd.C_below HR0.out HB.out) | (with_reducible refine Kd.C_alloc ?_ _) | (with_reducible refine Kd.C_drewN ?_ _) | (with_reducible refine Kd.C_drew ?_))); (case side2 => exact HC0.out); rintro e w11 ⟨rfl, hb⟩; refine ⟨_, rfl, ?_⟩; have n0_ := Aside0.mk (bT (by repeat (first | (with_reducible first | exact HB.out | apply bA | apply bN | apply b1) | exact HB.out)) hb); clear HB; have HB := n0_; clear n0_; (try clear hb); (try clear hb2); (try clear hk); (try clear hi)) | (go_at_call 27; (with_reducible refine (setoff_between.calls a1 0 36524 false _ A7.out).mono ?_); rintro e w' ⟨rfl, ⟨nd, rfl⟩⟩))
    go_meet
    case rel => exact ⟨_, (true), (by first | rfl | (simp; done) | (simp [*]; done)), H', ⟨by first | omega | exact Nat.le_refl _⟩, ⟨by repeat (first | (with_reducible first | exact HB.out | apply bA | apply bN | apply b1) | exact HB.out)⟩⟩
  ·replace c6 := Bool.eq_false_iff.mpr c6
   subst c6
   have H1 : (setoff_Plan.j0 k l0 a1 a2 true) = some (r1, r2) := by rw [if_neg (show ¬ (false = true) by decide)] at H; exact H
   clear H
   have H := H1
   clear H1
   have H' := Aside0.mk H
   clear H
   go_wp2_with (first | ((with_reducible refine gate_callee (f := 12) rfl ?_); refine goesL_ (some 24) rfl rfl Tryz.func12 (by kernel_rfl) rfl #[.slice A0 l0.length c0] rfl (by (try simp only [List.map_toArray, List.map_cons, List.map_nil]); first | done | rfl | (simp only [List.length_drop, List.length_take]; rfl)) ?_; (with_reducible refine (setoff_Valid.calls _ _ l0 false _ ?side1 ?side2 A5.out).mono ?_); (case side1 => repeat (first | exact (Kd.C_below HR0.out HB.out) | (with_reducible refine Kd.C_alloc ?_ _) | (with_reducible refine Kd.C_drewN ?_ _) | (with_reducible refine Kd.C_drew ?_))); (case side2 => exact HC0.out); rintro e w12 ⟨rfl, hb⟩; refine ⟨_, rfl, ?_⟩; have n0_ := Aside0.mk (bT (by repeat (first | (with_reducible first | exact HB.out | apply bA | apply bN | apply b1) | exact HB.out)) hb); clear HB; have HB := n0_; clear n0_; (try clear hb); (try clear hb2); (try clear hk); (try clear hi)))
   go_meet
   case rel => exact ⟨_, (true), (by first | rfl | (simp; done) | (simp [*]; done)), H', ⟨by first | omega | exact Nat.le_refl _⟩, ⟨by repeat (first | (with_reducible first | exact HB.out | apply bA | apply bN | apply b1) | exact HB.out)⟩⟩
 case rest =>
  clear HC4
  try clear c1
  try clear p2
  try clear c6
  try clear c8
  try clear c12
  obtain ⟨kq, x35_3, rfl, HA, HJ3, HB⟩ := hcut
  cases kq with
  | zero => exact absurd HA.out (by simp [setoff_Plan.j0])
  | succ kj3 =>
   have H := HA.out
   clear HA
   simp only [setoff_Plan.j0] at H
   by_cases c13 : x35_3 = true
   ·subst c13
    have H1 : (some (([] : List (S39)), 1)) = some (r1, r2) := by rw [if_pos rfl] at H; exact H
    clear H
    have H := H1
    clear H1
    simp only [Option.some.injEq, Prod.mk.injEq] at H
    obtain ⟨rfl, rfl⟩ := H
    go_wp2
    go_ret2
    exact ⟨_, by first | rfl | (simp [errW_none, errW_some] <;> rfl) | (simp [*, errW_none, errW_some] <;> rfl), by first | exact Kd.R_nil _ _ _ _ _ | exact Kd.N_nil _ _ _ _ _ | exact Kd.V_nil _ _ _ _ _ | exact Kd.Q_nil _ _ _ _ _ | exact Kd.S_nil _ _ _ _ _, by repeat (first | (with_reducible first | exact HB.out | apply bA | apply bN | apply b1) | exact HB.out)⟩
   ·replace c13 := Bool.eq_false_iff.mpr c13
    subst c13
    have H1 : ((setoff_late.f l0 a1 (([3] : List Int))).bind fun bt215 => (if (bt215.1.length : Int) = 0 then (some (([] : List (S39)), 4)) else ((setoff_open.f kj3 bt215.1).bind fun bt221 => ((setoff_instalment.f kj3 a1 a2).bind fun bt223 => (if bt223.2 = 0 then (setoff_Plan.j1 kj3 l0 a1 a2 bt215.2 bt221.1 (!bt221.2)) else (setoff_Plan.j1 kj3 l0 a1 a2 bt215.2 bt221.1 true)))))) = some (r1, r2) := by rw [if_neg (show ¬ (false = true) by decide)] at H; exact H
    clear H
    have H := H1
    clear H1
    obtain ⟨y212, hy212⟩ : ∃ y_ : List Int, y_ = (([3] : List Int)) := ⟨_, rfl⟩
    replace H : ((setoff_late.f l0 a1 y212).bind fun bt215 => (if (bt215.1.length : Int) = 0 then (some (([] : List (S39)), 4)) else ((setoff_open.f kj3 bt215.1).bind fun bt221 => ((setoff_instalment.f kj3 a1 a2).bind fun bt223 => (if bt223.2 = 0 then (setoff_Plan.j1 kj3 l0 a1 a2 bt215.2 bt221.1 (!bt221.2)) else (setoff_Plan.j1 kj3 l0 a1 a2 bt215.2 bt221.1 true)))))) = some (r1, r2) := by first | (rw [hy212]; with_reducible exact H) | (have H2_ := (Option.bind_some _ _).symm.trans H; rw [hy212]; with_reducible exact H2_) | (have H2_ := (Option.bind_some _ _).symm.trans H; with_reducible exact H2_) | with_reducible exact H | (rw [hy212]; exact H) | exact H
    have Ny212 := Aside0.mk hy212
    clear hy212
    replace H := Option.bind_eq_some_iff.mp H
    obtain ⟨⟨t215, t216⟩, A140, H⟩ := H
    replace H : (if (t215.length : Int) = 0 then (some (([] : List (S39)), 4)) else ((setoff_open.f kj3 t215).bind fun bt221 => ((setoff_instalment.f kj3 a1 a2).bind fun bt223 => (if bt223.2 = 0 then (setoff_Plan.j1 kj3 l0 a1 a2 t216 bt221.1 (!bt221.2)) else (setoff_Plan.j1 kj3 l0 a1 a2 t216 bt221.1 true))))) = some (r1, r2) := H
    have A14 := Aside0.mk A140
    clear A140
    by_cases c15 : (t215.length : Int) = 0
    ·rw [if_pos c15] at H
     have c15b0 : ((t215.length : Int) == 0) = true := beq_iff_eq.mpr c15
     have c15b1 : ((t215.length : Int) != 0) = false := bne_eq_false_iff_eq.mpr c15
     clear c15
     simp only [Option.some.injEq, Prod.mk.injEq] at H
     obtain ⟨rfl, rfl⟩ := H
     go_wp2_with (first | ((with_reducible refine gate_dst (N := 39) rfl ?_); refine Kd.R_lit (Kd.int .i64) _ 3 ?hg (N := 39) ?hd (xs := ([3] : List Int)) (inner := [.int .i64 3]) (ok := fun _ => True) (okp := fun _ => True) ?hr ?hp (fun _ hk => hk) trivial (Below.refl _ _) (Nat.le_refl _) (by simp) ?_; (case hd => rfl); (case hg => rfl); (case hr => first | (go_simp; done) | (go_simp; rfl)); (case hp => exact (Reps.one (show Kd.M (Kd.int .i64) _ _ _ 3 [.int .i64 3] from rfl) (Reps.none _ _))); intro v213 w16 ho17 hb hg_ hnew_; clear hg_ hnew_; (first | rw [← Ny212.out] at ho17 | (simp only [Int.reduceToNat] at ho17; rw [← Ny212.out] at ho17)); have n0_ := Aside0.mk (Kd.R_lower ho17 (bZ (by repeat (first | (with_reducible first | exact HB.out | apply bA | apply bN | apply b1) | exact HB.out)))); have n1_ := Aside0.mk (bT (by repeat (first | (with_reducible first | exact HB.out | apply bA | apply bN | apply b1) | exact HB.out)) hb); clear HB; have HO214 := n0_; have HB := n1_; clear n0_ n1_; clear hb ho17; obtain ⟨Ao18, co18, eo18⟩ := Kd.R_slice HO214.out; subst eo18) | ((with_reducible refine gate_callee (f := 34) rfl ?_); refine goesL_ (some 40) rfl rfl Tryz.func34 (by kernel_rfl) rfl #[.slice A0 l0.length c0, .int .i64 a1, .slice Ao18 y212.length co18] rfl (by (try simp only [List.map_toArray, List.map_cons, List.map_nil]); first | done | rfl | (simp only [List.length_drop, List.length_take]; rfl)) ?_; (with_reducible refine (setoff_late.calls _ _ l0 a1 _ _ y212 t215 t216 _ ?side1 ?side2 ?side3 ?side4 A14.out).mono ?_); (case side1 => repeat (first | exact (Kd.C_below HR0.out HB.out) | (with_reducible refine Kd.C_alloc ?_ _) | (with_reducible refine Kd.C_drewN ?_ _) | (with_reducible refine Kd.C_drew ?_))); (case side2 => exact HC0.out); (case side3 => repeat (first | exact (Kd.R_reads' HO214.out).2.2 | (with_reducible refine Kd.C_alloc ?_ _) | (with_reducible refine Kd.C_drewN ?_ _) | (with_reducible refine Kd.C_drew ?_))); (case side4 => exact (Kd.R_reads' HO214.out).2.1); rintro e w19 ⟨v217, v219, rfl, ho0, ho1, hb⟩; refine ⟨_, rfl, ?_⟩; have n0_ := Aside0.mk (Kd.R_below (by (with_reducible repeat (first | apply Kd.R_alloc | apply Kd.R_drewN | apply Kd.R_drew)); exact HO214.out) hb); have n1_ := Aside0.mk (Kd.R_lower ho0 (bZ (by repeat (first | (with_reducible first | exact HB.out | apply bA | apply bN | apply b1) | exact HB.out)))); have n2_ := Aside0.mk (Kd.R_lower ho1 (bZ (by repeat (first | (with_reducible first | exact HB.out | apply bA | apply bN | apply b1) | exact HB.out)))); have n3_ := Aside0.mk (bT (by repeat (first | (with_reducible first | exact HB.out | apply bA | apply bN | apply b1) | exact HB.out)) hb); clear HO214; clear HB; have HO214 := n0_; have HO218 := n1_; have HO220 := n2_; have HB := n3_; clear n0_ n1_ n2_ n3_; (try clear hb); (try clear hb2); (try clear hk); (try clear hi); (try clear ho0); (try clear ho1); obtain ⟨Ao20, co20, eo20⟩ := Kd.R_slice HO218.out; subst eo20))
     go_ret2
     exact ⟨_, by first | rfl | (simp [errW_none, errW_some] <;> rfl) | (simp [*, errW_none, errW_some] <;> rfl), by first | exact Kd.R_nil _ _ _ _ _ | exact Kd.N_nil _ _ _ _ _ | exact Kd.V_nil _ _ _ _ _ | exact Kd.Q_nil _ _ _ _ _ | exact Kd.S_nil _ _ _ _ _, by repeat (first | (with_reducible first | exact HB.out | apply bA | apply bN | apply b1) | exact HB.out)⟩
    ·rw [if_neg c15] at H
     have c15b0 : ((t215.length : Int) == 0) = false := beq_eq_false_iff_ne.mpr c15
     have c15b1 : ((t215.length : Int) != 0) = true := bne_iff_ne.mpr c15
     have c15b2 : ¬ (t215 = []) := fun h_ => c15 (by rw [h_]; rfl)
     replace H := Option.bind_eq_some_iff.mp H
     obtain ⟨⟨t221, t222⟩, A210, H⟩ := H
     replace H : ((setoff_instalment.f kj3 a1 a2).bind fun bt223 => (if bt223.2 = 0 then (setoff_Plan.j1 kj3 l0 a1 a2 t216 t221 (!t222)) else (setoff_Plan.j1 kj3 l0 a1 a2 t216 t221 true))) = some (r1, r2) := H
     have A21 := Aside0.mk A210
     clear A210
     replace H := Option.bind_eq_some_iff.mp H
     obtain ⟨⟨t223, t224⟩, A220, H⟩ := H
     replace H : (if t224 = 0 then (setoff_Plan.j1 kj3 l0 a1 a2 t216 t221 (!t222)) else (setoff_Plan.j1 kj3 l0 a1 a2 t216 t221 true)) = some (r1, r2) := H
     have A22 := Aside0.mk A220
     clear A220
     have HC23 := Aside0.mk H
     clear H
     go_upto_region 8 with (first | ((with_reducible refine gate_dst (N := 39) rfl ?_); refine Kd.R_lit (Kd.int .i64) _ 3 ?hg (N := 39) ?hd (xs := ([3] : List Int)) (inner := [.int .i64 3]) (ok := fun _ => True) (okp := fun _ => True) ?hr ?hp (fun _ hk => hk) trivial (Below.refl _ _) (Nat.le_refl _) (by simp) ?_; (case hd => rfl); (case hg => rfl); (case hr => first | (go_simp; done) | (go_simp; rfl)); (case hp => exact (Reps.one (show Kd.M (Kd.int .i64) _ _ _ 3 [.int .i64 3] from rfl) (Reps.none _ _))); intro v213 w24 ho25 hb hg_ hnew_; clear hg_ hnew_; (first | rw [← Ny212.out] at ho25 | (simp only [Int.reduceToNat] at ho25; rw [← Ny212.out] at ho25)); have n0_ := Aside0.mk (Kd.R_lower ho25 (bZ (by repeat (first | (with_reducible first | exact HB.out | apply bA | apply bN | apply b1) | exact HB.out)))); have n1_ := Aside0.mk (bT (by repeat (first | (with_reducible first | exact HB.out | apply bA | apply bN | apply b1) | exact HB.out)) hb); clear HB; have HO214 := n0_; have HB := n1_; clear n0_ n1_; clear hb ho25; obtain ⟨Ao26, co26, eo26⟩ := Kd.R_slice HO214.out; subst eo26) | ((with_reducible refine gate_callee (f := 34) rfl ?_); refine goesL_ (some 40) rfl rfl Tryz.func34 (by kernel_rfl) rfl #[.slice A0 l0.length c0, .int .i64 a1, .slice Ao26 y212.length co26] rfl (by (try simp only [List.map_toArray, List.map_cons, List.map_nil]); first | done | rfl | (simp only [List.length_drop, List.length_take]; rfl)) ?_; (with_reducible refine (setoff_late.calls _ _ l0 a1 _ _ y212 t215 t216 _ ?side1 ?side2 ?side3 ?side4 A14.out).mono ?_); (case side1 => repeat (first | exact (Kd.C_below HR0.out HB.out) | (with_reducible refine Kd.C_alloc ?_ _) | (with_reducible refine Kd.C_drewN ?_ _) | (with_reducible refine Kd.C_drew ?_))); (case side2 => exact HC0.out); (case side3 => repeat (first | exact (Kd.R_reads' HO214.out).2.2 | (with_reducible refine Kd.C_alloc ?_ _) | (with_reducible refine Kd.C_drewN ?_ _) | (with_reducible refine Kd.C_drew ?_))); (case side4 => exact (Kd.R_reads' HO214.out).2.1); rintro e w27 ⟨v217, v219, rfl, ho0, ho1, hb⟩; refine ⟨_, rfl, ?_⟩; have n0_ := Aside0.mk (Kd.R_below (by (with_reducible repeat (first | apply Kd.R_alloc | apply Kd.R_drewN | apply Kd.R_drew)); exact HO214.out) hb); have n1_ := Aside0.mk (Kd.R_lower ho0 (bZ (by repeat (first | (with_reducible first | exact HB.out | apply bA | apply bN | apply b1) | exact HB.out)))); have n2_ := Aside0.mk (Kd.R_lower ho1 (bZ (by repeat (first | (with_reducible first | exact HB.out | apply bA | apply bN | apply b1) | exact HB.out)))); have n3_ := Aside0.mk (bT (by repeat (first | (with_reducible first | exact HB.out | apply bA | apply bN | apply b1) | exact HB.out)) hb); clear HO214; clear HB; have HO214 := n0_; have HO218 := n1_; have HO220 := n2_; have HB := n3_; clear n0_ n1_ n2_ n3_; (try clear hb); (try clear hb2); (try clear hk); (try clear hi); (try clear ho0); (try clear ho1); obtain ⟨Ao28, co28, eo28⟩ := Kd.R_slice HO218.out; subst eo28) | ((with_reducible refine gate_callee (f := 35) rfl ?_); refine goesL_ (some 48) rfl rfl Tryz.func35 (by kernel_rfl) rfl #[.slice Ao28 t215.length co28] rfl (by (try simp only [List.map_toArray, List.map_cons, List.map_nil]); first | done | rfl | (simp only [List.length_drop, List.length_take]; rfl)) ?_; (with_reducible refine (setoff_open.calls kj3 _ _ t215 t221 t222 _ ?side1 ?side2 A21.out).mono ?_); (case side1 => repeat (first | exact (Kd.R_reads' HO218.out).2.2 | (with_reducible refine Kd.C_alloc ?_ _) | (with_reducible refine Kd.C_drewN ?_ _) | (with_reducible refine Kd.C_drew ?_))); (case side2 => exact (Kd.R_reads' HO218.out).2.1); rintro e w29 ⟨rfl, hb⟩; refine ⟨_, rfl, ?_⟩; have n0_ := Aside0.mk (Kd.R_below (by (with_reducible repeat (first | apply Kd.R_alloc | apply Kd.R_drewN | apply Kd.R_drew)); exact HO214.out) hb); have n1_ := Aside0.mk (Kd.R_below (by (with_reducible repeat (first | apply Kd.R_alloc | apply Kd.R_drewN | apply Kd.R_drew)); exact HO218.out) hb); have n2_ := Aside0.mk (Kd.R_below (by (with_reducible repeat (first | apply Kd.R_alloc | apply Kd.R_drewN | apply Kd.R_drew)); exact HO220.out) hb); have n3_ := Aside0.mk (bT (by repeat (first | (with_reducible first | exact HB.out | apply bA | apply bN | apply b1) | exact HB.out)) hb); clear HO214; clear HO218; clear HO220; clear HB; have HO214 := n0_; have HO218 := n1_; have HO220 := n2_; have HB := n3_; clear n0_ n1_ n2_ n3_; (try clear hb); (try clear hb2); (try clear hk); (try clear hi)) | ((with_reducible refine gate_callee (f := 47) rfl ?_); refine goesL_ (some 54) rfl rfl Tryz.func47 (by kernel_rfl) rfl #[.int .i64 a1, .int .i64 a2] rfl (by (try simp only [List.map_toArray, List.map_cons, List.map_nil]); first | done | rfl | (simp only [List.length_drop, List.length_take]; rfl)) ?_; (with_reducible refine (setoff_instalment.calls kj3 a1 a2 t223 t224 _ ?side1 A22.out).mono ?_); (case side1 => exact GL.below HG.out (by repeat (first | (with_reducible first | exact HB.out | apply bA | apply bN | apply b1) | exact HB.out))); rintro e w30 ⟨rfl, hb⟩; refine ⟨_, rfl, ?_⟩; have n0_ := Aside0.mk (Kd.R_below (by (with_reducible repeat (first | apply Kd.R_alloc | apply Kd.R_drewN | apply Kd.R_drew)); exact HO214.out) hb); have n1_ := Aside0.mk (Kd.R_below (by (with_reducible repeat (first | apply Kd.R_alloc | apply Kd.R_drewN | apply Kd.R_drew)); exact HO218.out) hb); have n2_ := Aside0.mk (Kd.R_below (by (with_reducible repeat (first | apply Kd.R_alloc | apply Kd.R_drewN | apply Kd.R_drew)); exact HO220.out) hb); have n3_ := Aside0.mk (bT (by repeat (first | (with_reducible first | exact HB.out | apply bA | apply bN | apply b1) | exact HB.out)) hb); clear HO214; clear HO218; clear HO220; clear HB; have HO214 := n0_; have HO218 := n1_; have HO220 := n2_; have HB := n3_; clear n0_ n1_ n2_ n3_; (try clear hb); (try clear hb2); (try clear hk); (try clear hi)))
     (try simp only [Act.put, List.setIfInBounds_toArray, List.set_cons_zero, List.set_cons_succ])
     go_cut [62] (fun v62 wc => ∃ (kq : Nat) (x62_22 : Bool), v62 = .bool x62_22 ∧ Aside0 (setoff_Plan.j1 kq l0 a1 a2 t216 t221 x62_22 = some (r1, r2)) ∧ Aside0 (kq ≤ kj3) ∧ Aside0 (Kd.R k39 39 wc w.heap.size (fun _ => True) v219 t216) ∧ Aside0 (Below w.heap.size w wc))
     case first =>
      have H := HC23.out
      clear HC23
      by_cases c31 : t224 = 0
      ·rw [if_pos c31] at H
       have c31b0 : (t224 == 0) = true := beq_iff_eq.mpr c31
       have c31b1 : (t224 != 0) = false := bne_eq_false_iff_eq.mpr c31
       clear c31
       (first | rw [c31b0] | (simp only [i64_w, i32_w]; rw [c31b0]) | skip)
       have H' := Aside0.mk H
       clear H
       go_wp2
       go_meet
       case rel => exact ⟨_, (!t222), (by first | rfl | (simp; done) | (simp [*]; done)), H', ⟨by have := HJ3.out; first | omega | exact Nat.le_refl _⟩, ⟨by (with_reducible repeat (first | apply Kd.R_alloc | apply Kd.R_drewN | apply Kd.R_drew)); exact Kd.R_mono HO220.out (fun _ hk => trivial)⟩, ⟨by repeat (first | (with_reducible first | exact HB.out | apply bA | apply bN | apply b1) | exact HB.out)⟩⟩
      ·rw [if_neg c31] at H
       have c31b0 : (t224 == 0) = false := beq_eq_false_iff_ne.mpr c31
       have c31b1 : (t224 != 0) = true := bne_iff_ne.mpr c31
       (first | rw [c31b0] | (simp only [i64_w, i32_w]; rw [c31b0]) | skip)
       have H' := Aside0.mk H
       clear H
       go_wp2
       go_meet
       case rel => exact ⟨_, (true), (by first | rfl | (simp; done) | (simp [*]; done)), H', ⟨by have := HJ3.out; first | omega | exact Nat.le_refl _⟩, ⟨by (with_reducible repeat (first | apply Kd.R_alloc | apply Kd.R_drewN | apply Kd.R_drew)); exact Kd.R_mono HO220.out (fun _ hk => trivial)⟩, ⟨by repeat (first | (with_reducible first | exact HB.out | apply bA | apply bN | apply b1) | exact HB.out)⟩⟩
     case rest =>
      clear HC23
      try clear c1
      try clear p2
      try clear c3
      try clear c4
      try clear c6
      try clear c8
      try clear c12
      try clear c13
      try clear c15
      try clear c15b0
      try clear c15b1
      try clear c15b2
      try clear c19
      try clear c31
      try clear c31b0
      try clear c31b1
      try clear p2
      obtain ⟨kq, x62_22, rfl, HA, HJ22, HO_9, HB⟩ := hcut
      cases kq with
      | zero => exact absurd HA.out (by simp [setoff_Plan.j1])
      | succ kj22 =>
       have H := HA.out
       clear HA
       simp only [setoff_Plan.j1] at H
       by_cases c32 : x62_22 = true
       ·subst c32
        have H1 : (some (([] : List (S39)), 3)) = some (r1, r2) := by rw [if_pos rfl] at H; exact H
        clear H
        have H := H1
        clear H1
        simp only [Option.some.injEq, Prod.mk.injEq] at H
        obtain ⟨rfl, rfl⟩ := H
        go_wp2
        go_ret2
        exact ⟨_, by first | rfl | (simp [errW_none, errW_some] <;> rfl) | (simp [*, errW_none, errW_some] <;> rfl), by first | exact Kd.R_nil _ _ _ _ _ | exact Kd.N_nil _ _ _ _ _ | exact Kd.V_nil _ _ _ _ _ | exact Kd.Q_nil _ _ _ _ _ | exact Kd.S_nil _ _ _ _ _, by repeat (first | (with_reducible first | exact HB.out | apply bA | apply bN | apply b1) | exact HB.out)⟩
       ·replace c32 := Bool.eq_false_iff.mpr c32
        subst c32
        have H1 : (setoff_Plan.l0 kj22 a1 a2 t216 t221 0 l0 (l0.length : Int) 0) = some (r1, r2) := by rw [if_neg (show ¬ (false = true) by decide)] at H; exact H
        clear H
        have H := H1
        clear H1
        have H' := Aside0.mk H
        clear H
        go_wp2
        go_loopg [14, 65] kj22 (fun kq v14 v65 w' => ∃ (x14_3 : Int) (x65_3 : Int), v14 = .int .i64 x14_3 ∧ v65 = .int .i64 x65_3 ∧ Aside0 (setoff_Plan.l0 kq a1 a2 t216 t221 x14_3 l0 (l0.length : Int) x65_3 = some (r1, r2)) ∧ Aside0 (kq ≤ kj22) ∧ Aside0 (Kd.R k39 39 w' w.heap.size (fun _ => True) v219 t216) ∧ Aside0 (Below w.heap.size w w'))
        case atStart => exact ⟨(0), (0), (by first | rfl | (simp; done) | (simp [*]; done)), (by first | rfl | (simp; done) | (simp [*]; done)), H', ⟨Nat.le_refl _⟩, ⟨by (with_reducible repeat (first | apply Kd.R_alloc | apply Kd.R_drewN | apply Kd.R_drew)); exact HO_9.out⟩, ⟨by repeat (first | (with_reducible first | exact HB.out | apply bA | apply bN | apply b1) | exact HB.out)⟩⟩
        case round =>
         clear H'
         try clear c1
         try clear p2
         try clear c3
         try clear c4
         try clear c6
         try clear c8
         try clear c12
         try clear c13
         try clear c15
         try clear c15b0
         try clear c15b1
         try clear c15b2
         try clear c19
         try clear c31
         try clear c31b0
         try clear c31b1
         try clear c32
         try clear p2
         obtain ⟨x14_3, x65_3, rfl, rfl, HA, HK3, HO_9, HB⟩ := hrel
         cases gk with
         | zero => exact absurd HA.out (by simp [setoff_Plan.l0])
         | succ k3 =>
          have H := HA.out
          clear HA
          simp only [setoff_Plan.l0] at H
          by_cases c33 : x65_3 < (l0.length : Int)
          ·rw [if_pos c33] at H
           have c33b0 : decide (x65_3 < (l0.length : Int)) = true := dT c33
           clear c33
           by_cases c34 : 0 ≤ x65_3
           ·rw [if_pos c34] at H
            have c34b0 : decide (0 ≤ x65_3) = true := dT c34
            clear c34
            by_cases c35 : x65_3 < (l0.length : Int)
            ·rw [if_pos c35] at H
             have c35b0 : decide (x65_3 < (l0.length : Int)) = true := dT c35
             clear c35
             obtain ⟨ji36, hji36⟩ : ∃ j_ : Int, (mx x14_3 ((rd_T39 l0 x65_3).f0)) = j_ := ⟨_, rfl⟩
             replace H : (setoff_Plan.l0 k3 a1 a2 t216 t221 ji36 l0 (l0.length : Int) (wrap64 (x65_3 + 1))) = some (r1, r2) := by first | (rw [hji36] at H; exact H) | (simp only [hji36] at H ⊢; exact H)
             have hji36_ : (if x14_3 < ((rd_T39 l0 x65_3).f0) then ((rd_T39 l0 x65_3).f0) else x14_3) = ji36 := hji36
             have H' := Aside0.mk H
             clear H
             have p225 : 0 ≤ (x65_3 : Int) := oT (by first | (with_reducible assumption) | assumption)
             have q225 : x65_3 < (l0.length : Int) := oT (by first | (with_reducible assumption) | assumption)
             obtain ⟨ad225, e225, hx225_0, hx225_1, hx225_2, hx225_3⟩ := at_T39 HR0.out x65_3 p225 q225
             cases e225
             replace hx225_0 := (HB.out.cell (World.block_lt_of_cell? w _ hx225_0)).trans hx225_0
             replace hx225_1 := (HB.out.cell (World.block_lt_of_cell? w _ hx225_1)).trans hx225_1
             replace hx225_2 := (HB.out.cell (World.block_lt_of_cell? w _ hx225_2)).trans hx225_2
             replace hx225_3 := (HB.out.cell (World.block_lt_of_cell? w _ hx225_3)).trans hx225_3
             replace p225 := eq_true p225
             replace q225 := eq_true q225
             go_wp2_with (first | ((with_reducible refine gate_dst (N := 16) rfl ?_); refine box_event ?hg (N := 16) ?hd (cs := #[.int .i64 0, .int .i64 0, .int .i64 0, .int .i64 0]) (t := 39) ?hr ?_; (case hd => rfl); (case hg => rfl); (case hr => first | (go_simp; done) | (go_simp; rfl)); intro gb226 hg w37 hbox hb; have n0_ := Aside0.mk (Kd.R_below (Kd.R_elderB (by (with_reducible repeat (first | apply Kd.R_alloc | apply Kd.R_drewN | apply Kd.R_drew)); exact HO_9.out) gb226 (Nat.le_of_eq hg.symm)) hb); have n1_ := Aside0.mk (bT (by repeat (first | (with_reducible first | exact HB.out | apply bA | apply bN | apply b1) | exact HB.out)) hb); have n2_ := Aside0.mk (hbox); have n3_ := Aside0.mk ((by rw [hg]; exact (bZ (by repeat (first | (with_reducible first | exact HB.out | apply bA | apply bN | apply b1) | exact HB.out))) : w.heap.size ≤ gb226)); have n4_ := n3_; clear HO_9; clear HB; have HO_9 := n0_; have HB := n1_; have BK226 := n2_; have GW226 := n3_; have GE226 := n4_; clear n0_ n1_ n2_ n3_ n4_; clear hb hbox hg; have hcz38_0 : w37.cell? ⟨gb226, 0, none⟩ = some (.int .i64 0) := (kC BK226.out 0).trans rfl; have hcz38_1 : w37.cell? ⟨gb226, 1, none⟩ = some (.int .i64 0) := (kC BK226.out 1).trans rfl; have hcz38_2 : w37.cell? ⟨gb226, 2, none⟩ = some (.int .i64 0) := (kC BK226.out 2).trans rfl; have hcz38_3 : w37.cell? ⟨gb226, 3, none⟩ = some (.int .i64 0) := (kC BK226.out 3).trans rfl; have hfz38_0 := blk_frozen BK226.out 0; have hfz38_1 := blk_frozen BK226.out 1; have hfz38_2 := blk_frozen BK226.out 2; have hfz38_3 := blk_frozen BK226.out 3))
             go_roundg k3
             case measure => have := HJ3.out; have := HJ22.out; have := HK3.out; omega
             case rel => exact ⟨(ji36), (wrap64 (x65_3 + 1)), (by first | rfl | (simp; done) | (simp only [← hji36] <;> (first | rfl | simp)) | (simp [*]; done)), (by first | rfl | (simp; done) | (simp [*]; done)), H', ⟨by have := HJ3.out; have := HJ22.out; have := HK3.out; omega⟩, ⟨by (with_reducible repeat (first | apply Kd.R_alloc | apply Kd.R_drewN | apply Kd.R_drew)); exact Kd.R_mono (Kd.R_far (p := ⟨gb226, 3, none⟩) (Kd.R_far (p := ⟨gb226, 2, none⟩) (Kd.R_far (p := ⟨gb226, 1, none⟩) (Kd.R_far (p := ⟨gb226, 0, none⟩) (Kd.R_mono HO_9.out (fun k_ hk => (⟨hk, hk.2⟩ : _ ∧ k_ ≠ gb226))) (fun _ hk => hk.2) (.int .i64 ((rd_T39 l0 x65_3).f0))) (fun _ hk => hk.2) (.int .i64 ((rd_T39 l0 x65_3).f1))) (fun _ hk => hk.2) (.int .i64 ((rd_T39 l0 x65_3).f2))) (fun _ hk => hk.2) (.int .i64 ((rd_T39 l0 x65_3).f3))) (fun _ hk => trivial)⟩, ⟨by repeat (first | (with_reducible first | exact HB.out | apply bA | apply bN | apply b1 | refine bS ?_ GE226.out) | exact HB.out)⟩⟩
            ·rw [if_neg c35] at H
             exact absurd H (by simp)
           ·rw [if_neg c34] at H
            exact absurd H (by simp)
          ·rw [if_neg c33] at H
           have c33b0 : decide (x65_3 < (l0.length : Int)) = false := dF c33
           clear c33
           have HC39 := Aside0.mk H
           clear H
           go_upto_region 16 with (fail)
           go_cut [84] (fun v84 wc => ∃ (kq : Nat) (x84_38 : Bool), v84 = .bool x84_38 ∧ Aside0 (setoff_Plan.j3 kq a1 a2 t216 t221 x14_3 x84_38 = some (r1, r2)) ∧ Aside0 (kq ≤ k3) ∧ Aside0 (Kd.R k39 39 wc w.heap.size (fun _ => True) v219 t216) ∧ Aside0 (Below w.heap.size w wc))
           case first =>
            have H := HC39.out
            clear HC39
            by_cases c40 : (wrap64 ((t216.length : Int) + a2)) > 100
            ·rw [if_pos c40] at H
             have c40b0 : decide (100 < (wrap64 ((t216.length : Int) + a2))) = true := dT c40
             clear c40
             (first | rw [c40b0] | (simp only [i64_w, i32_w]; rw [c40b0]) | skip)
             have H' := Aside0.mk H
             clear H
             obtain ⟨Ao41, co41, eo41⟩ := Kd.R_slice HO_9.out
             subst eo41
             go_wp2
             go_meet
             case rel => exact ⟨_, (true), (by first | rfl | (simp; done) | (simp [*]; done)), H', ⟨by have := HJ3.out; have := HJ22.out; have := HK3.out; first | omega | exact Nat.le_refl _⟩, ⟨by (with_reducible repeat (first | apply Kd.R_alloc | apply Kd.R_drewN | apply Kd.R_drew)); exact HO_9.out⟩, ⟨by repeat (first | (with_reducible first | exact HB.out | apply bA | apply bN | apply b1) | exact HB.out)⟩⟩
            ·rw [if_neg c40] at H
             have c40b0 : decide (100 < (wrap64 ((t216.length : Int) + a2))) = false := dF c40
             clear c40
             (first | rw [c40b0] | (simp only [i64_w, i32_w]; rw [c40b0]) | skip)
             have H' := Aside0.mk H
             clear H
             obtain ⟨Ao42, co42, eo42⟩ := Kd.R_slice HO_9.out
             subst eo42
             go_wp2
             go_meet
             case rel => exact ⟨_, (decide ((wrap64 (x14_3 + a2)) > 1000000)), (by first | rfl | (simp; done) | (simp [*]; done)), H', ⟨by have := HJ3.out; have := HJ22.out; have := HK3.out; first | omega | exact Nat.le_refl _⟩, ⟨by (with_reducible repeat (first | apply Kd.R_alloc | apply Kd.R_drewN | apply Kd.R_drew)); exact HO_9.out⟩, ⟨by repeat (first | (with_reducible first | exact HB.out | apply bA | apply bN | apply b1) | exact HB.out)⟩⟩
           case rest =>
            clear HC39
            try clear c1
            try clear p2
            try clear q2
            try clear hx2
            try clear c3
            try clear c4
            try clear c6
            try clear p6
            try clear c8
            try clear c12
            try clear c13
            try clear c15
            try clear c15b0
            try clear c15b1
            try clear c15b2
            try clear c19
            try clear p22
            try clear q22
            try clear hx22
            try clear c31
            try clear c31b0
            try clear c31b1
            try clear c32
            try clear c33
            try clear c33b0
            try clear c34
            try clear c34b0
            try clear c35
            try clear c35b0
            try clear c40
            try clear c40b0
            try clear hcz38_0
            try clear hcz38_1
            try clear hcz38_2
            try clear hcz38_3
            try clear hfz38_0
            try clear hfz38_1
            try clear hfz38_2
            try clear hfz38_3
            try clear hx225_0
            try clear hx225_1
            try clear hx225_2
            try clear hx225_3
            try clear p2
            try clear p225
            try clear q225
            obtain ⟨kq, x84_38, rfl, HA, HJ38, HO_9, HB⟩ := hcut
            cases kq with
            | zero => exact absurd HA.out (by simp [setoff_Plan.j3])
            | succ kj38 =>
             have H := HA.out
             clear HA
             simp only [setoff_Plan.j3] at H
             by_cases c43 : x84_38 = true
             ·subst c43
              have H1 : (some (([] : List (S39)), 2)) = some (r1, r2) := by rw [if_pos rfl] at H; exact H
              clear H
              have H := H1
              clear H1
              simp only [Option.some.injEq, Prod.mk.injEq] at H
              obtain ⟨rfl, rfl⟩ := H
              go_wp2
              go_ret2
              exact ⟨_, by first | rfl | (simp [errW_none, errW_some] <;> rfl) | (simp [*, errW_none, errW_some] <;> rfl), by first | exact Kd.R_nil _ _ _ _ _ | exact Kd.N_nil _ _ _ _ _ | exact Kd.V_nil _ _ _ _ _ | exact Kd.Q_nil _ _ _ _ _ | exact Kd.S_nil _ _ _ _ _, by repeat (first | (with_reducible first | exact HB.out | apply bA | apply bN | apply b1) | exact HB.out)⟩
             ·replace c43 := Bool.eq_false_iff.mpr c43
              subst c43
              have H1 : ((slices_Repeat_int_int.f (([1] : List Int)) a2).bind fun t230 => ((money_Split.f t221 t230).bind fun bt233 => (setoff_Plan.l1 kj38 a1 t216 x14_3 bt233.1 (bt233.1.length : Int) 0))) = some (r1, r2) := by rw [if_neg (show ¬ (false = true) by decide)] at H; exact H
              clear H
              have H := H1
              clear H1
              obtain ⟨y227, hy227⟩ : ∃ y_ : List Int, y_ = (([1] : List Int)) := ⟨_, rfl⟩
              replace H : ((slices_Repeat_int_int.f y227 a2).bind fun t230 => ((money_Split.f t221 t230).bind fun bt233 => (setoff_Plan.l1 kj38 a1 t216 x14_3 bt233.1 (bt233.1.length : Int) 0))) = some (r1, r2) := by first | (rw [hy227]; with_reducible exact H) | (have H2_ := (Option.bind_some _ _).symm.trans H; rw [hy227]; with_reducible exact H2_) | (have H2_ := (Option.bind_some _ _).symm.trans H; with_reducible exact H2_) | with_reducible exact H | (rw [hy227]; exact H) | exact H
              have Ny227 := Aside0.mk hy227
              clear hy227
              replace H := Option.bind_eq_some_iff.mp H
              obtain ⟨t230, A440, H⟩ := H
              replace H : ((money_Split.f t221 t230).bind fun bt233 => (setoff_Plan.l1 kj38 a1 t216 x14_3 bt233.1 (bt233.1.length : Int) 0)) = some (r1, r2) := H
              have A44 := Aside0.mk A440
              clear A440
              replace H := Option.bind_eq_some_iff.mp H
              obtain ⟨⟨t233, t234⟩, A450, H⟩ := H
              replace H : (setoff_Plan.l1 kj38 a1 t216 x14_3 t233 (t233.length : Int) 0) = some (r1, r2) := H
              have A45 := Aside0.mk A450
              clear A450
              have H' := Aside0.mk H
              clear H
              go_wp2_with (first | ((with_reducible refine gate_dst (N := 87) rfl ?_); refine Kd.R_lit (Kd.int .i64) _ 3 ?hg (N := 87) ?hd (xs := ([1] : List Int)) (inner := [.int .i64 1]) (ok := fun _ => True) (okp := fun _ => True) ?hr ?hp (fun _ hk => hk) trivial (Below.refl _ _) (Nat.le_refl _) (by simp) ?_; (case hd => rfl); (case hg => rfl); (case hr => first | (go_simp; done) | (go_simp; rfl)); (case hp => exact (Reps.one (show Kd.M (Kd.int .i64) _ _ _ 1 [.int .i64 1] from rfl) (Reps.none _ _))); intro v228 w46 ho47 hb hg_ hnew_; clear hg_ hnew_; (first | rw [← Ny227.out] at ho47 | (simp only [Int.reduceToNat] at ho47; rw [← Ny227.out] at ho47)); have n0_ := Aside0.mk (Kd.R_below (by (with_reducible repeat (first | apply Kd.R_alloc | apply Kd.R_drewN | apply Kd.R_drew)); exact HO_9.out) hb); have n1_ := Aside0.mk (Kd.R_lower ho47 (bZ (by repeat (first | (with_reducible first | exact HB.out | apply bA | apply bN | apply b1) | exact HB.out)))); have n2_ := Aside0.mk (bT (by repeat (first | (with_reducible first | exact HB.out | apply bA | apply bN | apply b1) | exact HB.out)) hb); clear HO_9; clear HB; have HO_9 := n0_; have HO229 := n1_; have HB := n2_; clear n0_ n1_ n2_; clear hb ho47; obtain ⟨Ao48, co48, eo48⟩ := Kd.R_slice HO229.out; subst eo48) | ((with_reducible refine gate_callee (f := 49) rfl ?_); refine goesL_ (some 89) rfl rfl Tryz.func49 (by kernel_rfl) rfl #[.slice Ao48 y227.length co48, .int .i64 a2] rfl (by (try simp only [List.map_toArray, List.map_cons, List.map_nil]); first | done | rfl | (simp only [List.length_drop, List.length_take]; rfl)) ?_; (with_reducible refine (slices_Repeat_int_int.calls _ _ y227 a2 t230 _ ?side1 ?side2 A44.out).mono ?_); (case side1 => repeat (first | exact (Kd.R_reads' HO229.out).2.2 | (with_reducible refine Kd.C_alloc ?_ _) | (with_reducible refine Kd.C_drewN ?_ _) | (with_reducible refine Kd.C_drew ?_))); (case side2 => exact (Kd.R_reads' HO229.out).2.1); rintro e w49 ⟨v231, rfl, ho0, hb⟩; refine ⟨_, rfl, ?_⟩; have n0_ := Aside0.mk (Kd.R_below (by (with_reducible repeat (first | apply Kd.R_alloc | apply Kd.R_drewN | apply Kd.R_drew)); exact HO_9.out) hb); have n1_ := Aside0.mk (Kd.R_elder' (by (with_reducible repeat (first | apply Kd.R_alloc | apply Kd.R_drewN | apply Kd.R_drew)); exact HO229.out) (Kd.R_base ho0) hb); have n2_ := Aside0.mk (Kd.R_lower (Kd.R_new' ho0 (Kd.R_lt (by (with_reducible repeat (first | apply Kd.R_alloc | apply Kd.R_drewN | apply Kd.R_drew)); exact HO229.out))) (bZ (by repeat (first | (with_reducible first | exact HB.out | apply bA | apply bN | apply b1) | exact HB.out)))); have n3_ := Aside0.mk (bT (by repeat (first | (with_reducible first | exact HB.out | apply bA | apply bN | apply b1) | exact HB.out)) hb); clear HO_9; clear HO229; clear HB; have HO_9 := n0_; have HO229 := n1_; have HO232 := n2_; have HB := n3_; clear n0_ n1_ n2_ n3_; (try clear hb); (try clear hb2); (try clear hk); (try clear hi); (try clear ho0); obtain ⟨Ao50, co50, eo50⟩ := Kd.R_slice HO232.out; subst eo50) | ((with_reducible refine gate_callee (f := 48) rfl ?_); refine goesL_ (some 90) rfl rfl Tryz.func48 (by kernel_rfl) rfl #[.int .i64 t221, .slice Ao50 t230.length co50] rfl (by (try simp only [List.map_toArray, List.map_cons, List.map_nil]); first | done | rfl | (simp only [List.length_drop, List.length_take]; rfl)) ?_; (with_reducible refine (money_Split.calls t221 _ _ t230 t233 t234 _ ?side1 ?side2 A45.out).mono ?_); (case side1 => repeat (first | exact (Kd.R_reads' HO232.out).2.2 | (with_reducible refine Kd.C_alloc ?_ _) | (with_reducible refine Kd.C_drewN ?_ _) | (with_reducible refine Kd.C_drew ?_))); (case side2 => exact (Kd.R_reads' HO232.out).2.1); rintro e w51 ⟨v235, rfl, ho0, hb⟩; refine ⟨_, rfl, ?_⟩; have n0_ := Aside0.mk (Kd.R_below (by (with_reducible repeat (first | apply Kd.R_alloc | apply Kd.R_drewN | apply Kd.R_drew)); exact HO_9.out) hb); have n1_ := Aside0.mk (Kd.R_elder' (by (with_reducible repeat (first | apply Kd.R_alloc | apply Kd.R_drewN | apply Kd.R_drew)); exact HO229.out) (Kd.R_base ho0) hb); have n2_ := Aside0.mk (Kd.R_elder' (by (with_reducible repeat (first | apply Kd.R_alloc | apply Kd.R_drewN | apply Kd.R_drew)); exact HO232.out) (Kd.R_base ho0) hb); have n3_ := Aside0.mk (Kd.R_lower (Kd.R_new' (Kd.R_new' ho0 (Kd.R_lt (by (with_reducible repeat (first | apply Kd.R_alloc | apply Kd.R_drewN | apply Kd.R_drew)); exact HO229.out))) (Kd.R_lt (by (with_reducible repeat (first | apply Kd.R_alloc | apply Kd.R_drewN | apply Kd.R_drew)); exact HO232.out))) (bZ (by repeat (first | (with_reducible first | exact HB.out | apply bA | apply bN | apply b1) | exact HB.out)))); have n4_ := Aside0.mk (bT (by repeat (first | (with_reducible first | exact HB.out | apply bA | apply bN | apply b1) | exact HB.out)) hb); clear HO_9; clear HO229; clear HO232; clear HB; have HO_9 := n0_; have HO229 := n1_; have HO232 := n2_; have HO236 := n3_; have HB := n4_; clear n0_ n1_ n2_ n3_ n4_; (try clear hb); (try clear hb2); (try clear hk); (try clear hi); (try clear ho0); obtain ⟨Ao52, co52, eo52⟩ := Kd.R_slice HO236.out; subst eo52))
              go_loopg [9, 95] kj38 (fun kq v9 v95 w' => ∃ (x9_5 : List (S39)) (x95_5 : Int), v95 = .int .i64 x95_5 ∧ Aside0 (setoff_Plan.l1 kq a1 x9_5 x14_3 t233 (t233.length : Int) x95_5 = some (r1, r2)) ∧ Aside0 (kq ≤ kj38) ∧ Aside0 (Kd.R k39 39 w' w.heap.size (fun _ => True) v9 x9_5) ∧ Aside0 (Kd.R (Kd.int .i64) 3 w' w.heap.size (fun _ => True) (.slice Ao52 t233.length co52) t233) ∧ Aside0 (Below w.heap.size w w'))
              case atStart => exact ⟨(t216), (0), (by first | rfl | (simp; done) | (simp [*]; done)), H', ⟨Nat.le_refl _⟩, ⟨by (with_reducible repeat (first | apply Kd.R_alloc | apply Kd.R_drewN | apply Kd.R_drew)); exact HO_9.out⟩, ⟨by (with_reducible repeat (first | apply Kd.R_alloc | apply Kd.R_drewN | apply Kd.R_drew)); exact Kd.R_mono HO236.out (fun _ hk => trivial)⟩, ⟨by repeat (first | (with_reducible first | exact HB.out | apply bA | apply bN | apply b1) | exact HB.out)⟩⟩
              case round =>
               clear H'
               try clear c1
               try clear p2
               try clear q2
               try clear hx2
               try clear c3
               try clear c4
               try clear c6
               try clear p6
               try clear c8
               try clear c12
               try clear c13
               try clear c15
               try clear c15b0
               try clear c15b1
               try clear c15b2
               try clear c19
               try clear p22
               try clear q22
               try clear hx22
               try clear c31
               try clear c31b0
               try clear c31b1
               try clear c32
               try clear c33
               try clear c33b0
               try clear c34
               try clear c34b0
               try clear c35
               try clear c35b0
               try clear c40
               try clear c40b0
               try clear c43
               try clear c47
               try clear c48
               try clear c49
               try clear hcz38_0
               try clear hcz38_1
               try clear hcz38_2
               try clear hcz38_3
               try clear hfz38_0
               try clear hfz38_1
               try clear hfz38_2
               try clear hfz38_3
               try clear hx225_0
               try clear hx225_1
               try clear hx225_2
               try clear hx225_3
               try clear p2
               try clear p22
               try clear p225
               try clear p6
               try clear q2
               try clear q22
               try clear q225
               obtain ⟨x9_5, x95_5, rfl, HA, HK5, HO_9, HO_93, HB⟩ := hrel
               cases gk with
               | zero => exact absurd HA.out (by simp [setoff_Plan.l1])
               | succ k5 =>
                have H := HA.out
                clear HA
                simp only [setoff_Plan.l1] at H
                by_cases c53 : x95_5 < (t233.length : Int)
                ·rw [if_pos c53] at H
                 have c53b0 : decide (x95_5 < (t233.length : Int)) = true := dT c53
                 clear c53
                 by_cases c54 : 0 ≤ x95_5
                 ·rw [if_pos c54] at H
                  have c54b0 : decide (0 ≤ x95_5) = true := dT c54
                  clear c54
                  by_cases c55 : x95_5 < (t233.length : Int)
                  ·rw [if_pos c55] at H
                   have c55b0 : decide (x95_5 < (t233.length : Int)) = true := dT c55
                   clear c55
                   replace H := Option.bind_eq_some_iff.mp H
                   obtain ⟨⟨t238, t239⟩, A560, H⟩ := H
                   replace H : (if x9_5.length < 4398046511104 then (setoff_Plan.l1 k5 a1 (x9_5 ++ [(⟨wrap64 ((wrap64 (x14_3 + x95_5)) + 1), 3, t238, rd t233 x95_5⟩ : S39)]) x14_3 t233 (t233.length : Int) (wrap64 (x95_5 + 1))) else (none)) = some (r1, r2) := H
                   have A56 := Aside0.mk A560
                   clear A560
                   by_cases c57 : x9_5.length < 4398046511104
                   ·rw [if_pos c57] at H
                    have LMc57 := Aside0.mk c57
                    clear c57
                    obtain ⟨y240, hy240⟩ : ∃ y_ : List (S39), y_ = (x9_5 ++ [(⟨wrap64 ((wrap64 (x14_3 + x95_5)) + 1), 3, t238, rd t233 x95_5⟩ : S39)]) := ⟨_, rfl⟩
                    replace H : (setoff_Plan.l1 k5 a1 y240 x14_3 t233 (t233.length : Int) (wrap64 (x95_5 + 1))) = some (r1, r2) := by first | (rw [hy240]; with_reducible exact H) | (have H2_ := (Option.bind_some _ _).symm.trans H; rw [hy240]; with_reducible exact H2_) | (have H2_ := (Option.bind_some _ _).symm.trans H; with_reducible exact H2_) | with_reducible exact H | (rw [hy240]; exact H) | exact H
                    have Ny240 := Aside0.mk hy240
                    clear hy240
                    have H' := Aside0.mk H
                    clear H
                    have p237 : 0 ≤ (x95_5 : Int) := oT (by first | (with_reducible assumption) | assumption)
                    have q237 : x95_5 < (t233.length : Int) := oT (by first | (with_reducible assumption) | assumption)
                    obtain ⟨ad237, e237, hx237_0⟩ := Kd.at_int (Kd.R_reads' HO_93.out).2.2 x95_5 p237 q237
                    cases e237
                    replace p237 := eq_true p237
                    replace q237 := eq_true q237
                    go_wp2_with (first | ((with_reducible refine gate_callee (f := 47) rfl ?_); refine goesL_ (some 104) rfl rfl Tryz.func47 (by kernel_rfl) rfl #[.int .i64 a1, .int .i64 (wrap64 (x95_5 + 1))] rfl (by (try simp only [List.map_toArray, List.map_cons, List.map_nil]); first | done | rfl | (simp only [List.length_drop, List.length_take]; rfl)) ?_; (with_reducible refine (setoff_instalment.calls k5 a1 (wrap64 (x95_5 + 1)) t238 t239 _ ?side1 A56.out).mono ?_); (case side1 => exact GL.below HG.out (by repeat (first | (with_reducible first | exact HB.out | apply bA | apply bN | apply b1) | exact HB.out))); rintro e w58 ⟨rfl, hb⟩; refine ⟨_, rfl, ?_⟩; have n0_ := Aside0.mk (Kd.R_below (by (with_reducible repeat (first | apply Kd.R_alloc | apply Kd.R_drewN | apply Kd.R_drew)); exact HO_9.out) hb); have n1_ := Aside0.mk (Kd.R_below (by (with_reducible repeat (first | apply Kd.R_alloc | apply Kd.R_drewN | apply Kd.R_drew)); exact HO_93.out) hb); have n2_ := Aside0.mk (bT (by repeat (first | (with_reducible first | exact HB.out | apply bA | apply bN | apply b1) | exact HB.out)) hb); clear HO_9; clear HO_93; clear HB; have HO_9 := n0_; have HO_93 := n1_; have HB := n2_; clear n0_ n1_ n2_; (try clear hb); (try clear hb2); (try clear hk); (try clear hi)) | ((with_reducible refine gate_builtin (b := .append) (xs := #[.tmp 107, .tmp 115]) rfl ?_); at_builtin; refine Kd.R_append k39 (w0 := w) w.heap.size rfl (.tmp 107) (.tmp 115) 22 39 (.agg #[(.int .i64 0), (.int .i64 0), (.int .i64 0), (.int .i64 0)]) 32 rfl Tryz.underlying22 info39 rfl (by decide) (by omega) u9 x9_5 (⟨wrap64 ((wrap64 (x14_3 + x95_5)) + 1), 3, t238, rd t233 x95_5⟩ : S39) [.int .i64 (wrap64 ((wrap64 (x14_3 + x95_5)) + 1)), .int .i64 3, .int .i64 t238, .int .i64 (rd t233 x95_5)] (fun _ => True) (fun _ => False) rfl rfl ?aP (fun _ hk => hk.elim) ?aF ?aO ?aB ?aS ?aL ?_; (case aP => exact k39_mkM _ _ _ (⟨wrap64 ((wrap64 (x14_3 + x95_5)) + 1), 3, t238, rd t233 x95_5⟩ : S39)); (case aB => exact (by repeat (first | (with_reducible first | exact HB.out | apply bA | apply bN | apply b1) | exact HB.out))); (case aF => exact (fun _ _ => trivial)); (case aO => exact (by (with_reducible repeat (first | apply Kd.R_alloc | apply Kd.R_drewN | apply Kd.R_drew)); exact HO_9.out)); (case aS => exact (bZ (by repeat (first | (with_reducible first | exact HB.out | apply bA | apply bN | apply b1) | exact HB.out)))); (case aL => have := LMc57.out; omega); intro v241 w59 ho hb hg hat; rw [← Ny240.out] at ho; have n0_ := Aside0.mk (Kd.R_over' (by (with_reducible repeat (first | apply Kd.R_alloc | apply Kd.R_drewN | apply Kd.R_drew)); exact HO_93.out) (Kd.R_typed (by (with_reducible repeat (first | apply Kd.R_alloc | apply Kd.R_drewN | apply Kd.R_drew)); exact HO_9.out)) (by decide) hg); have n1_ := Aside0.mk (hb); have n2_ := Aside0.mk (ho); clear HO_93; clear HB; clear HO_9; have HO_93 := n0_; have HB := n1_; have HO242 := n2_; clear n0_ n1_ n2_; clear ho hb hg hat))
                    go_roundg k5
                    case measure => have := HJ3.out; have := HJ22.out; have := HK3.out; have := HJ38.out; have := HK5.out; omega
                    case rel => exact ⟨(y240), (wrap64 (x95_5 + 1)), (by first | rfl | (simp; done) | (simp [*]; done)), H', ⟨by have := HJ3.out; have := HJ22.out; have := HK3.out; have := HJ38.out; have := HK5.out; omega⟩, ⟨by (with_reducible repeat (first | apply Kd.R_alloc | apply Kd.R_drewN | apply Kd.R_drew)); exact HO242.out⟩, ⟨by (with_reducible repeat (first | apply Kd.R_alloc | apply Kd.R_drewN | apply Kd.R_drew)); exact HO_93.out⟩, ⟨by repeat (first | (with_reducible first | exact HB.out | apply bA | apply bN | apply b1) | exact HB.out)⟩⟩
                   ·rw [if_neg c57] at H
                    exact absurd H (by simp)
                  ·rw [if_neg c55] at H
                   exact absurd H (by simp)
                 ·rw [if_neg c54] at H
                  exact absurd H (by simp)
                ·rw [if_neg c53] at H
                 have c53b0 : decide (x95_5 < (t233.length : Int)) = false := dF c53
                 clear c53
                 simp only [Option.some.injEq, Prod.mk.injEq] at H
                 obtain ⟨rfl, rfl⟩ := H
                 go_wp2
                 go_ret2
                 exact ⟨_, by first | rfl | (simp [errW_none, errW_some] <;> rfl) | (simp [*, errW_none, errW_some] <;> rfl), by (with_reducible repeat (first | apply Kd.R_alloc | apply Kd.R_drewN | apply Kd.R_drew)); exact HO_9.out, by repeat (first | (with_reducible first | exact HB.out | apply bA | apply bN | apply b1) | exact HB.out)⟩

/-! ### cohousinglaw34_debts: function 26 -/
def cohousinglaw34_debts.f  : Option ((List (S39))) := some (([(⟨1, 3, 10, 500⟩ : S39), (⟨2, 1, 20, 50⟩ : S39), (⟨3, 4, 5, 30⟩ : S39)] : List (S39)))
set_option maxHeartbeats 8000000 in
set_option maxRecDepth 100000 in
theorem cohousinglaw34_debts.calls  (r : List (S39)) (w : World) (h : cohousinglaw34_debts.f  = some r) :
    Calls Tryz.prog 26 #[] w fun e w' => ∃ v0_ : Value, e = .returned (v0_) ∧ Kd.R k39 39 w' w.heap.size (fun _ => True) v0_ r ∧ Below w.heap.size w w' := by
  have hu39 := Tryz.underlying39
  have HB := Aside0.mk (Below.refl w.heap.size w)
  have H : (some (([(⟨1, 3, 10, 500⟩ : S39), (⟨2, 1, 20, 50⟩ : S39), (⟨3, 4, 5, 30⟩ : S39)] : List (S39)))) = some r := h
  clear h
  obtain ⟨y243, hy243⟩ : ∃ y_ : List (S39), y_ = (([(⟨1, 3, 10, 500⟩ : S39), (⟨2, 1, 20, 50⟩ : S39), (⟨3, 4, 5, 30⟩ : S39)] : List (S39))) := ⟨_, rfl⟩
  replace H : (some y243) = some r := by first | (rw [hy243]; with_reducible exact H) | (have H2_ := (Option.bind_some _ _).symm.trans H; rw [hy243]; with_reducible exact H2_) | (have H2_ := (Option.bind_some _ _).symm.trans H; with_reducible exact H2_) | with_reducible exact H | (rw [hy243]; exact H) | exact H
  have Ny243 := Aside0.mk hy243
  clear hy243
  obtain rfl := Option.some.inj H
  go_enter Tryz.func26, Tryz.ntmps26
  go_wp2_with (first | ((with_reducible refine gate_dst (N := 4) rfl ?_); refine Kd.R_lit k39 _ 39 ?hg (N := 4) ?hd (xs := ([(⟨1, 3, 10, 500⟩ : S39), (⟨2, 1, 20, 50⟩ : S39), (⟨3, 4, 5, 30⟩ : S39)] : List (S39))) (inner := [.int .i64 1, .int .i64 3, .int .i64 10, .int .i64 500, .int .i64 2, .int .i64 1, .int .i64 20, .int .i64 50, .int .i64 3, .int .i64 4, .int .i64 5, .int .i64 30]) (ok := fun _ => True) (okp := fun _ => True) ?hr ?hp (fun _ hk => hk) trivial (Below.refl _ _) (Nat.le_refl _) (by simp) ?_; (case hd => rfl); (case hg => rfl); (case hr => first | (go_simp; done) | (go_simp; rfl)); (case hp => exact (Reps.c4 (show Kd.M k39 _ _ _ (⟨1, 3, 10, 500⟩ : S39) [.int .i64 1, .int .i64 3, .int .i64 10, .int .i64 500] from (k39_mkM _ _ _ (⟨1, 3, 10, 500⟩ : S39) )) (Reps.c4 (show Kd.M k39 _ _ _ (⟨2, 1, 20, 50⟩ : S39) [.int .i64 2, .int .i64 1, .int .i64 20, .int .i64 50] from (k39_mkM _ _ _ (⟨2, 1, 20, 50⟩ : S39) )) (Reps.c4 (show Kd.M k39 _ _ _ (⟨3, 4, 5, 30⟩ : S39) [.int .i64 3, .int .i64 4, .int .i64 5, .int .i64 30] from (k39_mkM _ _ _ (⟨3, 4, 5, 30⟩ : S39) )) (Reps.none _ _))))); intro v244 w1 ho2 hb hg_ hnew_; clear hg_ hnew_; (first | rw [← Ny243.out] at ho2 | (simp only [Int.reduceToNat] at ho2; rw [← Ny243.out] at ho2)); have n0_ := Aside0.mk (Kd.R_lower ho2 (below_size (by repeat (first | (with_reducible first | exact HB.out | apply below_alloc | apply pw_below_drewN | apply below_drew1) | exact HB.out)))); have n1_ := Aside0.mk (below_step (by repeat (first | (with_reducible first | exact HB.out | apply below_alloc | apply pw_below_drewN | apply below_drew1) | exact HB.out)) hb); clear HB; have HO245 := n0_; have HB := n1_; clear n0_ n1_; clear hb ho2))
  go_ret
  exact ⟨_, by first | rfl | (simp [errW_none, errW_some] <;> rfl) | (simp [*, errW_none, errW_some] <;> rfl), by (with_reducible repeat (first | apply Kd.R_alloc | apply Kd.R_drewN | apply Kd.R_drew)); exact HO245.out, by repeat (first | (with_reducible first | exact HB.out | apply below_alloc | apply pw_below_drewN | apply below_drew1) | exact HB.out)⟩

/-! ### cohousinglaw34_head: function 9 -/
-- by hand: cohousing/cohousinglaw34.head
section
def hdD : List S39 := [(⟨1, 3, 10, 500⟩ : S39), (⟨2, 1, 20, 50⟩ : S39), (⟨3, 4, 5, 30⟩ : S39)]
def hdL : List S39 := [(⟨1, 3, 10, 450⟩ : S39), (⟨2, 1, 20, 0⟩ : S39), (⟨3, 4, 5, 30⟩ : S39)]
def hdP : List S39 := [(⟨2, 1, 20, 50⟩ : S39), (⟨3, 4, 5, 30⟩ : S39), (⟨4, 3, 69, 167⟩ : S39), (⟨5, 3, 100, 167⟩ : S39), (⟨6, 3, 130, 166⟩ : S39)]
theorem hdD_len : hdD.length = 3 := rfl
theorem hdL_len : hdL.length = 3 := rfl
theorem hdP_len : hdP.length = 5 := rfl
instance dec39 : DecidableEq S39 := fun a b => if h : a.f0 = b.f0 ∧ a.f1 = b.f1 ∧ a.f2 = b.f2 ∧ a.f3 = b.f3 then isTrue (by cases a; cases b; simp_all) else isFalse (by rintro rfl; exact h ⟨rfl, rfl, rfl, rfl⟩)
/-- The example's answers. -/
def cohousinglaw34_head.f (k : Nat) : Option Bool := if setoff_Pay.f hdD 100 = some (hdL, 0, 0) ∧ setoff_Arrears.f k hdD 11 = some (530, 0) ∧ setoff_Interest.f k hdD 1000 100 465 [] = some (50, 0) ∧ setoff_Plan.f k hdD 40 3 = some (hdP, 0) ∧ setoff_Plan.f k hdD 10 3 = some ([], 4) ∧ setoff_Pay.f hdD (-1) = some ([], 0, 1) then some true else none
theorem row_at {w : World} {ad : Addr} {xs : List S39} {n : Nat} (h : Kd.C k39 w (some ad) n xs) (i : Nat) (hi : i < n) (x : S39) (hx : xs.getD i z39 = x) :
    w.cell? (ad.add (i * 4)) = some (.int .i64 x.f0) ∧ w.cell? ⟨(ad.add (i * 4)).block, (ad.add (i * 4)).off + 1, none⟩ = some (.int .i64 x.f1) ∧ w.cell? ⟨(ad.add (i * 4)).block, (ad.add (i * 4)).off + 2, none⟩ = some (.int .i64 x.f2) ∧ w.cell? ⟨(ad.add (i * 4)).block, (ad.add (i * 4)).off + 3, none⟩ = some (.int .i64 x.f3) := by
  obtain ⟨a, e, h0, h1, h2, h3⟩ := at_T39 h (i : Int) (by omega) (by omega)
  cases e
  simp only [Int.toNat_natCast] at h0 h1 h2 h3
  have e1 : rd_T39 xs (i : Int) = x := by rw [← hx]; simp [rd_T39]
  rw [e1] at h0 h1 h2 h3
  exact ⟨h0, h1, h2, h3⟩
theorem hd_debts (w : World) : Calls Tryz.prog 26 #[] w fun e w' => ∃ A b, e = .returned (.slice A 3 b) ∧ 3 ≤ b ∧ Kd.C k39 w' A 3 hdD ∧ Below w.heap.size w w' :=
  (cohousinglaw34_debts.calls hdD w rfl).mono (by
    rintro e w1 ⟨v, he, ho, hb⟩
    obtain ⟨Ad, bd, hv, hl, hq⟩ := Kd.R_reads ho
    exact ⟨Ad, bd, by rw [he, hv]; rfl, hl, hq, hb⟩)
theorem hd_pay (A : Option Addr) (b : Nat) (w : World) (h : Kd.C k39 w A 3 hdD) (hb : 3 ≤ b) (H : setoff_Pay.f hdD 100 = some (hdL, 0, 0)) :
    Calls Tryz.prog 10 #[.slice A 3 b, .int .i64 100] w fun e w' => ∃ A' b', e = .returned (.tuple #[.slice A' 3 b', .int .i64 0, .int .i64 0]) ∧ Kd.C k39 w' A' 3 hdL ∧ Below w.heap.size w w' :=
  (setoff_Pay.calls A b hdD 100 hdL 0 0 w h hb H).mono (by
    rintro e w1 ⟨v, he, ho, hb⟩
    obtain ⟨Ad, bd, hv, hl, hq⟩ := Kd.R_reads ho
    exact ⟨Ad, bd, by rw [he, hv]; rfl, hq, hb⟩)
theorem hd_pay1 (A : Option Addr) (b : Nat) (w : World) (h : Kd.C k39 w A 3 hdD) (hb : 3 ≤ b) (H : setoff_Pay.f hdD (-1) = some ([], 0, 1)) :
    Calls Tryz.prog 10 #[.slice A 3 b, .int .i64 (-1)] w fun e w' => ∃ A' b', e = .returned (.tuple #[.slice A' 0 b', .int .i64 0, .int .i64 1]) ∧ Below w.heap.size w w' :=
  (setoff_Pay.calls A b hdD (-1) [] 0 1 w h hb H).mono (by
    rintro e w1 ⟨v, he, ho, hb⟩
    obtain ⟨Ad, bd, hv, hl, hq⟩ := Kd.R_reads ho
    exact ⟨Ad, bd, by rw [he, hv]; rfl, hb⟩)
theorem hd_arr (k : Nat) (A : Option Addr) (b : Nat) (w : World) (h : Kd.C k39 w A 3 hdD) (hb : 3 ≤ b) (H : setoff_Arrears.f k hdD 11 = some (530, 0)) :
    Calls Tryz.prog 15 #[.slice A 3 b, .int .i64 11] w fun e w' => e = .returned (.tuple #[.int .i64 530, .int .i64 0]) ∧ Below w.heap.size w w' :=
  setoff_Arrears.calls k A b hdD 11 530 0 w h hb H
theorem hd_int (k : Nat) (A : Option Addr) (b : Nat) (w : World) (h : Kd.C k39 w A 3 hdD) (hb : 3 ≤ b) (H : setoff_Interest.f k hdD 1000 100 465 [] = some (50, 0)) :
    Calls Tryz.prog 17 #[.slice A 3 b, .int .i64 1000, .agg #[.int .i64 100, .int .i64 465], .slice none 0 0] w fun e w' => e = .returned (.tuple #[.int .i64 50, .int .i64 0]) ∧ Below w.heap.size w w' :=
  setoff_Interest.calls k A b hdD 1000 100 465 none 0 [] 50 0 w h hb (Kd.C_nil _ _) (Nat.le_refl _) H
theorem hd_plan (k : Nat) (A : Option Addr) (b : Nat) (w : World) (h : Kd.C k39 w A 3 hdD) (hb : 3 ≤ b) (hG : GL w) (H : setoff_Plan.f k hdD 40 3 = some (hdP, 0)) :
    Calls Tryz.prog 19 #[.slice A 3 b, .int .i64 40, .int .i64 3] w fun e w' => ∃ A' b', e = .returned (.tuple #[.slice A' 5 b', .int .i64 0]) ∧ Kd.C k39 w' A' 5 hdP ∧ Below w.heap.size w w' :=
  (setoff_Plan.calls k A b hdD 40 3 hdP 0 w h hb hG H).mono (by
    rintro e w1 ⟨v, he, ho, hb⟩
    obtain ⟨Ad, bd, hv, hl, hq⟩ := Kd.R_reads ho
    exact ⟨Ad, bd, by rw [he, hv]; rfl, hq, hb⟩)
theorem hd_plan1 (k : Nat) (A : Option Addr) (b : Nat) (w : World) (h : Kd.C k39 w A 3 hdD) (hb : 3 ≤ b) (hG : GL w) (H : setoff_Plan.f k hdD 10 3 = some ([], 4)) :
    Calls Tryz.prog 19 #[.slice A 3 b, .int .i64 10, .int .i64 3] w fun e w' => ∃ A' b', e = .returned (.tuple #[.slice A' 0 b', .int .i64 4]) ∧ Below w.heap.size w w' :=
  (setoff_Plan.calls k A b hdD 10 3 [] 4 w h hb hG H).mono (by
    rintro e w1 ⟨v, he, ho, hb⟩
    obtain ⟨Ad, bd, hv, hl, hq⟩ := Kd.R_reads ho
    exact ⟨Ad, bd, by rw [he, hv]; rfl, hb⟩)
theorem hd_none {w : World} {n : Nat} {xs : List S39} (h : Kd.C k39 w none (n + 1) xs) : False := by
  obtain ⟨_, e, _⟩ := at_T39 h 0 (by omega) (by omega)
  cases e
theorem hd_some {w : World} {A : Option Addr} {n : Nat} {xs : List S39} (h : Kd.C k39 w A (n + 1) xs) : ∃ a, A = some a := by
  obtain ⟨a, e, _⟩ := at_T39 h 0 (by omega) (by omega)
  exact ⟨a, e⟩
theorem hdL_rows {w : World} {al : Addr} (h : Kd.C k39 w (some al) 3 hdL) : w.cell? (⟨al.block, al.off + 3, none⟩) = some (.int .i64 450) ∧ w.cell? (⟨al.block, al.off + 4 + 3, none⟩) = some (.int .i64 0) ∧ w.cell? (⟨al.block, al.off + 8 + 3, none⟩) = some (.int .i64 30) := by
  obtain ⟨q00, q01, q02, q03⟩ := row_at h 0 (by decide) ⟨1, 3, 10, 450⟩ rfl
  obtain ⟨q10, q11, q12, q13⟩ := row_at h 1 (by decide) ⟨2, 1, 20, 0⟩ rfl
  obtain ⟨q20, q21, q22, q23⟩ := row_at h 2 (by decide) ⟨3, 4, 5, 30⟩ rfl
  exact ⟨q03, by simpa only [Addr.add_succ'] using q13, by simpa only [Addr.add_succ'] using q23⟩
theorem hdP_rows {w : World} {ap : Addr} (h : Kd.C k39 w (some ap) 5 hdP) : w.cell? (ap) = some (.int .i64 2) ∧ w.cell? (⟨ap.block, ap.off + 1, none⟩) = some (.int .i64 1) ∧ w.cell? (⟨ap.block, ap.off + 2, none⟩) = some (.int .i64 20) ∧ w.cell? (⟨ap.block, ap.off + 3, none⟩) = some (.int .i64 50) ∧ w.cell? (⟨ap.block, ap.off + 4, none⟩) = some (.int .i64 3) ∧ w.cell? (⟨ap.block, ap.off + 4 + 1, none⟩) = some (.int .i64 4) ∧ w.cell? (⟨ap.block, ap.off + 4 + 2, none⟩) = some (.int .i64 5) ∧ w.cell? (⟨ap.block, ap.off + 4 + 3, none⟩) = some (.int .i64 30) ∧ w.cell? (⟨ap.block, ap.off + 8, none⟩) = some (.int .i64 4) ∧ w.cell? (⟨ap.block, ap.off + 8 + 1, none⟩) = some (.int .i64 3) ∧ w.cell? (⟨ap.block, ap.off + 8 + 2, none⟩) = some (.int .i64 69) ∧ w.cell? (⟨ap.block, ap.off + 8 + 3, none⟩) = some (.int .i64 167) ∧ w.cell? (⟨ap.block, ap.off + 12, none⟩) = some (.int .i64 5) ∧ w.cell? (⟨ap.block, ap.off + 12 + 1, none⟩) = some (.int .i64 3) ∧ w.cell? (⟨ap.block, ap.off + 12 + 2, none⟩) = some (.int .i64 100) ∧ w.cell? (⟨ap.block, ap.off + 12 + 3, none⟩) = some (.int .i64 167) ∧ w.cell? (⟨ap.block, ap.off + 16, none⟩) = some (.int .i64 6) ∧ w.cell? (⟨ap.block, ap.off + 16 + 1, none⟩) = some (.int .i64 3) ∧ w.cell? (⟨ap.block, ap.off + 16 + 2, none⟩) = some (.int .i64 130) ∧ w.cell? (⟨ap.block, ap.off + 16 + 3, none⟩) = some (.int .i64 166) := by
  obtain ⟨q00, q01, q02, q03⟩ := row_at h 0 (by decide) ⟨2, 1, 20, 50⟩ rfl
  obtain ⟨q10, q11, q12, q13⟩ := row_at h 1 (by decide) ⟨3, 4, 5, 30⟩ rfl
  obtain ⟨q20, q21, q22, q23⟩ := row_at h 2 (by decide) ⟨4, 3, 69, 167⟩ rfl
  obtain ⟨q30, q31, q32, q33⟩ := row_at h 3 (by decide) ⟨5, 3, 100, 167⟩ rfl
  obtain ⟨q40, q41, q42, q43⟩ := row_at h 4 (by decide) ⟨6, 3, 130, 166⟩ rfl
  exact ⟨q00, q01, q02, q03, by simpa only [Addr.add_succ'] using q10, by simpa only [Addr.add_succ'] using q11, by simpa only [Addr.add_succ'] using q12, by simpa only [Addr.add_succ'] using q13, by simpa only [Addr.add_succ'] using q20, by simpa only [Addr.add_succ'] using q21, by simpa only [Addr.add_succ'] using q22, by simpa only [Addr.add_succ'] using q23, by simpa only [Addr.add_succ'] using q30, by simpa only [Addr.add_succ'] using q31, by simpa only [Addr.add_succ'] using q32, by simpa only [Addr.add_succ'] using q33, by simpa only [Addr.add_succ'] using q40, by simpa only [Addr.add_succ'] using q41, by simpa only [Addr.add_succ'] using q42, by simpa only [Addr.add_succ'] using q43⟩
theorem hdD_rows {w : World} {ad : Addr} (h : Kd.C k39 w (some ad) 3 hdD) : w.cell? (⟨ad.block, ad.off + 4, none⟩) = some (.int .i64 2) ∧ w.cell? (⟨ad.block, ad.off + 4 + 1, none⟩) = some (.int .i64 1) ∧ w.cell? (⟨ad.block, ad.off + 4 + 2, none⟩) = some (.int .i64 20) ∧ w.cell? (⟨ad.block, ad.off + 4 + 3, none⟩) = some (.int .i64 50) ∧ w.cell? (⟨ad.block, ad.off + 8, none⟩) = some (.int .i64 3) ∧ w.cell? (⟨ad.block, ad.off + 8 + 1, none⟩) = some (.int .i64 4) ∧ w.cell? (⟨ad.block, ad.off + 8 + 2, none⟩) = some (.int .i64 5) ∧ w.cell? (⟨ad.block, ad.off + 8 + 3, none⟩) = some (.int .i64 30) := by
  obtain ⟨q00, q01, q02, q03⟩ := row_at h 0 (by decide) ⟨1, 3, 10, 500⟩ rfl
  obtain ⟨q10, q11, q12, q13⟩ := row_at h 1 (by decide) ⟨2, 1, 20, 50⟩ rfl
  obtain ⟨q20, q21, q22, q23⟩ := row_at h 2 (by decide) ⟨3, 4, 5, 30⟩ rfl
  exact ⟨by simpa only [Addr.add_succ'] using q10, by simpa only [Addr.add_succ'] using q11, by simpa only [Addr.add_succ'] using q12, by simpa only [Addr.add_succ'] using q13, by simpa only [Addr.add_succ'] using q20, by simpa only [Addr.add_succ'] using q21, by simpa only [Addr.add_succ'] using q22, by simpa only [Addr.add_succ'] using q23⟩
set_option maxHeartbeats 16000000 in
set_option maxRecDepth 100000 in
theorem head_walk (k : Nat) (w : World) (hG : GL w) (h1 : setoff_Pay.f hdD 100 = some (hdL, 0, 0)) (h2 : setoff_Arrears.f k hdD 11 = some (530, 0)) (h3 : setoff_Interest.f k hdD 1000 100 465 [] = some (50, 0)) (h4 : setoff_Plan.f k hdD 40 3 = some (hdP, 0)) (h5 : setoff_Plan.f k hdD 10 3 = some ([], 4)) (h6 : setoff_Pay.f hdD (-1) = some ([], 0, 1)) :
    Calls Tryz.prog 9 #[] w fun e w' => e = .returned (.bool true) ∧ Below w.heap.size w w' := by
  have H1 := Aside0.mk h1
  have H2 := Aside0.mk h2
  have H3 := Aside0.mk h3
  have H4 := Aside0.mk h4
  have H5 := Aside0.mk h5
  have H6 := Aside0.mk h6
  have HG := Aside0.mk hG
  clear h1 h2 h3 h4 h5 h6 hG
  have HB := Aside0.mk (Below.refl w.heap.size w)
  go_enter Tryz.func9, Tryz.ntmps9
  go_upto_region 2 with (first
    | (go_at_call 26; with_reducible refine (hd_debts _).mono ?_; rintro e w1 ⟨Ad, bd, rfl, hl, hq, hb⟩; have Ld := Aside0.mk hl; have Rd := Aside0.mk hq; clear hl hq; have hb2 : Below w.heap.size w w1 := below_step (by with_reducible repeat first | exact HB.out | apply below_alloc | apply pw_below_drewN | apply below_drew1) hb; have hg2 := Aside0.mk (GL.below HG.out hb2); clear HB; have HB := Aside0.mk hb2; clear hb2; clear hb hg2)
    | (go_at_call 10; with_reducible refine (hd_pay _ _ _ (by with_reducible repeat first | exact Rd.out | refine Kd.C_alloc ?_ _ | refine Kd.C_drewN ?_ _ | refine Kd.C_drew ?_) Ld.out H1.out).mono ?_; rintro e w1 ⟨Al, cl, rfl, hq, hb⟩; have Rl := Aside0.mk hq; clear hq; have hb2 : Below w.heap.size w w1 := below_step (by with_reducible repeat first | exact HB.out | apply below_alloc | apply pw_below_drewN | apply below_drew1) hb; have hg2 := Aside0.mk (GL.below HG.out hb2); clear HB; have HB := Aside0.mk hb2; clear hb2; clear hb hg2))
  clear Rd Ld
  go_upto_region 3 with (first
    | (go_at_call 26; with_reducible refine (hd_debts _).mono ?_; rintro e w1 ⟨Ad, bd, rfl, hl, hq, hb⟩; have Ld := Aside0.mk hl; have Rd := Aside0.mk hq; clear hl hq; have ql : Kd.C k39 w1 Al 3 hdL := Kd.C_below (by with_reducible repeat first | exact Rl.out | refine Kd.C_alloc ?_ _ | refine Kd.C_drewN ?_ _ | refine Kd.C_drew ?_) hb; clear Rl; have Rl := Aside0.mk ql; clear ql; have hb2 : Below w.heap.size w w1 := below_step (by with_reducible repeat first | exact HB.out | apply below_alloc | apply pw_below_drewN | apply below_drew1) hb; have hg2 := Aside0.mk (GL.below HG.out hb2); clear HB; have HB := Aside0.mk hb2; clear hb2; clear hb hg2)
    | (go_at_call 15; with_reducible refine (hd_arr k _ _ _ (by with_reducible repeat first | exact Rd.out | refine Kd.C_alloc ?_ _ | refine Kd.C_drewN ?_ _ | refine Kd.C_drew ?_) Ld.out H2.out).mono ?_; rintro e w1 ⟨rfl, hb⟩; have ql : Kd.C k39 w1 Al 3 hdL := Kd.C_below (by with_reducible repeat first | exact Rl.out | refine Kd.C_alloc ?_ _ | refine Kd.C_drewN ?_ _ | refine Kd.C_drew ?_) hb; clear Rl; have Rl := Aside0.mk ql; clear ql; have hb2 : Below w.heap.size w w1 := below_step (by with_reducible repeat first | exact HB.out | apply below_alloc | apply pw_below_drewN | apply below_drew1) hb; have hg2 := Aside0.mk (GL.below HG.out hb2); clear HB; have HB := Aside0.mk hb2; clear hb2; clear hb hg2))
  clear Rd Ld
  go_upto_region 4 with (first
    | (go_at_call 26; with_reducible refine (hd_debts _).mono ?_; rintro e w1 ⟨Ad, bd, rfl, hl, hq, hb⟩; have Ld := Aside0.mk hl; have Rd := Aside0.mk hq; clear hl hq; have ql : Kd.C k39 w1 Al 3 hdL := Kd.C_below (by with_reducible repeat first | exact Rl.out | refine Kd.C_alloc ?_ _ | refine Kd.C_drewN ?_ _ | refine Kd.C_drew ?_) hb; clear Rl; have Rl := Aside0.mk ql; clear ql; have hb2 : Below w.heap.size w w1 := below_step (by with_reducible repeat first | exact HB.out | apply below_alloc | apply pw_below_drewN | apply below_drew1) hb; have hg2 := Aside0.mk (GL.below HG.out hb2); clear HB; have HB := Aside0.mk hb2; clear hb2; clear hb hg2)
    | (go_at_call 17; with_reducible refine (hd_int k _ _ _ (by with_reducible repeat first | exact Rd.out | refine Kd.C_alloc ?_ _ | refine Kd.C_drewN ?_ _ | refine Kd.C_drew ?_) Ld.out H3.out).mono ?_; rintro e w1 ⟨rfl, hb⟩; have ql : Kd.C k39 w1 Al 3 hdL := Kd.C_below (by with_reducible repeat first | exact Rl.out | refine Kd.C_alloc ?_ _ | refine Kd.C_drewN ?_ _ | refine Kd.C_drew ?_) hb; clear Rl; have Rl := Aside0.mk ql; clear ql; have hb2 : Below w.heap.size w w1 := below_step (by with_reducible repeat first | exact HB.out | apply below_alloc | apply pw_below_drewN | apply below_drew1) hb; have hg2 := Aside0.mk (GL.below HG.out hb2); clear HB; have HB := Aside0.mk hb2; clear hb2; clear hb hg2))
  clear Rd Ld
  go_upto_region 5 with (first
    | (go_at_call 26; with_reducible refine (hd_debts _).mono ?_; rintro e w1 ⟨Ad, bd, rfl, hl, hq, hb⟩; have Ld := Aside0.mk hl; have Rd := Aside0.mk hq; clear hl hq; have ql : Kd.C k39 w1 Al 3 hdL := Kd.C_below (by with_reducible repeat first | exact Rl.out | refine Kd.C_alloc ?_ _ | refine Kd.C_drewN ?_ _ | refine Kd.C_drew ?_) hb; clear Rl; have Rl := Aside0.mk ql; clear ql; have hb2 : Below w.heap.size w w1 := below_step (by with_reducible repeat first | exact HB.out | apply below_alloc | apply pw_below_drewN | apply below_drew1) hb; have hg2 := Aside0.mk (GL.below HG.out hb2); clear HB; have HB := Aside0.mk hb2; clear hb2; clear hb hg2)
    | (go_at_call 19; with_reducible refine (hd_plan k _ _ _ (by with_reducible repeat first | exact Rd.out | refine Kd.C_alloc ?_ _ | refine Kd.C_drewN ?_ _ | refine Kd.C_drew ?_) Ld.out (GL.below HG.out (by with_reducible repeat first | exact HB.out | apply below_alloc | apply pw_below_drewN | apply below_drew1)) H4.out).mono ?_; rintro e w1 ⟨Ap, cp, rfl, hq, hb⟩; have Rp := Aside0.mk hq; clear hq; have ql : Kd.C k39 w1 Al 3 hdL := Kd.C_below (by with_reducible repeat first | exact Rl.out | refine Kd.C_alloc ?_ _ | refine Kd.C_drewN ?_ _ | refine Kd.C_drew ?_) hb; clear Rl; have Rl := Aside0.mk ql; clear ql; have hb2 : Below w.heap.size w w1 := below_step (by with_reducible repeat first | exact HB.out | apply below_alloc | apply pw_below_drewN | apply below_drew1) hb; have hg2 := Aside0.mk (GL.below HG.out hb2); clear HB; have HB := Aside0.mk hb2; clear hb2; clear hb hg2))
  clear Rd Ld
  go_upto_region 6 with (first
    | (go_at_call 26; with_reducible refine (hd_debts _).mono ?_; rintro e w1 ⟨Ad, bd, rfl, hl, hq, hb⟩; have Ld := Aside0.mk hl; have Rd := Aside0.mk hq; clear hl hq; have ql : Kd.C k39 w1 Al 3 hdL := Kd.C_below (by with_reducible repeat first | exact Rl.out | refine Kd.C_alloc ?_ _ | refine Kd.C_drewN ?_ _ | refine Kd.C_drew ?_) hb; clear Rl; have Rl := Aside0.mk ql; clear ql; have qp : Kd.C k39 w1 Ap 5 hdP := Kd.C_below (by with_reducible repeat first | exact Rp.out | refine Kd.C_alloc ?_ _ | refine Kd.C_drewN ?_ _ | refine Kd.C_drew ?_) hb; clear Rp; have Rp := Aside0.mk qp; clear qp; have hb2 : Below w.heap.size w w1 := below_step (by with_reducible repeat first | exact HB.out | apply below_alloc | apply pw_below_drewN | apply below_drew1) hb; have hg2 := Aside0.mk (GL.below HG.out hb2); clear HB; have HB := Aside0.mk hb2; clear hb2; clear hb hg2)
    | (go_at_call 19; with_reducible refine (hd_plan1 k _ _ _ (by with_reducible repeat first | exact Rd.out | refine Kd.C_alloc ?_ _ | refine Kd.C_drewN ?_ _ | refine Kd.C_drew ?_) Ld.out (GL.below HG.out (by with_reducible repeat first | exact HB.out | apply below_alloc | apply pw_below_drewN | apply below_drew1)) H5.out).mono ?_; rintro e w1 ⟨Az, cz, rfl, hb⟩; have ql : Kd.C k39 w1 Al 3 hdL := Kd.C_below (by with_reducible repeat first | exact Rl.out | refine Kd.C_alloc ?_ _ | refine Kd.C_drewN ?_ _ | refine Kd.C_drew ?_) hb; clear Rl; have Rl := Aside0.mk ql; clear ql; have qp : Kd.C k39 w1 Ap 5 hdP := Kd.C_below (by with_reducible repeat first | exact Rp.out | refine Kd.C_alloc ?_ _ | refine Kd.C_drewN ?_ _ | refine Kd.C_drew ?_) hb; clear Rp; have Rp := Aside0.mk qp; clear qp; have hb2 : Below w.heap.size w w1 := below_step (by with_reducible repeat first | exact HB.out | apply below_alloc | apply pw_below_drewN | apply below_drew1) hb; have hg2 := Aside0.mk (GL.below HG.out hb2); clear HB; have HB := Aside0.mk hb2; clear hb2; clear hb hg2))
  clear Rd Ld
  go_upto_region 7 with (first
    | (go_at_call 26; with_reducible refine (hd_debts _).mono ?_; rintro e w1 ⟨Ad, bd, rfl, hl, hq, hb⟩; have Ld := Aside0.mk hl; have Rd := Aside0.mk hq; clear hl hq; have ql : Kd.C k39 w1 Al 3 hdL := Kd.C_below (by with_reducible repeat first | exact Rl.out | refine Kd.C_alloc ?_ _ | refine Kd.C_drewN ?_ _ | refine Kd.C_drew ?_) hb; clear Rl; have Rl := Aside0.mk ql; clear ql; have qp : Kd.C k39 w1 Ap 5 hdP := Kd.C_below (by with_reducible repeat first | exact Rp.out | refine Kd.C_alloc ?_ _ | refine Kd.C_drewN ?_ _ | refine Kd.C_drew ?_) hb; clear Rp; have Rp := Aside0.mk qp; clear qp; have hb2 : Below w.heap.size w w1 := below_step (by with_reducible repeat first | exact HB.out | apply below_alloc | apply pw_below_drewN | apply below_drew1) hb; have hg2 := Aside0.mk (GL.below HG.out hb2); clear HB; have HB := Aside0.mk hb2; clear hb2; clear hb hg2)
    | (go_at_call 10; with_reducible refine (hd_pay1 _ _ _ (by with_reducible repeat first | exact Rd.out | refine Kd.C_alloc ?_ _ | refine Kd.C_drewN ?_ _ | refine Kd.C_drew ?_) Ld.out H6.out).mono ?_; rintro e w1 ⟨Ay, cy, rfl, hb⟩; have ql : Kd.C k39 w1 Al 3 hdL := Kd.C_below (by with_reducible repeat first | exact Rl.out | refine Kd.C_alloc ?_ _ | refine Kd.C_drewN ?_ _ | refine Kd.C_drew ?_) hb; clear Rl; have Rl := Aside0.mk ql; clear ql; have qp : Kd.C k39 w1 Ap 5 hdP := Kd.C_below (by with_reducible repeat first | exact Rp.out | refine Kd.C_alloc ?_ _ | refine Kd.C_drewN ?_ _ | refine Kd.C_drew ?_) hb; clear Rp; have Rp := Aside0.mk qp; clear qp; have hb2 : Below w.heap.size w w1 := below_step (by with_reducible repeat first | exact HB.out | apply below_alloc | apply pw_below_drewN | apply below_drew1) hb; have hg2 := Aside0.mk (GL.below HG.out hb2); clear HB; have HB := Aside0.mk hb2; clear hb2; clear hb hg2))
  clear Rd Ld
  cases Al with
  | none => exact (hd_none Rl.out).elim
  | some al =>
  cases Ap with
  | none => exact (hd_none Rp.out).elim
  | some ap =>
  obtain ⟨l03, l13, l23⟩ := hdL_rows Rl.out
  obtain ⟨p00, p01, p02, p03, p10, p11, p12, p13, p20, p21, p22, p23, p30, p31, p32, p33, p40, p41, p42, p43⟩ := hdP_rows Rp.out
  go_upto_region 9 with fail
  go_region_with (first
      | (go_at_call 26; with_reducible refine (hd_debts _).mono ?_; rintro e w2 ⟨Ad, bd, rfl, hl, hq, hb⟩; obtain ⟨ad, rfl⟩ := hd_some hq; have Rd := Aside0.mk hq; clear hl hq; have ql : Kd.C k39 w2 (some al) 3 hdL := Kd.C_below (by with_reducible repeat first | exact Rl.out | refine Kd.C_alloc ?_ _ | refine Kd.C_drewN ?_ _ | refine Kd.C_drew ?_) hb; clear Rl; have Rl := Aside0.mk ql; clear ql; have qp : Kd.C k39 w2 (some ap) 5 hdP := Kd.C_below (by with_reducible repeat first | exact Rp.out | refine Kd.C_alloc ?_ _ | refine Kd.C_drewN ?_ _ | refine Kd.C_drew ?_) hb; clear Rp; have Rp := Aside0.mk qp; clear qp; have hb2 : Below w.heap.size w w2 := below_step (by with_reducible repeat first | exact HB.out | apply below_alloc | apply pw_below_drewN | apply below_drew1) hb; have hg2 := Aside0.mk (GL.below HG.out hb2); clear HB; have HB := Aside0.mk hb2; clear hb2; clear hb hg2; obtain ⟨l03, l13, l23⟩ := hdL_rows Rl.out; obtain ⟨p00, p01, p02, p03, p10, p11, p12, p13, p20, p21, p22, p23, p30, p31, p32, p33, p40, p41, p42, p43⟩ := hdP_rows Rp.out; obtain ⟨d10, d11, d12, d13, d20, d21, d22, d23⟩ := hdD_rows Rd.out))
  all_goals (
    go_wp2
    go_ret
    exact ⟨by first | rfl | simp, by first | exact HB.out | exact below_alloc HB.out⟩)
theorem cohousinglaw34_head.mono : ∀ k, LeO (cohousinglaw34_head.f k) (cohousinglaw34_head.f (k + 1)) := by
  intro k r h
  unfold cohousinglaw34_head.f at h ⊢
  split at h
  case isFalse => cases h
  rename_i c
  rw [if_pos ⟨c.1, setoff_Arrears.mono _ _ k _ c.2.1, setoff_Interest.mono _ _ _ _ _ k _ c.2.2.1, setoff_Plan.mono _ _ _ k _ c.2.2.2.1, setoff_Plan.mono _ _ _ k _ c.2.2.2.2.1, c.2.2.2.2.2⟩]
  exact h
theorem cohousinglaw34_head.calls (k : Nat) (r : Bool) (w : World) (hG : GL w) (h : cohousinglaw34_head.f k = some r) :
    Calls Tryz.prog 9 #[] w fun e w' => e = .returned (.bool r) ∧ Below w.heap.size w w' := by
  unfold cohousinglaw34_head.f at h
  split at h
  case isFalse => cases h
  rename_i c
  obtain rfl := Option.some.inj h
  exact head_walk k w hG c.1 c.2.1 c.2.2.1 c.2.2.2.1 c.2.2.2.2.1 c.2.2.2.2.2
end

end Go.Proofs.YtnkgnjklkocojaaGreatDoor.X
