-- Written by a program of mine (wip/tools/xprint.py) over the kit's print.py: printed functions and hand-proved ones side by side.
import Derived.Test.YtbfgblfhonpgaaaXx0
import Derived.Test.YtbfgblfhonpgaaaXx3
import Derived.Test.YtbfgblfhonpgaaaXx6
import Derived.Test.YtbfgblfhonpgaaaXx7
import Derived.Test.YtbfgblfhonpgaaaXx8
import Derived.Test.YtbfgblfhonpgaaaXx13
namespace Go.Proofs.Ytbfgblfhonpgaaa.X
open Go.RowKit Go.Proofs.YtbfgblfhonpgaaaW.PrintWords Go.Proofs.YtbfgblfhonpgaaaW.PrintLast Go.Proofs.YtbfgblfhonpgaaaW.PrintMore
attribute [local go_sem] max2_int min2_int max_two min_two max_three min_three max_four min_four   -- for this text's walks alone
set_option linter.unusedVariables false
set_option linter.unusedSimpArgs false

/-! ### cohousinglaw04_SpanDays: function 8 -/
mutual
def cohousinglaw04_SpanDays.j0 : Nat → List (S30) → List (S30) → Int → Bool → Bool → Option (Bool)
  | 0, _, _, _, _, _ => none
  | k + 1, x0, x1, x2, x7, x26 => if x26 = true then (if x7 = true then (some true) else (none)) else ((span_Union.f k x0 x1).bind fun bt329 => ((span_Meet.f k x0 x1).bind fun bt333 => ((span_Without.f k x0 x1).bind fun bt337 => ((some (([] : List (S30)) : List (S30))).bind fun y341 => (if y341.length + x1.length < 8796093022208 then ((some (y341 ++ x1 : List (S30))).bind fun y344 => (if y344.length + x0.length < 8796093022208 then ((span_Normal.f (y344 ++ x0)).bind fun bt350 => ((cohousinglaw04_has.f k x0 x2).bind fun t354 => ((cohousinglaw04_has.f k x1 x2).bind fun t355 => (if bt329.2 = 0 then (if bt333.2 = 0 then (if bt337.2 = 0 then (cohousinglaw04_SpanDays.j1 k x0 x1 x2 x7 bt329.1 bt329.2 bt333.1 bt333.2 bt337.1 bt337.2 bt350.1 bt350.2 t354 t355 (bt350.2 != 0)) else (cohousinglaw04_SpanDays.j1 k x0 x1 x2 x7 bt329.1 bt329.2 bt333.1 bt333.2 bt337.1 bt337.2 bt350.1 bt350.2 t354 t355 true)) else (cohousinglaw04_SpanDays.j1 k x0 x1 x2 x7 bt329.1 bt329.2 bt333.1 bt333.2 bt337.1 bt337.2 bt350.1 bt350.2 t354 t355 true)) else (cohousinglaw04_SpanDays.j1 k x0 x1 x2 x7 bt329.1 bt329.2 bt333.1 bt333.2 bt337.1 bt337.2 bt350.1 bt350.2 t354 t355 true))))) else (none))) else (none))))))
def cohousinglaw04_SpanDays.j1 : Nat → List (S30) → List (S30) → Int → Bool → List (S30) → Int → List (S30) → Int → List (S30) → Int → List (S30) → Int → Bool → Bool → Bool → Option (Bool)
  | 0, _, _, _, _, _, _, _, _, _, _, _, _, _, _, _ => none
  | k + 1, x0, x1, x2, x7, x8, x9, x10, x11, x12, x13, x14, x15, x16, x17, x74 => if x74 = true then (if x7 = true then (if (wrap64 ((x0.length : Int) + (x1.length : Int))) > 1000 then (if x9 = 0 then (if x11 = 0 then (if x13 = 0 then (if x15 = x9 then (some true) else (none)) else (if x13 = 2 then (if x15 = x9 then (some true) else (none)) else (none))) else (if x11 = 2 then (if x13 = 0 then (if x15 = x9 then (some true) else (none)) else (if x13 = 2 then (if x15 = x9 then (some true) else (none)) else (none))) else (none))) else (if x9 = 2 then (if x11 = 0 then (if x13 = 0 then (if x15 = x9 then (some true) else (none)) else (if x13 = 2 then (if x15 = x9 then (some true) else (none)) else (none))) else (if x11 = 2 then (if x13 = 0 then (if x15 = x9 then (some true) else (none)) else (if x13 = 2 then (if x15 = x9 then (some true) else (none)) else (none))) else (none))) else (none))) else (none)) else (none)) else ((span_Valid.f k x8).bind fun t356 => (if t356 = true then ((span_Valid.f k x10).bind fun t357 => (if t357 = true then ((span_Valid.f k x12).bind fun t358 => (if t358 = true then ((span_Valid.f k x14).bind fun t359 => (cohousinglaw04_SpanDays.j2 k x2 x7 x8 x10 x12 x14 x16 x17 (!t359))) else (cohousinglaw04_SpanDays.j2 k x2 x7 x8 x10 x12 x14 x16 x17 true))) else (cohousinglaw04_SpanDays.j2 k x2 x7 x8 x10 x12 x14 x16 x17 true))) else (cohousinglaw04_SpanDays.j2 k x2 x7 x8 x10 x12 x14 x16 x17 true)))
def cohousinglaw04_SpanDays.j2 : Nat → Int → Bool → List (S30) → List (S30) → List (S30) → List (S30) → Bool → Bool → Bool → Option (Bool)
  | 0, _, _, _, _, _, _, _, _, _ => none
  | k + 1, x2, x7, x8, x10, x12, x14, x16, x17, x130 => if x130 = true then (none) else (if x7 = true then ((cohousinglaw04_has.f k x8 x2).bind fun t360 => (if x16 = true then (if (t360 == true) = true then ((cohousinglaw04_has.f k x10 x2).bind fun t361 => (if (t361 == x17) = true then ((cohousinglaw04_has.f k x12 x2).bind fun t362 => (if (t362 == (!x17)) = true then ((cohousinglaw04_has.f k x14 x2).bind fun t363 => (if (t363 == true) = true then (some true) else (none))) else (none))) else (none))) else (none)) else (if (t360 == x17) = true then ((cohousinglaw04_has.f k x10 x2).bind fun t364 => (if (t364 == false) = true then ((cohousinglaw04_has.f k x12 x2).bind fun t365 => (if (t365 == false) = true then ((cohousinglaw04_has.f k x14 x2).bind fun t366 => (if (t366 == x17) = true then (some true) else (none))) else (none))) else (none))) else (none)))) else (none))
end
def cohousinglaw04_SpanDays.f (k : Nat) (l0 : List (S30)) (l1 : List (S30)) (a2 : Int) : Option (Bool) := (cohousinglaw04_head.f k).bind fun t326 => ((span_Valid.f k l0).bind fun t327 => (if t327 = true then ((span_Valid.f k l1).bind fun t328 => (cohousinglaw04_SpanDays.j0 k l0 l1 a2 t326 (!t328))) else (cohousinglaw04_SpanDays.j0 k l0 l1 a2 t326 true)))
theorem cohousinglaw04_SpanDays.mono_l : ∀ k, (∀ y0 y1 y2 y3 y4, LeO (cohousinglaw04_SpanDays.j0 k y0 y1 y2 y3 y4) (cohousinglaw04_SpanDays.j0 (k + 1) y0 y1 y2 y3 y4)) ∧ (∀ y0 y1 y2 y3 y4 y5 y6 y7 y8 y9 y10 y11 y12 y13 y14, LeO (cohousinglaw04_SpanDays.j1 k y0 y1 y2 y3 y4 y5 y6 y7 y8 y9 y10 y11 y12 y13 y14) (cohousinglaw04_SpanDays.j1 (k + 1) y0 y1 y2 y3 y4 y5 y6 y7 y8 y9 y10 y11 y12 y13 y14)) ∧ (∀ y0 y1 y2 y3 y4 y5 y6 y7 y8, LeO (cohousinglaw04_SpanDays.j2 k y0 y1 y2 y3 y4 y5 y6 y7 y8) (cohousinglaw04_SpanDays.j2 (k + 1) y0 y1 y2 y3 y4 y5 y6 y7 y8))
  | 0 => ⟨fun _ _ _ _ _ r h => by simp [cohousinglaw04_SpanDays.j0] at h, fun _ _ _ _ _ _ _ _ _ _ _ _ _ _ _ r h => by simp [cohousinglaw04_SpanDays.j1] at h, fun _ _ _ _ _ _ _ _ _ r h => by simp [cohousinglaw04_SpanDays.j2] at h⟩
  | k + 1 => by
    obtain ⟨ih0, ih1, ih2⟩ := cohousinglaw04_SpanDays.mono_l k
    refine ⟨?_, ?_, ?_⟩
    · intro y0 y1 y2 y3 y4
      unfold cohousinglaw04_SpanDays.j0
      repeat' first
      | (with_reducible exact ih0 _ _ _ _ _)
      | (with_reducible exact ih1 _ _ _ _ _ _ _ _ _ _ _ _ _ _ _)
      | (with_reducible exact ih2 _ _ _ _ _ _ _ _ _)
      | (with_reducible exact cohousinglaw04_has.mono _ _ _)
      | (with_reducible exact cohousinglaw04_head.mono _)
      | (with_reducible exact span_Meet.mono _ _ _)
      | (with_reducible exact span_Union.mono _ _ _)
      | (with_reducible exact span_Valid.mono _ _)
      | (with_reducible exact span_Without.mono _ _ _)
      | (with_reducible exact LeO.refl _)
      | (with_reducible exact LeO.none _)
      | (with_reducible refine LeO.ite ?_ ?_)
      | (with_reducible refine LeO.bind ?_ (fun _ => ?_))
      | exact ih0 _ _ _ _ _
      | exact ih1 _ _ _ _ _ _ _ _ _ _ _ _ _ _ _
      | exact ih2 _ _ _ _ _ _ _ _ _
      | exact cohousinglaw04_has.mono _ _ _
      | exact cohousinglaw04_head.mono _
      | exact span_Meet.mono _ _ _
      | exact span_Union.mono _ _ _
      | exact span_Valid.mono _ _
      | exact span_Without.mono _ _ _
      | exact LeO.none _
      | refine LeO.ite ?_ ?_
      | refine LeO.bind ?_ (fun _ => ?_)
    · intro y0 y1 y2 y3 y4 y5 y6 y7 y8 y9 y10 y11 y12 y13 y14
      unfold cohousinglaw04_SpanDays.j1
      repeat' first
      | (with_reducible exact ih0 _ _ _ _ _)
      | (with_reducible exact ih1 _ _ _ _ _ _ _ _ _ _ _ _ _ _ _)
      | (with_reducible exact ih2 _ _ _ _ _ _ _ _ _)
      | (with_reducible exact cohousinglaw04_has.mono _ _ _)
      | (with_reducible exact cohousinglaw04_head.mono _)
      | (with_reducible exact span_Meet.mono _ _ _)
      | (with_reducible exact span_Union.mono _ _ _)
      | (with_reducible exact span_Valid.mono _ _)
      | (with_reducible exact span_Without.mono _ _ _)
      | (with_reducible exact LeO.refl _)
      | (with_reducible exact LeO.none _)
      | (with_reducible refine LeO.ite ?_ ?_)
      | (with_reducible refine LeO.bind ?_ (fun _ => ?_))
      | exact ih0 _ _ _ _ _
      | exact ih1 _ _ _ _ _ _ _ _ _ _ _ _ _ _ _
      | exact ih2 _ _ _ _ _ _ _ _ _
      | exact cohousinglaw04_has.mono _ _ _
      | exact cohousinglaw04_head.mono _
      | exact span_Meet.mono _ _ _
      | exact span_Union.mono _ _ _
      | exact span_Valid.mono _ _
      | exact span_Without.mono _ _ _
      | exact LeO.none _
      | refine LeO.ite ?_ ?_
      | refine LeO.bind ?_ (fun _ => ?_)
    · intro y0 y1 y2 y3 y4 y5 y6 y7 y8
      unfold cohousinglaw04_SpanDays.j2
      repeat' first
      | (with_reducible exact ih0 _ _ _ _ _)
      | (with_reducible exact ih1 _ _ _ _ _ _ _ _ _ _ _ _ _ _ _)
      | (with_reducible exact ih2 _ _ _ _ _ _ _ _ _)
      | (with_reducible exact cohousinglaw04_has.mono _ _ _)
      | (with_reducible exact cohousinglaw04_head.mono _)
      | (with_reducible exact span_Meet.mono _ _ _)
      | (with_reducible exact span_Union.mono _ _ _)
      | (with_reducible exact span_Valid.mono _ _)
      | (with_reducible exact span_Without.mono _ _ _)
      | (with_reducible exact LeO.refl _)
      | (with_reducible exact LeO.none _)
      | (with_reducible refine LeO.ite ?_ ?_)
      | (with_reducible refine LeO.bind ?_ (fun _ => ?_))
      | exact ih0 _ _ _ _ _
      | exact ih1 _ _ _ _ _ _ _ _ _ _ _ _ _ _ _
      | exact ih2 _ _ _ _ _ _ _ _ _
      | exact cohousinglaw04_has.mono _ _ _
      | exact cohousinglaw04_head.mono _
      | exact span_Meet.mono _ _ _
      | exact span_Union.mono _ _ _
      | exact span_Valid.mono _ _
      | exact span_Without.mono _ _ _
      | exact LeO.none _
      | refine LeO.ite ?_ ?_
      | refine LeO.bind ?_ (fun _ => ?_)
theorem cohousinglaw04_SpanDays.mono : ∀ a0 a1 a2 k, LeO (cohousinglaw04_SpanDays.f k a0 a1 a2) (cohousinglaw04_SpanDays.f (k + 1) a0 a1 a2) := by
  intro a0 a1 a2 k
  obtain ⟨ih0, ih1, ih2⟩ := cohousinglaw04_SpanDays.mono_l k
  unfold cohousinglaw04_SpanDays.f
  repeat' first
      | (with_reducible exact ih0 _ _ _ _ _)
      | (with_reducible exact ih1 _ _ _ _ _ _ _ _ _ _ _ _ _ _ _)
      | (with_reducible exact ih2 _ _ _ _ _ _ _ _ _)
      | (with_reducible exact cohousinglaw04_has.mono _ _ _)
      | (with_reducible exact cohousinglaw04_head.mono _)
      | (with_reducible exact span_Meet.mono _ _ _)
      | (with_reducible exact span_Union.mono _ _ _)
      | (with_reducible exact span_Valid.mono _ _)
      | (with_reducible exact span_Without.mono _ _ _)
      | (with_reducible exact LeO.refl _)
      | (with_reducible exact LeO.none _)
      | (with_reducible refine LeO.ite ?_ ?_)
      | (with_reducible refine LeO.bind ?_ (fun _ => ?_))
      | exact ih0 _ _ _ _ _
      | exact ih1 _ _ _ _ _ _ _ _ _ _ _ _ _ _ _
      | exact ih2 _ _ _ _ _ _ _ _ _
      | exact cohousinglaw04_has.mono _ _ _
      | exact cohousinglaw04_head.mono _
      | exact span_Meet.mono _ _ _
      | exact span_Union.mono _ _ _
      | exact span_Valid.mono _ _
      | exact span_Without.mono _ _ _
      | exact LeO.none _
      | refine LeO.ite ?_ ?_
      | refine LeO.bind ?_ (fun _ => ?_)
set_option maxHeartbeats 8000000 in
set_option maxRecDepth 100000 in
theorem cohousinglaw04_SpanDays.calls (k : Nat) (A0 : Option Addr) (c0 : Nat) (l0 : List (S30)) (A1 : Option Addr) (c1 : Nat) (l1 : List (S30)) (a2 : Int) (r : Bool) (w : World) (hr0 : Kd.C k30 w A0 l0.length l0) (hc0 : l0.length ≤ c0) (hr1 : Kd.C k30 w A1 l1.length l1) (hc1 : l1.length ≤ c1) (h : cohousinglaw04_SpanDays.f k l0 l1 a2 = some r) :
    Calls Try.prog 8 #[.slice A0 l0.length c0, .slice A1 l1.length c1, .int .i64 a2] w fun e w' => e = .returned (.bool r) ∧ Below w.heap.size w w' := by
  have HR0 := Aside0.mk hr0
  have HC0 := Aside0.mk hc0
  clear hr0 hc0
  have HR1 := Aside0.mk hr1
  have HC1 := Aside0.mk hc1
  clear hr1 hc1
  have HB := Aside0.mk (Below.refl w.heap.size w)
  have H : ((cohousinglaw04_head.f k).bind fun t326 => ((span_Valid.f k l0).bind fun t327 => (if t327 = true then ((span_Valid.f k l1).bind fun t328 => (cohousinglaw04_SpanDays.j0 k l0 l1 a2 t326 (!t328))) else (cohousinglaw04_SpanDays.j0 k l0 l1 a2 t326 true)))) = some r := h
  clear h
  replace H := Option.bind_eq_some_iff.mp H
  obtain ⟨t326, A40, H⟩ := H
  replace H : ((span_Valid.f k l0).bind fun t327 => (if t327 = true then ((span_Valid.f k l1).bind fun t328 => (cohousinglaw04_SpanDays.j0 k l0 l1 a2 t326 (!t328))) else (cohousinglaw04_SpanDays.j0 k l0 l1 a2 t326 true))) = some r := H
  have A4 := Aside0.mk A40
  clear A40
  have HC5 := Aside0.mk H
  clear H
  go_enter Try.func8, Try.ntmps8
  go_upto_region 2 with (first | ((with_reducible refine gate_callee (f := 9) rfl ?_); refine goesL_ (some 18) rfl rfl Try.func9 (by kernel_rfl) rfl #[] rfl (by (try simp only [List.map_toArray, List.map_cons, List.map_nil]); first | done | rfl | (simp only [List.length_drop, List.length_take]; rfl)) ?_; (with_reducible refine (cohousinglaw04_head.calls k  t326 _ A4.out).mono ?_); rintro e w6 ⟨rfl, hb⟩; refine ⟨_, rfl, ?_⟩; have n0_ := Aside0.mk (below_step (by repeat (first | (with_reducible first | exact HB.out | apply below_alloc | apply pw_below_drewN | apply below_drew1) | exact HB.out)) hb); clear HB; have HB := n0_; clear n0_; (try clear hb); (try clear hb2); (try clear hk); (try clear hi)))
  (try simp only [Act.put, List.setIfInBounds_toArray, List.set_cons_zero, List.set_cons_succ])
  go_cut [26] (fun v26 wc => ∃ (kq : Nat) (x26_4 : Bool), v26 = .bool x26_4 ∧ Aside0 (cohousinglaw04_SpanDays.j0 kq l0 l1 a2 t326 x26_4 = some r) ∧ Aside0 (kq ≤ k) ∧ Aside0 (Below w.heap.size w wc))
  case first =>
    have H := HC5.out
    clear HC5
    replace H := Option.bind_eq_some_iff.mp H
    obtain ⟨t327, A70, H⟩ := H
    replace H : (if t327 = true then ((span_Valid.f k l1).bind fun t328 => (cohousinglaw04_SpanDays.j0 k l0 l1 a2 t326 (!t328))) else (cohousinglaw04_SpanDays.j0 k l0 l1 a2 t326 true)) = some r := H
    have A7 := Aside0.mk A70
    clear A70
    by_cases c8 : t327 = true
    · subst c8
      have H1 : ((span_Valid.f k l1).bind fun t328 => (cohousinglaw04_SpanDays.j0 k l0 l1 a2 t326 (!t328))) = some r := by rw [if_pos rfl] at H; exact H
      clear H
      have H := H1
      clear H1
      replace H := Option.bind_eq_some_iff.mp H
      obtain ⟨t328, A90, H⟩ := H
      replace H : (cohousinglaw04_SpanDays.j0 k l0 l1 a2 t326 (!t328)) = some r := H
      have A9 := Aside0.mk A90
      clear A90
      have H' := Aside0.mk H
      clear H
      go_wp2_with (first | ((with_reducible refine gate_callee (f := 10) rfl ?_); refine goesL_ (some 20) rfl rfl Try.func10 (by kernel_rfl) rfl #[.slice A0 l0.length c0] rfl (by (try simp only [List.map_toArray, List.map_cons, List.map_nil]); first | done | rfl | (simp only [List.length_drop, List.length_take]; rfl)) ?_; (with_reducible refine (span_Valid.calls k _ _ l0 true _ ?side1 ?side2 A7.out).mono ?_); (case side1 => repeat (first | exact (Kd.C_below HR0.out HB.out) | (with_reducible refine Kd.C_alloc ?_ _) | (with_reducible refine Kd.C_drewN ?_ _) | (with_reducible refine Kd.C_drew ?_))); (case side2 => exact HC0.out); rintro e w10 ⟨rfl, hb⟩; refine ⟨_, rfl, ?_⟩; have n0_ := Aside0.mk (below_step (by repeat (first | (with_reducible first | exact HB.out | apply below_alloc | apply pw_below_drewN | apply below_drew1) | exact HB.out)) hb); clear HB; have HB := n0_; clear n0_; (try clear hb); (try clear hb2); (try clear hk); (try clear hi)) | (go_at_call 10; (with_reducible refine (span_Valid.calls k _ _ l1 t328 _ ?side1 ?side2 A9.out).mono ?_); (case side1 => repeat (first | exact (Kd.C_below HR1.out HB.out) | (with_reducible refine Kd.C_alloc ?_ _) | (with_reducible refine Kd.C_drewN ?_ _) | (with_reducible refine Kd.C_drew ?_))); (case side2 => exact HC1.out); rintro e w11 ⟨rfl, hb⟩; have n0_ := Aside0.mk (below_step (by repeat (first | (with_reducible first | exact HB.out | apply below_alloc | apply pw_below_drewN | apply below_drew1) | exact HB.out)) hb); clear HB; have HB := n0_; clear n0_; (try clear hb); (try clear hb2); (try clear hk); (try clear hi)))
      go_meet
      case rel => exact ⟨_, (!t328), (by first | rfl | (simp; done) | (simp [*]; done)), H', ⟨by first | omega | exact Nat.le_refl _⟩, ⟨by repeat (first | (with_reducible first | exact HB.out | apply below_alloc | apply pw_below_drewN | apply below_drew1) | exact HB.out)⟩⟩
    · replace c8 := Bool.eq_false_iff.mpr c8
      subst c8
      have H1 : (cohousinglaw04_SpanDays.j0 k l0 l1 a2 t326 true) = some r := by rw [if_neg (show ¬ (false = true) by decide)] at H; exact H
      clear H
      have H := H1
      clear H1
      have H' := Aside0.mk H
      clear H
      go_wp2_with (first | ((with_reducible refine gate_callee (f := 10) rfl ?_); refine goesL_ (some 20) rfl rfl Try.func10 (by kernel_rfl) rfl #[.slice A0 l0.length c0] rfl (by (try simp only [List.map_toArray, List.map_cons, List.map_nil]); first | done | rfl | (simp only [List.length_drop, List.length_take]; rfl)) ?_; (with_reducible refine (span_Valid.calls k _ _ l0 false _ ?side1 ?side2 A7.out).mono ?_); (case side1 => repeat (first | exact (Kd.C_below HR0.out HB.out) | (with_reducible refine Kd.C_alloc ?_ _) | (with_reducible refine Kd.C_drewN ?_ _) | (with_reducible refine Kd.C_drew ?_))); (case side2 => exact HC0.out); rintro e w12 ⟨rfl, hb⟩; refine ⟨_, rfl, ?_⟩; have n0_ := Aside0.mk (below_step (by repeat (first | (with_reducible first | exact HB.out | apply below_alloc | apply pw_below_drewN | apply below_drew1) | exact HB.out)) hb); clear HB; have HB := n0_; clear n0_; (try clear hb); (try clear hb2); (try clear hk); (try clear hi)))
      go_meet
      case rel => exact ⟨_, (true), (by first | rfl | (simp; done) | (simp [*]; done)), H', ⟨by first | omega | exact Nat.le_refl _⟩, ⟨by repeat (first | (with_reducible first | exact HB.out | apply below_alloc | apply pw_below_drewN | apply below_drew1) | exact HB.out)⟩⟩
  case rest =>
    clear HC5
    try clear c1
    try clear p2
    try clear c8
    try clear c9
    try clear c10
    obtain ⟨kq, x26_4, rfl, HA, HJ4, HB⟩ := hcut
    cases kq with
    | zero => exact absurd HA.out (by simp [cohousinglaw04_SpanDays.j0])
    | succ kj4 =>
      have H := HA.out
      clear HA
      simp only [cohousinglaw04_SpanDays.j0] at H
      by_cases c13 : x26_4 = true
      · subst c13
        have H1 : (if t326 = true then (some true) else (none)) = some r := by rw [if_pos rfl] at H; exact H
        clear H
        have H := H1
        clear H1
        by_cases c14 : t326 = true
        · subst c14
          have H1 : (some true) = some r := by rw [if_pos rfl] at H; exact H
          clear H
          have H := H1
          clear H1
          obtain rfl := Option.some.inj H
          go_wp2
          go_ret
          exact ⟨by first | rfl | (simp [errW_none, errW_some] <;> rfl) | (simp [*, errW_none, errW_some] <;> rfl), by repeat (first | (with_reducible first | exact HB.out | apply below_alloc | apply pw_below_drewN | apply below_drew1) | exact HB.out)⟩
        · replace c14 := Bool.eq_false_iff.mpr c14
          subst c14
          have H1 : (none) = some r := by rw [if_neg (show ¬ (false = true) by decide)] at H; exact H
          clear H
          have H := H1
          clear H1
          exact absurd H (by simp)
      · replace c13 := Bool.eq_false_iff.mpr c13
        subst c13
        have H1 : ((span_Union.f kj4 l0 l1).bind fun bt329 => ((span_Meet.f kj4 l0 l1).bind fun bt333 => ((span_Without.f kj4 l0 l1).bind fun bt337 => ((some (([] : List (S30)) : List (S30))).bind fun y341 => (if y341.length + l1.length < 8796093022208 then ((some (y341 ++ l1 : List (S30))).bind fun y344 => (if y344.length + l0.length < 8796093022208 then ((span_Normal.f (y344 ++ l0)).bind fun bt350 => ((cohousinglaw04_has.f kj4 l0 a2).bind fun t354 => ((cohousinglaw04_has.f kj4 l1 a2).bind fun t355 => (if bt329.2 = 0 then (if bt333.2 = 0 then (if bt337.2 = 0 then (cohousinglaw04_SpanDays.j1 kj4 l0 l1 a2 t326 bt329.1 bt329.2 bt333.1 bt333.2 bt337.1 bt337.2 bt350.1 bt350.2 t354 t355 (bt350.2 != 0)) else (cohousinglaw04_SpanDays.j1 kj4 l0 l1 a2 t326 bt329.1 bt329.2 bt333.1 bt333.2 bt337.1 bt337.2 bt350.1 bt350.2 t354 t355 true)) else (cohousinglaw04_SpanDays.j1 kj4 l0 l1 a2 t326 bt329.1 bt329.2 bt333.1 bt333.2 bt337.1 bt337.2 bt350.1 bt350.2 t354 t355 true)) else (cohousinglaw04_SpanDays.j1 kj4 l0 l1 a2 t326 bt329.1 bt329.2 bt333.1 bt333.2 bt337.1 bt337.2 bt350.1 bt350.2 t354 t355 true))))) else (none))) else (none)))))) = some r := by rw [if_neg (show ¬ (false = true) by decide)] at H; exact H
        clear H
        have H := H1
        clear H1
        replace H := Option.bind_eq_some_iff.mp H
        obtain ⟨⟨t329, t330⟩, A150, H⟩ := H
        replace H : ((span_Meet.f kj4 l0 l1).bind fun bt333 => ((span_Without.f kj4 l0 l1).bind fun bt337 => ((some (([] : List (S30)) : List (S30))).bind fun y341 => (if y341.length + l1.length < 8796093022208 then ((some (y341 ++ l1 : List (S30))).bind fun y344 => (if y344.length + l0.length < 8796093022208 then ((span_Normal.f (y344 ++ l0)).bind fun bt350 => ((cohousinglaw04_has.f kj4 l0 a2).bind fun t354 => ((cohousinglaw04_has.f kj4 l1 a2).bind fun t355 => (if t330 = 0 then (if bt333.2 = 0 then (if bt337.2 = 0 then (cohousinglaw04_SpanDays.j1 kj4 l0 l1 a2 t326 t329 t330 bt333.1 bt333.2 bt337.1 bt337.2 bt350.1 bt350.2 t354 t355 (bt350.2 != 0)) else (cohousinglaw04_SpanDays.j1 kj4 l0 l1 a2 t326 t329 t330 bt333.1 bt333.2 bt337.1 bt337.2 bt350.1 bt350.2 t354 t355 true)) else (cohousinglaw04_SpanDays.j1 kj4 l0 l1 a2 t326 t329 t330 bt333.1 bt333.2 bt337.1 bt337.2 bt350.1 bt350.2 t354 t355 true)) else (cohousinglaw04_SpanDays.j1 kj4 l0 l1 a2 t326 t329 t330 bt333.1 bt333.2 bt337.1 bt337.2 bt350.1 bt350.2 t354 t355 true))))) else (none))) else (none))))) = some r := H
        have A15 := Aside0.mk A150
        clear A150
        replace H := Option.bind_eq_some_iff.mp H
        obtain ⟨⟨t333, t334⟩, A160, H⟩ := H
        replace H : ((span_Without.f kj4 l0 l1).bind fun bt337 => ((some (([] : List (S30)) : List (S30))).bind fun y341 => (if y341.length + l1.length < 8796093022208 then ((some (y341 ++ l1 : List (S30))).bind fun y344 => (if y344.length + l0.length < 8796093022208 then ((span_Normal.f (y344 ++ l0)).bind fun bt350 => ((cohousinglaw04_has.f kj4 l0 a2).bind fun t354 => ((cohousinglaw04_has.f kj4 l1 a2).bind fun t355 => (if t330 = 0 then (if t334 = 0 then (if bt337.2 = 0 then (cohousinglaw04_SpanDays.j1 kj4 l0 l1 a2 t326 t329 t330 t333 t334 bt337.1 bt337.2 bt350.1 bt350.2 t354 t355 (bt350.2 != 0)) else (cohousinglaw04_SpanDays.j1 kj4 l0 l1 a2 t326 t329 t330 t333 t334 bt337.1 bt337.2 bt350.1 bt350.2 t354 t355 true)) else (cohousinglaw04_SpanDays.j1 kj4 l0 l1 a2 t326 t329 t330 t333 t334 bt337.1 bt337.2 bt350.1 bt350.2 t354 t355 true)) else (cohousinglaw04_SpanDays.j1 kj4 l0 l1 a2 t326 t329 t330 t333 t334 bt337.1 bt337.2 bt350.1 bt350.2 t354 t355 true))))) else (none))) else (none)))) = some r := H
        have A16 := Aside0.mk A160
        clear A160
        replace H := Option.bind_eq_some_iff.mp H
        obtain ⟨⟨t337, t338⟩, A170, H⟩ := H
        replace H : ((some (([] : List (S30)) : List (S30))).bind fun y341 => (if y341.length + l1.length < 8796093022208 then ((some (y341 ++ l1 : List (S30))).bind fun y344 => (if y344.length + l0.length < 8796093022208 then ((span_Normal.f (y344 ++ l0)).bind fun bt350 => ((cohousinglaw04_has.f kj4 l0 a2).bind fun t354 => ((cohousinglaw04_has.f kj4 l1 a2).bind fun t355 => (if t330 = 0 then (if t334 = 0 then (if t338 = 0 then (cohousinglaw04_SpanDays.j1 kj4 l0 l1 a2 t326 t329 t330 t333 t334 t337 t338 bt350.1 bt350.2 t354 t355 (bt350.2 != 0)) else (cohousinglaw04_SpanDays.j1 kj4 l0 l1 a2 t326 t329 t330 t333 t334 t337 t338 bt350.1 bt350.2 t354 t355 true)) else (cohousinglaw04_SpanDays.j1 kj4 l0 l1 a2 t326 t329 t330 t333 t334 t337 t338 bt350.1 bt350.2 t354 t355 true)) else (cohousinglaw04_SpanDays.j1 kj4 l0 l1 a2 t326 t329 t330 t333 t334 t337 t338 bt350.1 bt350.2 t354 t355 true))))) else (none))) else (none))) = some r := H
        have A17 := Aside0.mk A170
        clear A170
        obtain ⟨y341, hy341⟩ : ∃ y_ : List (S30), y_ = (([] : List (S30))) := ⟨_, rfl⟩
        replace H : (if y341.length + l1.length < 8796093022208 then ((some (y341 ++ l1 : List (S30))).bind fun y344 => (if y344.length + l0.length < 8796093022208 then ((span_Normal.f (y344 ++ l0)).bind fun bt350 => ((cohousinglaw04_has.f kj4 l0 a2).bind fun t354 => ((cohousinglaw04_has.f kj4 l1 a2).bind fun t355 => (if t330 = 0 then (if t334 = 0 then (if t338 = 0 then (cohousinglaw04_SpanDays.j1 kj4 l0 l1 a2 t326 t329 t330 t333 t334 t337 t338 bt350.1 bt350.2 t354 t355 (bt350.2 != 0)) else (cohousinglaw04_SpanDays.j1 kj4 l0 l1 a2 t326 t329 t330 t333 t334 t337 t338 bt350.1 bt350.2 t354 t355 true)) else (cohousinglaw04_SpanDays.j1 kj4 l0 l1 a2 t326 t329 t330 t333 t334 t337 t338 bt350.1 bt350.2 t354 t355 true)) else (cohousinglaw04_SpanDays.j1 kj4 l0 l1 a2 t326 t329 t330 t333 t334 t337 t338 bt350.1 bt350.2 t354 t355 true))))) else (none))) else (none)) = some r := by first | (rw [hy341]; with_reducible exact H) | (have H2_ := (Option.bind_some _ _).symm.trans H; rw [hy341]; with_reducible exact H2_) | (have H2_ := (Option.bind_some _ _).symm.trans H; with_reducible exact H2_) | with_reducible exact H | (rw [hy341]; exact H) | exact H
        have Ny341 := Aside0.mk hy341
        clear hy341
        by_cases c18 : y341.length + l1.length < 8796093022208
        · rw [if_pos c18] at H
          have LMc18 := Aside0.mk c18
          clear c18
          obtain ⟨y344, hy344⟩ : ∃ y_ : List (S30), y_ = (y341 ++ l1) := ⟨_, rfl⟩
          replace H : (if y344.length + l0.length < 8796093022208 then ((span_Normal.f (y344 ++ l0)).bind fun bt350 => ((cohousinglaw04_has.f kj4 l0 a2).bind fun t354 => ((cohousinglaw04_has.f kj4 l1 a2).bind fun t355 => (if t330 = 0 then (if t334 = 0 then (if t338 = 0 then (cohousinglaw04_SpanDays.j1 kj4 l0 l1 a2 t326 t329 t330 t333 t334 t337 t338 bt350.1 bt350.2 t354 t355 (bt350.2 != 0)) else (cohousinglaw04_SpanDays.j1 kj4 l0 l1 a2 t326 t329 t330 t333 t334 t337 t338 bt350.1 bt350.2 t354 t355 true)) else (cohousinglaw04_SpanDays.j1 kj4 l0 l1 a2 t326 t329 t330 t333 t334 t337 t338 bt350.1 bt350.2 t354 t355 true)) else (cohousinglaw04_SpanDays.j1 kj4 l0 l1 a2 t326 t329 t330 t333 t334 t337 t338 bt350.1 bt350.2 t354 t355 true))))) else (none)) = some r := by first | (rw [hy344]; with_reducible exact H) | (have H2_ := (Option.bind_some _ _).symm.trans H; rw [hy344]; with_reducible exact H2_) | (have H2_ := (Option.bind_some _ _).symm.trans H; with_reducible exact H2_) | with_reducible exact H | (rw [hy344]; exact H) | exact H
          have Ny344 := Aside0.mk hy344
          clear hy344
          by_cases c19 : y344.length + l0.length < 8796093022208
          · rw [if_pos c19] at H
            have LMc19 := Aside0.mk c19
            clear c19
            obtain ⟨y347, hy347⟩ : ∃ y_ : List (S30), y_ = (y344 ++ l0) := ⟨_, rfl⟩
            replace H : ((span_Normal.f y347).bind fun bt350 => ((cohousinglaw04_has.f kj4 l0 a2).bind fun t354 => ((cohousinglaw04_has.f kj4 l1 a2).bind fun t355 => (if t330 = 0 then (if t334 = 0 then (if t338 = 0 then (cohousinglaw04_SpanDays.j1 kj4 l0 l1 a2 t326 t329 t330 t333 t334 t337 t338 bt350.1 bt350.2 t354 t355 (bt350.2 != 0)) else (cohousinglaw04_SpanDays.j1 kj4 l0 l1 a2 t326 t329 t330 t333 t334 t337 t338 bt350.1 bt350.2 t354 t355 true)) else (cohousinglaw04_SpanDays.j1 kj4 l0 l1 a2 t326 t329 t330 t333 t334 t337 t338 bt350.1 bt350.2 t354 t355 true)) else (cohousinglaw04_SpanDays.j1 kj4 l0 l1 a2 t326 t329 t330 t333 t334 t337 t338 bt350.1 bt350.2 t354 t355 true))))) = some r := by first | (rw [hy347]; with_reducible exact H) | (have H2_ := (Option.bind_some _ _).symm.trans H; rw [hy347]; with_reducible exact H2_) | (have H2_ := (Option.bind_some _ _).symm.trans H; with_reducible exact H2_) | with_reducible exact H | (rw [hy347]; exact H) | exact H
            have Ny347 := Aside0.mk hy347
            clear hy347
            replace H := Option.bind_eq_some_iff.mp H
            obtain ⟨⟨t350, t351⟩, A200, H⟩ := H
            replace H : ((cohousinglaw04_has.f kj4 l0 a2).bind fun t354 => ((cohousinglaw04_has.f kj4 l1 a2).bind fun t355 => (if t330 = 0 then (if t334 = 0 then (if t338 = 0 then (cohousinglaw04_SpanDays.j1 kj4 l0 l1 a2 t326 t329 t330 t333 t334 t337 t338 t350 t351 t354 t355 (t351 != 0)) else (cohousinglaw04_SpanDays.j1 kj4 l0 l1 a2 t326 t329 t330 t333 t334 t337 t338 t350 t351 t354 t355 true)) else (cohousinglaw04_SpanDays.j1 kj4 l0 l1 a2 t326 t329 t330 t333 t334 t337 t338 t350 t351 t354 t355 true)) else (cohousinglaw04_SpanDays.j1 kj4 l0 l1 a2 t326 t329 t330 t333 t334 t337 t338 t350 t351 t354 t355 true)))) = some r := H
            have A20 := Aside0.mk A200
            clear A200
            replace H := Option.bind_eq_some_iff.mp H
            obtain ⟨t354, A210, H⟩ := H
            replace H : ((cohousinglaw04_has.f kj4 l1 a2).bind fun t355 => (if t330 = 0 then (if t334 = 0 then (if t338 = 0 then (cohousinglaw04_SpanDays.j1 kj4 l0 l1 a2 t326 t329 t330 t333 t334 t337 t338 t350 t351 t354 t355 (t351 != 0)) else (cohousinglaw04_SpanDays.j1 kj4 l0 l1 a2 t326 t329 t330 t333 t334 t337 t338 t350 t351 t354 t355 true)) else (cohousinglaw04_SpanDays.j1 kj4 l0 l1 a2 t326 t329 t330 t333 t334 t337 t338 t350 t351 t354 t355 true)) else (cohousinglaw04_SpanDays.j1 kj4 l0 l1 a2 t326 t329 t330 t333 t334 t337 t338 t350 t351 t354 t355 true))) = some r := H
            have A21 := Aside0.mk A210
            clear A210
            replace H := Option.bind_eq_some_iff.mp H
            obtain ⟨t355, A220, H⟩ := H
            replace H : (if t330 = 0 then (if t334 = 0 then (if t338 = 0 then (cohousinglaw04_SpanDays.j1 kj4 l0 l1 a2 t326 t329 t330 t333 t334 t337 t338 t350 t351 t354 t355 (t351 != 0)) else (cohousinglaw04_SpanDays.j1 kj4 l0 l1 a2 t326 t329 t330 t333 t334 t337 t338 t350 t351 t354 t355 true)) else (cohousinglaw04_SpanDays.j1 kj4 l0 l1 a2 t326 t329 t330 t333 t334 t337 t338 t350 t351 t354 t355 true)) else (cohousinglaw04_SpanDays.j1 kj4 l0 l1 a2 t326 t329 t330 t333 t334 t337 t338 t350 t351 t354 t355 true)) = some r := H
            have A22 := Aside0.mk A220
            clear A220
            have HC23 := Aside0.mk H
            clear H
            go_upto_region 9 with (first | ((with_reducible refine gate_callee (f := 15) rfl ?_); refine goesL_ (some 31) rfl rfl Try.func15 (by kernel_rfl) rfl #[.slice A0 l0.length c0, .slice A1 l1.length c1] rfl (by (try simp only [List.map_toArray, List.map_cons, List.map_nil]); first | done | rfl | (simp only [List.length_drop, List.length_take]; rfl)) ?_; (with_reducible refine (span_Union.calls kj4 _ _ l0 _ _ l1 t329 t330 _ ?side1 ?side2 ?side3 ?side4 A15.out).mono ?_); (case side1 => repeat (first | exact (Kd.C_below HR0.out HB.out) | (with_reducible refine Kd.C_alloc ?_ _) | (with_reducible refine Kd.C_drewN ?_ _) | (with_reducible refine Kd.C_drew ?_))); (case side2 => exact HC0.out); (case side3 => repeat (first | exact (Kd.C_below HR1.out HB.out) | (with_reducible refine Kd.C_alloc ?_ _) | (with_reducible refine Kd.C_drewN ?_ _) | (with_reducible refine Kd.C_drew ?_))); (case side4 => exact HC1.out); rintro e w24 ⟨v331, rfl, ho0, hb⟩; refine ⟨_, rfl, ?_⟩; have n0_ := Aside0.mk (Kd.R_lower ho0 (below_size (by repeat (first | (with_reducible first | exact HB.out | apply below_alloc | apply pw_below_drewN | apply below_drew1) | exact HB.out)))); have n1_ := Aside0.mk (below_step (by repeat (first | (with_reducible first | exact HB.out | apply below_alloc | apply pw_below_drewN | apply below_drew1) | exact HB.out)) hb); clear HB; have HO332 := n0_; have HB := n1_; clear n0_ n1_; (try clear hb); (try clear hb2); (try clear hk); (try clear hi); (try clear ho0)) | ((with_reducible refine gate_callee (f := 16) rfl ?_); refine goesL_ (some 37) rfl rfl Try.func16 (by kernel_rfl) rfl #[.slice A0 l0.length c0, .slice A1 l1.length c1] rfl (by (try simp only [List.map_toArray, List.map_cons, List.map_nil]); first | done | rfl | (simp only [List.length_drop, List.length_take]; rfl)) ?_; (with_reducible refine (span_Meet.calls kj4 _ _ l0 _ _ l1 t333 t334 _ ?side1 ?side2 ?side3 ?side4 A16.out).mono ?_); (case side1 => repeat (first | exact (Kd.C_below HR0.out HB.out) | (with_reducible refine Kd.C_alloc ?_ _) | (with_reducible refine Kd.C_drewN ?_ _) | (with_reducible refine Kd.C_drew ?_))); (case side2 => exact HC0.out); (case side3 => repeat (first | exact (Kd.C_below HR1.out HB.out) | (with_reducible refine Kd.C_alloc ?_ _) | (with_reducible refine Kd.C_drewN ?_ _) | (with_reducible refine Kd.C_drew ?_))); (case side4 => exact HC1.out); rintro e w25 ⟨v335, rfl, ho0, hb⟩; refine ⟨_, rfl, ?_⟩; have n0_ := Aside0.mk (Kd.R_elder' (by (with_reducible repeat (first | apply Kd.R_alloc | apply Kd.R_drewN | apply Kd.R_drew)); exact HO332.out) (Kd.R_base ho0) hb); have n1_ := Aside0.mk (Kd.R_lower (Kd.R_new' ho0 (Kd.R_lt (by (with_reducible repeat (first | apply Kd.R_alloc | apply Kd.R_drewN | apply Kd.R_drew)); exact HO332.out))) (below_size (by repeat (first | (with_reducible first | exact HB.out | apply below_alloc | apply pw_below_drewN | apply below_drew1) | exact HB.out)))); have n2_ := Aside0.mk (below_step (by repeat (first | (with_reducible first | exact HB.out | apply below_alloc | apply pw_below_drewN | apply below_drew1) | exact HB.out)) hb); clear HO332; clear HB; have HO332 := n0_; have HO336 := n1_; have HB := n2_; clear n0_ n1_ n2_; (try clear hb); (try clear hb2); (try clear hk); (try clear hi); (try clear ho0)) | ((with_reducible refine gate_callee (f := 13) rfl ?_); refine goesL_ (some 43) rfl rfl Try.func13 (by kernel_rfl) rfl #[.slice A0 l0.length c0, .slice A1 l1.length c1] rfl (by (try simp only [List.map_toArray, List.map_cons, List.map_nil]); first | done | rfl | (simp only [List.length_drop, List.length_take]; rfl)) ?_; (with_reducible refine (span_Without.calls kj4 _ _ l0 _ _ l1 t337 t338 _ ?side1 ?side2 ?side3 ?side4 A17.out).mono ?_); (case side1 => repeat (first | exact (Kd.C_below HR0.out HB.out) | (with_reducible refine Kd.C_alloc ?_ _) | (with_reducible refine Kd.C_drewN ?_ _) | (with_reducible refine Kd.C_drew ?_))); (case side2 => exact HC0.out); (case side3 => repeat (first | exact (Kd.C_below HR1.out HB.out) | (with_reducible refine Kd.C_alloc ?_ _) | (with_reducible refine Kd.C_drewN ?_ _) | (with_reducible refine Kd.C_drew ?_))); (case side4 => exact HC1.out); rintro e w26 ⟨v339, rfl, ho0, hb⟩; refine ⟨_, rfl, ?_⟩; have n0_ := Aside0.mk (Kd.R_elder' (by (with_reducible repeat (first | apply Kd.R_alloc | apply Kd.R_drewN | apply Kd.R_drew)); exact HO332.out) (Kd.R_base ho0) hb); have n1_ := Aside0.mk (Kd.R_elder' (by (with_reducible repeat (first | apply Kd.R_alloc | apply Kd.R_drewN | apply Kd.R_drew)); exact HO336.out) (Kd.R_base ho0) hb); have n2_ := Aside0.mk (Kd.R_lower (Kd.R_new' (Kd.R_new' ho0 (Kd.R_lt (by (with_reducible repeat (first | apply Kd.R_alloc | apply Kd.R_drewN | apply Kd.R_drew)); exact HO332.out))) (Kd.R_lt (by (with_reducible repeat (first | apply Kd.R_alloc | apply Kd.R_drewN | apply Kd.R_drew)); exact HO336.out))) (below_size (by repeat (first | (with_reducible first | exact HB.out | apply below_alloc | apply pw_below_drewN | apply below_drew1) | exact HB.out)))); have n3_ := Aside0.mk (below_step (by repeat (first | (with_reducible first | exact HB.out | apply below_alloc | apply pw_below_drewN | apply below_drew1) | exact HB.out)) hb); clear HO332; clear HO336; clear HB; have HO332 := n0_; have HO336 := n1_; have HO340 := n2_; have HB := n3_; clear n0_ n1_ n2_ n3_; (try clear hb); (try clear hb2); (try clear hk); (try clear hi); (try clear ho0)) | ((with_reducible refine gate_dst (N := 47) rfl ?_); (try (refine gate_guard (by rfl) ?_; dsimp only)); refine Kd.R_lit k30 _ 30 ?hg (N := 47) ?hd (xs := ([] : List (S30))) (inner := []) (ok := fun _ => True) (okp := fun _ => True) ?hr ?hp (fun _ hk => hk) trivial (Below.refl _ _) (Nat.le_refl _) (by simp) ?_; (case hd => rfl); (case hg => rfl); (case hr => first | (go_simp; done) | (go_simp; rfl)); (case hp => exact (Reps.none _ _)); intro v342 w27 ho28 hb hg_ hnew_; clear hg_ hnew_; (first | rw [← Ny341.out] at ho28 | (simp only [Int.reduceToNat] at ho28; rw [← Ny341.out] at ho28)); have n0_ := Aside0.mk (Kd.R_elder' (by (with_reducible repeat (first | apply Kd.R_alloc | apply Kd.R_drewN | apply Kd.R_drew)); exact HO332.out) (Kd.R_base ho28) hb); have n1_ := Aside0.mk (Kd.R_elder' (by (with_reducible repeat (first | apply Kd.R_alloc | apply Kd.R_drewN | apply Kd.R_drew)); exact HO336.out) (Kd.R_base ho28) hb); have n2_ := Aside0.mk (Kd.R_elder' (by (with_reducible repeat (first | apply Kd.R_alloc | apply Kd.R_drewN | apply Kd.R_drew)); exact HO340.out) (Kd.R_base ho28) hb); have n3_ := Aside0.mk (Kd.R_lower (Kd.R_new' (Kd.R_new' (Kd.R_new' ho28 (Kd.R_lt (by (with_reducible repeat (first | apply Kd.R_alloc | apply Kd.R_drewN | apply Kd.R_drew)); exact HO332.out))) (Kd.R_lt (by (with_reducible repeat (first | apply Kd.R_alloc | apply Kd.R_drewN | apply Kd.R_drew)); exact HO336.out))) (Kd.R_lt (by (with_reducible repeat (first | apply Kd.R_alloc | apply Kd.R_drewN | apply Kd.R_drew)); exact HO340.out))) (below_size (by repeat (first | (with_reducible first | exact HB.out | apply below_alloc | apply pw_below_drewN | apply below_drew1) | exact HB.out)))); have n4_ := Aside0.mk (below_step (by repeat (first | (with_reducible first | exact HB.out | apply below_alloc | apply pw_below_drewN | apply below_drew1) | exact HB.out)) hb); clear HO332; clear HO336; clear HO340; clear HB; have HO332 := n0_; have HO336 := n1_; have HO340 := n2_; have HO343 := n3_; have HB := n4_; clear n0_ n1_ n2_ n3_ n4_; clear hb ho28) | ((with_reducible refine gate_builtin (b := .append) (xs := #[.tmp 47, .tmp 48]) rfl ?_); (try (refine gate_guard (by rfl) ?_; dsimp only)); at_builtin; refine Kd.R_append_rows k30 (w0 := w) w.heap.size rfl (.tmp 47) (.tmp 48) 22 30 (.agg #[(.int .i64 0), (.int .i64 0)]) 16 rfl Try.underlying22 info30 rfl (by decide) (by omega) v342 y341 l1 _ _ _ (fun k_ => some k_ ≠ (v331 : Value).ownBlock ∧ some k_ ≠ (v335 : Value).ownBlock ∧ some k_ ≠ (v339 : Value).ownBlock) (fun _ => False) rfl rfl ?aO ?aR (fun _ _ h => h) (fun _ h => h.elim) ?aF ?aB ?aS ?aL ?_; (case aR => repeat (first | exact (Kd.C_below HR1.out HB.out) | (with_reducible refine Kd.C_alloc ?_ _) | (with_reducible refine Kd.C_drewN ?_ _) | (with_reducible refine Kd.C_drew ?_))); (case aB => exact (by repeat (first | (with_reducible first | exact HB.out | apply below_alloc | apply pw_below_drewN | apply below_drew1) | exact HB.out))); (case aF => exact (fun k_ hk => ⟨Kd.fresh' (Kd.R_lt (by (with_reducible repeat (first | apply Kd.R_alloc | apply Kd.R_drewN | apply Kd.R_drew)); exact HO332.out)) k_ hk, Kd.fresh' (Kd.R_lt (by (with_reducible repeat (first | apply Kd.R_alloc | apply Kd.R_drewN | apply Kd.R_drew)); exact HO336.out)) k_ hk, Kd.fresh' (Kd.R_lt (by (with_reducible repeat (first | apply Kd.R_alloc | apply Kd.R_drewN | apply Kd.R_drew)); exact HO340.out)) k_ hk⟩)); (case aO => exact (by (with_reducible repeat (first | apply Kd.R_alloc | apply Kd.R_drewN | apply Kd.R_drew)); exact Kd.R_mono HO343.out (fun _ hk => ⟨hk.1.1.2, ⟨hk.1.2, hk.2⟩⟩))); (case aS => exact (below_size (by repeat (first | (with_reducible first | exact HB.out | apply below_alloc | apply pw_below_drewN | apply below_drew1) | exact HB.out)))); (case aL => have := LMc18.out; omega); intro v345 w29 ho hb hg hat; rw [← Ny344.out] at ho; have n0_ := Aside0.mk (Kd.R_after (ok := (fun k_ => some k_ ≠ (v335 : Value).ownBlock ∧ some k_ ≠ (v339 : Value).ownBlock)) (by (with_reducible repeat (first | apply Kd.R_alloc | apply Kd.R_drewN | apply Kd.R_drew)); exact Kd.R_mono HO332.out (fun _ hk => ⟨⟨hk.1.1.2, hk.1.2⟩, hk.2⟩)) hg hat); have n1_ := Aside0.mk (Kd.R_after (ok := (fun k_ => some k_ ≠ (v331 : Value).ownBlock ∧ some k_ ≠ (v339 : Value).ownBlock)) (by (with_reducible repeat (first | apply Kd.R_alloc | apply Kd.R_drewN | apply Kd.R_drew)); exact Kd.R_mono HO336.out (fun _ hk => ⟨⟨hk.1.1.2, hk.1.2⟩, hk.2⟩)) hg hat); have n2_ := Aside0.mk (Kd.R_after (ok := (fun k_ => some k_ ≠ (v331 : Value).ownBlock ∧ some k_ ≠ (v335 : Value).ownBlock)) (by (with_reducible repeat (first | apply Kd.R_alloc | apply Kd.R_drewN | apply Kd.R_drew)); exact Kd.R_mono HO340.out (fun _ hk => ⟨⟨hk.1.1.2, hk.1.2⟩, hk.2⟩)) hg hat); have n3_ := Aside0.mk (hb); have n4_ := Aside0.mk (ho); clear HO332; clear HO336; clear HO340; clear HB; clear HO343; have HO332 := n0_; have HO336 := n1_; have HO340 := n2_; have HB := n3_; have HO346 := n4_; clear n0_ n1_ n2_ n3_ n4_; clear ho hb hg hat) | ((with_reducible refine gate_builtin (b := .append) (xs := #[.tmp 49, .tmp 50]) rfl ?_); (try (refine gate_guard (by rfl) ?_; dsimp only)); at_builtin; refine Kd.R_append_rows k30 (w0 := w) w.heap.size rfl (.tmp 49) (.tmp 50) 22 30 (.agg #[(.int .i64 0), (.int .i64 0)]) 16 rfl Try.underlying22 info30 rfl (by decide) (by omega) v345 y344 l0 _ _ _ (fun k_ => some k_ ≠ (v331 : Value).ownBlock ∧ some k_ ≠ (v335 : Value).ownBlock ∧ some k_ ≠ (v339 : Value).ownBlock) (fun _ => False) rfl rfl ?aO ?aR (fun _ _ h => h) (fun _ h => h.elim) ?aF ?aB ?aS ?aL ?_; (case aR => repeat (first | exact (Kd.C_below HR0.out HB.out) | (with_reducible refine Kd.C_alloc ?_ _) | (with_reducible refine Kd.C_drewN ?_ _) | (with_reducible refine Kd.C_drew ?_))); (case aB => exact (by repeat (first | (with_reducible first | exact HB.out | apply below_alloc | apply pw_below_drewN | apply below_drew1) | exact HB.out))); (case aF => exact (fun k_ hk => ⟨Kd.fresh' (Kd.R_lt (by (with_reducible repeat (first | apply Kd.R_alloc | apply Kd.R_drewN | apply Kd.R_drew)); exact HO332.out)) k_ hk, Kd.fresh' (Kd.R_lt (by (with_reducible repeat (first | apply Kd.R_alloc | apply Kd.R_drewN | apply Kd.R_drew)); exact HO336.out)) k_ hk, Kd.fresh' (Kd.R_lt (by (with_reducible repeat (first | apply Kd.R_alloc | apply Kd.R_drewN | apply Kd.R_drew)); exact HO340.out)) k_ hk⟩)); (case aO => exact (by (with_reducible repeat (first | apply Kd.R_alloc | apply Kd.R_drewN | apply Kd.R_drew)); exact HO346.out)); (case aS => exact (below_size (by repeat (first | (with_reducible first | exact HB.out | apply below_alloc | apply pw_below_drewN | apply below_drew1) | exact HB.out)))); (case aL => have := LMc19.out; omega); intro v348 w30 ho hb hg hat; rw [← Ny347.out] at ho; have n0_ := Aside0.mk (Kd.R_after (ok := (fun k_ => some k_ ≠ (v335 : Value).ownBlock ∧ some k_ ≠ (v339 : Value).ownBlock)) (by (with_reducible repeat (first | apply Kd.R_alloc | apply Kd.R_drewN | apply Kd.R_drew)); exact HO332.out) hg hat); have n1_ := Aside0.mk (Kd.R_after (ok := (fun k_ => some k_ ≠ (v331 : Value).ownBlock ∧ some k_ ≠ (v339 : Value).ownBlock)) (by (with_reducible repeat (first | apply Kd.R_alloc | apply Kd.R_drewN | apply Kd.R_drew)); exact HO336.out) hg hat); have n2_ := Aside0.mk (Kd.R_after (ok := (fun k_ => some k_ ≠ (v331 : Value).ownBlock ∧ some k_ ≠ (v335 : Value).ownBlock)) (by (with_reducible repeat (first | apply Kd.R_alloc | apply Kd.R_drewN | apply Kd.R_drew)); exact HO340.out) hg hat); have n3_ := Aside0.mk (hb); have n4_ := Aside0.mk (ho); clear HO332; clear HO336; clear HO340; clear HB; clear HO346; have HO332 := n0_; have HO336 := n1_; have HO340 := n2_; have HB := n3_; have HO349 := n4_; clear n0_ n1_ n2_ n3_ n4_; clear ho hb hg hat; obtain ⟨Ao31, co31, eo31⟩ := Kd.R_slice HO349.out; subst eo31) | ((with_reducible refine gate_callee (f := 11) rfl ?_); refine goesL_ (some 52) rfl rfl Try.func11 (by kernel_rfl) rfl #[.slice Ao31 y347.length co31] rfl (by (try simp only [List.map_toArray, List.map_cons, List.map_nil]); first | done | rfl | (simp only [List.length_drop, List.length_take]; rfl)) ?_; (with_reducible refine (span_Normal.calls _ _ y347 t350 t351 _ ?side1 ?side2 A20.out).mono ?_); (case side1 => repeat (first | exact (Kd.R_reads' HO349.out).2.2 | (with_reducible refine Kd.C_alloc ?_ _) | (with_reducible refine Kd.C_drewN ?_ _) | (with_reducible refine Kd.C_drew ?_))); (case side2 => exact (Kd.R_reads' HO349.out).2.1); rintro e w32 ⟨v352, rfl, ho0, hb⟩; refine ⟨_, rfl, ?_⟩; have n0_ := Aside0.mk (Kd.R_elder' (by (with_reducible repeat (first | apply Kd.R_alloc | apply Kd.R_drewN | apply Kd.R_drew)); exact HO332.out) (Kd.R_base ho0) hb); have n1_ := Aside0.mk (Kd.R_elder' (by (with_reducible repeat (first | apply Kd.R_alloc | apply Kd.R_drewN | apply Kd.R_drew)); exact HO336.out) (Kd.R_base ho0) hb); have n2_ := Aside0.mk (Kd.R_elder' (by (with_reducible repeat (first | apply Kd.R_alloc | apply Kd.R_drewN | apply Kd.R_drew)); exact HO340.out) (Kd.R_base ho0) hb); have n3_ := Aside0.mk (Kd.R_elder' (by (with_reducible repeat (first | apply Kd.R_alloc | apply Kd.R_drewN | apply Kd.R_drew)); exact HO349.out) (Kd.R_base ho0) hb); have n4_ := Aside0.mk (Kd.R_lower (Kd.R_new' (Kd.R_new' (Kd.R_new' (Kd.R_new' ho0 (Kd.R_lt (by (with_reducible repeat (first | apply Kd.R_alloc | apply Kd.R_drewN | apply Kd.R_drew)); exact HO332.out))) (Kd.R_lt (by (with_reducible repeat (first | apply Kd.R_alloc | apply Kd.R_drewN | apply Kd.R_drew)); exact HO336.out))) (Kd.R_lt (by (with_reducible repeat (first | apply Kd.R_alloc | apply Kd.R_drewN | apply Kd.R_drew)); exact HO340.out))) (Kd.R_lt (by (with_reducible repeat (first | apply Kd.R_alloc | apply Kd.R_drewN | apply Kd.R_drew)); exact HO349.out))) (below_size (by repeat (first | (with_reducible first | exact HB.out | apply below_alloc | apply pw_below_drewN | apply below_drew1) | exact HB.out)))); have n5_ := Aside0.mk (below_step (by repeat (first | (with_reducible first | exact HB.out | apply below_alloc | apply pw_below_drewN | apply below_drew1) | exact HB.out)) hb); clear HO332; clear HO336; clear HO340; clear HO349; clear HB; have HO332 := n0_; have HO336 := n1_; have HO340 := n2_; have HO349 := n3_; have HO353 := n4_; have HB := n5_; clear n0_ n1_ n2_ n3_ n4_ n5_; (try clear hb); (try clear hb2); (try clear hk); (try clear hi); (try clear ho0)) | ((with_reducible refine gate_callee (f := 27) rfl ?_); refine goesL_ (some 57) rfl rfl Try.func27 (by kernel_rfl) rfl #[.slice A0 l0.length c0, .int .i64 a2] rfl (by (try simp only [List.map_toArray, List.map_cons, List.map_nil]); first | done | rfl | (simp only [List.length_drop, List.length_take]; rfl)) ?_; (with_reducible refine (cohousinglaw04_has.calls kj4 _ _ l0 a2 t354 _ ?side1 ?side2 A21.out).mono ?_); (case side1 => repeat (first | exact (Kd.C_below HR0.out HB.out) | (with_reducible refine Kd.C_alloc ?_ _) | (with_reducible refine Kd.C_drewN ?_ _) | (with_reducible refine Kd.C_drew ?_))); (case side2 => exact HC0.out); rintro e w33 ⟨rfl, hb⟩; refine ⟨_, rfl, ?_⟩; have n0_ := Aside0.mk (Kd.R_below (by (with_reducible repeat (first | apply Kd.R_alloc | apply Kd.R_drewN | apply Kd.R_drew)); exact HO332.out) hb); have n1_ := Aside0.mk (Kd.R_below (by (with_reducible repeat (first | apply Kd.R_alloc | apply Kd.R_drewN | apply Kd.R_drew)); exact HO336.out) hb); have n2_ := Aside0.mk (Kd.R_below (by (with_reducible repeat (first | apply Kd.R_alloc | apply Kd.R_drewN | apply Kd.R_drew)); exact HO340.out) hb); have n3_ := Aside0.mk (Kd.R_below (by (with_reducible repeat (first | apply Kd.R_alloc | apply Kd.R_drewN | apply Kd.R_drew)); exact HO349.out) hb); have n4_ := Aside0.mk (Kd.R_below (by (with_reducible repeat (first | apply Kd.R_alloc | apply Kd.R_drewN | apply Kd.R_drew)); exact HO353.out) hb); have n5_ := Aside0.mk (below_step (by repeat (first | (with_reducible first | exact HB.out | apply below_alloc | apply pw_below_drewN | apply below_drew1) | exact HB.out)) hb); clear HO332; clear HO336; clear HO340; clear HO349; clear HO353; clear HB; have HO332 := n0_; have HO336 := n1_; have HO340 := n2_; have HO349 := n3_; have HO353 := n4_; have HB := n5_; clear n0_ n1_ n2_ n3_ n4_ n5_; (try clear hb); (try clear hb2); (try clear hk); (try clear hi)) | ((with_reducible refine gate_callee (f := 27) rfl ?_); refine goesL_ (some 60) rfl rfl Try.func27 (by kernel_rfl) rfl #[.slice A1 l1.length c1, .int .i64 a2] rfl (by (try simp only [List.map_toArray, List.map_cons, List.map_nil]); first | done | rfl | (simp only [List.length_drop, List.length_take]; rfl)) ?_; (with_reducible refine (cohousinglaw04_has.calls kj4 _ _ l1 a2 t355 _ ?side1 ?side2 A22.out).mono ?_); (case side1 => repeat (first | exact (Kd.C_below HR1.out HB.out) | (with_reducible refine Kd.C_alloc ?_ _) | (with_reducible refine Kd.C_drewN ?_ _) | (with_reducible refine Kd.C_drew ?_))); (case side2 => exact HC1.out); rintro e w34 ⟨rfl, hb⟩; refine ⟨_, rfl, ?_⟩; have n0_ := Aside0.mk (Kd.R_below (by (with_reducible repeat (first | apply Kd.R_alloc | apply Kd.R_drewN | apply Kd.R_drew)); exact HO332.out) hb); have n1_ := Aside0.mk (Kd.R_below (by (with_reducible repeat (first | apply Kd.R_alloc | apply Kd.R_drewN | apply Kd.R_drew)); exact HO336.out) hb); have n2_ := Aside0.mk (Kd.R_below (by (with_reducible repeat (first | apply Kd.R_alloc | apply Kd.R_drewN | apply Kd.R_drew)); exact HO340.out) hb); have n3_ := Aside0.mk (Kd.R_below (by (with_reducible repeat (first | apply Kd.R_alloc | apply Kd.R_drewN | apply Kd.R_drew)); exact HO349.out) hb); have n4_ := Aside0.mk (Kd.R_below (by (with_reducible repeat (first | apply Kd.R_alloc | apply Kd.R_drewN | apply Kd.R_drew)); exact HO353.out) hb); have n5_ := Aside0.mk (below_step (by repeat (first | (with_reducible first | exact HB.out | apply below_alloc | apply pw_below_drewN | apply below_drew1) | exact HB.out)) hb); clear HO332; clear HO336; clear HO340; clear HO349; clear HO353; clear HB; have HO332 := n0_; have HO336 := n1_; have HO340 := n2_; have HO349 := n3_; have HO353 := n4_; have HB := n5_; clear n0_ n1_ n2_ n3_ n4_ n5_; (try clear hb); (try clear hb2); (try clear hk); (try clear hi)))
            (try simp only [Act.put, List.setIfInBounds_toArray, List.set_cons_zero, List.set_cons_succ])
            go_cut [74] (fun v74 wc => ∃ (kq : Nat) (x74_22 : Bool), v74 = .bool x74_22 ∧ Aside0 (cohousinglaw04_SpanDays.j1 kq l0 l1 a2 t326 t329 t330 t333 t334 t337 t338 t350 t351 t354 t355 x74_22 = some r) ∧ Aside0 (kq ≤ kj4) ∧ Aside0 (Kd.R k30 30 wc w.heap.size (fun k_ => some k_ ≠ (v335 : Value).ownBlock ∧ some k_ ≠ (v339 : Value).ownBlock ∧ some k_ ≠ (v352 : Value).ownBlock) v331 t329) ∧ Aside0 (Kd.R k30 30 wc w.heap.size (fun k_ => some k_ ≠ (v331 : Value).ownBlock ∧ some k_ ≠ (v339 : Value).ownBlock ∧ some k_ ≠ (v352 : Value).ownBlock) v335 t333) ∧ Aside0 (Kd.R k30 30 wc w.heap.size (fun k_ => some k_ ≠ (v331 : Value).ownBlock ∧ some k_ ≠ (v335 : Value).ownBlock ∧ some k_ ≠ (v352 : Value).ownBlock) v339 t337) ∧ Aside0 (Kd.R k30 30 wc w.heap.size (fun k_ => some k_ ≠ (v331 : Value).ownBlock ∧ some k_ ≠ (v335 : Value).ownBlock ∧ some k_ ≠ (v339 : Value).ownBlock) v352 t350) ∧ Aside0 (Below w.heap.size w wc))
            case first =>
              have H := HC23.out
              clear HC23
              by_cases c35 : t330 = 0
              · rw [if_pos c35] at H
                have c35b0 : (t330 == 0) = true := beq_iff_eq.mpr c35
                have c35b1 : (t330 != 0) = false := bne_eq_false_iff_eq.mpr c35
                clear c35
                (first | rw [c35b0] | (simp only [i64_w, i32_w]; rw [c35b0]) | skip)
                by_cases c36 : t334 = 0
                · rw [if_pos c36] at H
                  have c36b0 : (t334 == 0) = true := beq_iff_eq.mpr c36
                  have c36b1 : (t334 != 0) = false := bne_eq_false_iff_eq.mpr c36
                  clear c36
                  by_cases c37 : t338 = 0
                  · rw [if_pos c37] at H
                    have c37b0 : (t338 == 0) = true := beq_iff_eq.mpr c37
                    have c37b1 : (t338 != 0) = false := bne_eq_false_iff_eq.mpr c37
                    clear c37
                    have H' := Aside0.mk H
                    clear H
                    go_wp2
                    go_meet
                    case rel => exact ⟨_, ((t351 != 0)), (by first | rfl | (simp; done) | (simp [*]; done)), H', ⟨by have := HJ4.out; first | omega | exact Nat.le_refl _⟩, ⟨by (with_reducible repeat (first | apply Kd.R_alloc | apply Kd.R_drewN | apply Kd.R_drew)); exact Kd.R_mono HO332.out (fun _ hk => ⟨hk.1.1.1, ⟨hk.1.1.2, hk.2⟩⟩)⟩, ⟨by (with_reducible repeat (first | apply Kd.R_alloc | apply Kd.R_drewN | apply Kd.R_drew)); exact Kd.R_mono HO336.out (fun _ hk => ⟨hk.1.1.1, ⟨hk.1.1.2, hk.2⟩⟩)⟩, ⟨by (with_reducible repeat (first | apply Kd.R_alloc | apply Kd.R_drewN | apply Kd.R_drew)); exact Kd.R_mono HO340.out (fun _ hk => ⟨hk.1.1.1, ⟨hk.1.1.2, hk.2⟩⟩)⟩, ⟨by (with_reducible repeat (first | apply Kd.R_alloc | apply Kd.R_drewN | apply Kd.R_drew)); exact Kd.R_mono HO353.out (fun _ hk => ⟨hk.1.1.1.2, ⟨hk.1.1.2, hk.1.2⟩⟩)⟩, ⟨by repeat (first | (with_reducible first | exact HB.out | apply below_alloc | apply pw_below_drewN | apply below_drew1) | exact HB.out)⟩⟩
                  · rw [if_neg c37] at H
                    have c37b0 : (t338 == 0) = false := beq_eq_false_iff_ne.mpr c37
                    have c37b1 : (t338 != 0) = true := bne_iff_ne.mpr c37
                    have H' := Aside0.mk H
                    clear H
                    go_wp2
                    go_meet
                    case rel => exact ⟨_, (true), (by first | rfl | (simp; done) | (simp [*]; done)), H', ⟨by have := HJ4.out; first | omega | exact Nat.le_refl _⟩, ⟨by (with_reducible repeat (first | apply Kd.R_alloc | apply Kd.R_drewN | apply Kd.R_drew)); exact Kd.R_mono HO332.out (fun _ hk => ⟨hk.1.1.1, ⟨hk.1.1.2, hk.2⟩⟩)⟩, ⟨by (with_reducible repeat (first | apply Kd.R_alloc | apply Kd.R_drewN | apply Kd.R_drew)); exact Kd.R_mono HO336.out (fun _ hk => ⟨hk.1.1.1, ⟨hk.1.1.2, hk.2⟩⟩)⟩, ⟨by (with_reducible repeat (first | apply Kd.R_alloc | apply Kd.R_drewN | apply Kd.R_drew)); exact Kd.R_mono HO340.out (fun _ hk => ⟨hk.1.1.1, ⟨hk.1.1.2, hk.2⟩⟩)⟩, ⟨by (with_reducible repeat (first | apply Kd.R_alloc | apply Kd.R_drewN | apply Kd.R_drew)); exact Kd.R_mono HO353.out (fun _ hk => ⟨hk.1.1.1.2, ⟨hk.1.1.2, hk.1.2⟩⟩)⟩, ⟨by repeat (first | (with_reducible first | exact HB.out | apply below_alloc | apply pw_below_drewN | apply below_drew1) | exact HB.out)⟩⟩
                · rw [if_neg c36] at H
                  have c36b0 : (t334 == 0) = false := beq_eq_false_iff_ne.mpr c36
                  have c36b1 : (t334 != 0) = true := bne_iff_ne.mpr c36
                  have H' := Aside0.mk H
                  clear H
                  go_wp2
                  go_meet
                  case rel => exact ⟨_, (true), (by first | rfl | (simp; done) | (simp [*]; done)), H', ⟨by have := HJ4.out; first | omega | exact Nat.le_refl _⟩, ⟨by (with_reducible repeat (first | apply Kd.R_alloc | apply Kd.R_drewN | apply Kd.R_drew)); exact Kd.R_mono HO332.out (fun _ hk => ⟨hk.1.1.1, ⟨hk.1.1.2, hk.2⟩⟩)⟩, ⟨by (with_reducible repeat (first | apply Kd.R_alloc | apply Kd.R_drewN | apply Kd.R_drew)); exact Kd.R_mono HO336.out (fun _ hk => ⟨hk.1.1.1, ⟨hk.1.1.2, hk.2⟩⟩)⟩, ⟨by (with_reducible repeat (first | apply Kd.R_alloc | apply Kd.R_drewN | apply Kd.R_drew)); exact Kd.R_mono HO340.out (fun _ hk => ⟨hk.1.1.1, ⟨hk.1.1.2, hk.2⟩⟩)⟩, ⟨by (with_reducible repeat (first | apply Kd.R_alloc | apply Kd.R_drewN | apply Kd.R_drew)); exact Kd.R_mono HO353.out (fun _ hk => ⟨hk.1.1.1.2, ⟨hk.1.1.2, hk.1.2⟩⟩)⟩, ⟨by repeat (first | (with_reducible first | exact HB.out | apply below_alloc | apply pw_below_drewN | apply below_drew1) | exact HB.out)⟩⟩
              · rw [if_neg c35] at H
                have c35b0 : (t330 == 0) = false := beq_eq_false_iff_ne.mpr c35
                have c35b1 : (t330 != 0) = true := bne_iff_ne.mpr c35
                (first | rw [c35b0] | (simp only [i64_w, i32_w]; rw [c35b0]) | skip)
                have H' := Aside0.mk H
                clear H
                go_wp2
                go_meet
                case rel => exact ⟨_, (true), (by first | rfl | (simp; done) | (simp [*]; done)), H', ⟨by have := HJ4.out; first | omega | exact Nat.le_refl _⟩, ⟨by (with_reducible repeat (first | apply Kd.R_alloc | apply Kd.R_drewN | apply Kd.R_drew)); exact Kd.R_mono HO332.out (fun _ hk => ⟨hk.1.1.1, ⟨hk.1.1.2, hk.2⟩⟩)⟩, ⟨by (with_reducible repeat (first | apply Kd.R_alloc | apply Kd.R_drewN | apply Kd.R_drew)); exact Kd.R_mono HO336.out (fun _ hk => ⟨hk.1.1.1, ⟨hk.1.1.2, hk.2⟩⟩)⟩, ⟨by (with_reducible repeat (first | apply Kd.R_alloc | apply Kd.R_drewN | apply Kd.R_drew)); exact Kd.R_mono HO340.out (fun _ hk => ⟨hk.1.1.1, ⟨hk.1.1.2, hk.2⟩⟩)⟩, ⟨by (with_reducible repeat (first | apply Kd.R_alloc | apply Kd.R_drewN | apply Kd.R_drew)); exact Kd.R_mono HO353.out (fun _ hk => ⟨hk.1.1.1.2, ⟨hk.1.1.2, hk.1.2⟩⟩)⟩, ⟨by repeat (first | (with_reducible first | exact HB.out | apply below_alloc | apply pw_below_drewN | apply below_drew1) | exact HB.out)⟩⟩
            case rest =>
              clear HC23
              try clear c1
              try clear c2
              try clear p2
              try clear c3
              try clear c8
              try clear c9
              try clear c10
              try clear c11
              try clear c13
              try clear c14
              try clear c15
              try clear c16
              try clear c18
              try clear c19
              try clear c27
              try clear c35
              try clear c35b0
              try clear c35b1
              try clear c36
              try clear c36b0
              try clear c36b1
              try clear c37
              try clear c37b0
              try clear c37b1
              try clear p2
              obtain ⟨kq, x74_22, rfl, HA, HJ22, HO_8, HO_10, HO_12, HO_14, HB⟩ := hcut
              cases kq with
              | zero => exact absurd HA.out (by simp [cohousinglaw04_SpanDays.j1])
              | succ kj22 =>
                have H := HA.out
                clear HA
                simp only [cohousinglaw04_SpanDays.j1] at H
                by_cases c38 : x74_22 = true
                · subst c38
                  have H1 : (if t326 = true then (if (wrap64 ((l0.length : Int) + (l1.length : Int))) > 1000 then (if t330 = 0 then (if t334 = 0 then (if t338 = 0 then (if t351 = t330 then (some true) else (none)) else (if t338 = 2 then (if t351 = t330 then (some true) else (none)) else (none))) else (if t334 = 2 then (if t338 = 0 then (if t351 = t330 then (some true) else (none)) else (if t338 = 2 then (if t351 = t330 then (some true) else (none)) else (none))) else (none))) else (if t330 = 2 then (if t334 = 0 then (if t338 = 0 then (if t351 = t330 then (some true) else (none)) else (if t338 = 2 then (if t351 = t330 then (some true) else (none)) else (none))) else (if t334 = 2 then (if t338 = 0 then (if t351 = t330 then (some true) else (none)) else (if t338 = 2 then (if t351 = t330 then (some true) else (none)) else (none))) else (none))) else (none))) else (none)) else (none)) = some r := by rw [if_pos rfl] at H; exact H
                  clear H
                  have H := H1
                  clear H1
                  by_cases c39 : t326 = true
                  · subst c39
                    have H1 : (if (wrap64 ((l0.length : Int) + (l1.length : Int))) > 1000 then (if t330 = 0 then (if t334 = 0 then (if t338 = 0 then (if t351 = t330 then (some true) else (none)) else (if t338 = 2 then (if t351 = t330 then (some true) else (none)) else (none))) else (if t334 = 2 then (if t338 = 0 then (if t351 = t330 then (some true) else (none)) else (if t338 = 2 then (if t351 = t330 then (some true) else (none)) else (none))) else (none))) else (if t330 = 2 then (if t334 = 0 then (if t338 = 0 then (if t351 = t330 then (some true) else (none)) else (if t338 = 2 then (if t351 = t330 then (some true) else (none)) else (none))) else (if t334 = 2 then (if t338 = 0 then (if t351 = t330 then (some true) else (none)) else (if t338 = 2 then (if t351 = t330 then (some true) else (none)) else (none))) else (none))) else (none))) else (none)) = some r := by rw [if_pos rfl] at H; exact H
                    clear H
                    have H := H1
                    clear H1
                    by_cases c40 : (wrap64 ((l0.length : Int) + (l1.length : Int))) > 1000
                    · rw [if_pos c40] at H
                      have c40b0 : decide (1000 < (wrap64 ((l0.length : Int) + (l1.length : Int)))) = true := decide_eq_true c40
                      clear c40
                      by_cases c41 : t330 = 0
                      · rw [if_pos c41] at H
                        have c41b0 : (t330 == 0) = true := beq_iff_eq.mpr c41
                        have c41b1 : (t330 != 0) = false := bne_eq_false_iff_eq.mpr c41
                        clear c41
                        by_cases c42 : t334 = 0
                        · rw [if_pos c42] at H
                          have c42b0 : (t334 == 0) = true := beq_iff_eq.mpr c42
                          have c42b1 : (t334 != 0) = false := bne_eq_false_iff_eq.mpr c42
                          clear c42
                          by_cases c43 : t338 = 0
                          · rw [if_pos c43] at H
                            have c43b0 : (t338 == 0) = true := beq_iff_eq.mpr c43
                            have c43b1 : (t338 != 0) = false := bne_eq_false_iff_eq.mpr c43
                            clear c43
                            by_cases c44 : t351 = t330
                            · rw [if_pos c44] at H
                              have c44b0 : (t351 == t330) = true := beq_iff_eq.mpr c44
                              have c44b1 : (t351 != t330) = false := bne_eq_false_iff_eq.mpr c44
                              clear c44
                              obtain rfl := Option.some.inj H
                              go_wp2
                              go_ret
                              exact ⟨by first | rfl | (simp [errW_none, errW_some] <;> rfl) | (simp [*, errW_none, errW_some] <;> rfl), by repeat (first | (with_reducible first | exact HB.out | apply below_alloc | apply pw_below_drewN | apply below_drew1) | exact HB.out)⟩
                            · rw [if_neg c44] at H
                              exact absurd H (by simp)
                          · rw [if_neg c43] at H
                            have c43b0 : (t338 == 0) = false := beq_eq_false_iff_ne.mpr c43
                            have c43b1 : (t338 != 0) = true := bne_iff_ne.mpr c43
                            by_cases c45 : t338 = 2
                            · rw [if_pos c45] at H
                              have c45b0 : (t338 == 2) = true := beq_iff_eq.mpr c45
                              have c45b1 : (t338 != 2) = false := bne_eq_false_iff_eq.mpr c45
                              clear c45
                              by_cases c46 : t351 = t330
                              · rw [if_pos c46] at H
                                have c46b0 : (t351 == t330) = true := beq_iff_eq.mpr c46
                                have c46b1 : (t351 != t330) = false := bne_eq_false_iff_eq.mpr c46
                                clear c46
                                obtain rfl := Option.some.inj H
                                go_wp2
                                go_ret
                                exact ⟨by first | rfl | (simp [errW_none, errW_some] <;> rfl) | (simp [*, errW_none, errW_some] <;> rfl), by repeat (first | (with_reducible first | exact HB.out | apply below_alloc | apply pw_below_drewN | apply below_drew1) | exact HB.out)⟩
                              · rw [if_neg c46] at H
                                exact absurd H (by simp)
                            · rw [if_neg c45] at H
                              exact absurd H (by simp)
                        · rw [if_neg c42] at H
                          have c42b0 : (t334 == 0) = false := beq_eq_false_iff_ne.mpr c42
                          have c42b1 : (t334 != 0) = true := bne_iff_ne.mpr c42
                          by_cases c47 : t334 = 2
                          · rw [if_pos c47] at H
                            have c47b0 : (t334 == 2) = true := beq_iff_eq.mpr c47
                            have c47b1 : (t334 != 2) = false := bne_eq_false_iff_eq.mpr c47
                            clear c47
                            by_cases c48 : t338 = 0
                            · rw [if_pos c48] at H
                              have c48b0 : (t338 == 0) = true := beq_iff_eq.mpr c48
                              have c48b1 : (t338 != 0) = false := bne_eq_false_iff_eq.mpr c48
                              clear c48
                              by_cases c49 : t351 = t330
                              · rw [if_pos c49] at H
                                have c49b0 : (t351 == t330) = true := beq_iff_eq.mpr c49
                                have c49b1 : (t351 != t330) = false := bne_eq_false_iff_eq.mpr c49
                                clear c49
                                obtain rfl := Option.some.inj H
                                go_wp2
                                go_ret
                                exact ⟨by first | rfl | (simp [errW_none, errW_some] <;> rfl) | (simp [*, errW_none, errW_some] <;> rfl), by repeat (first | (with_reducible first | exact HB.out | apply below_alloc | apply pw_below_drewN | apply below_drew1) | exact HB.out)⟩
                              · rw [if_neg c49] at H
                                exact absurd H (by simp)
                            · rw [if_neg c48] at H
                              have c48b0 : (t338 == 0) = false := beq_eq_false_iff_ne.mpr c48
                              have c48b1 : (t338 != 0) = true := bne_iff_ne.mpr c48
                              by_cases c50 : t338 = 2
                              · rw [if_pos c50] at H
                                have c50b0 : (t338 == 2) = true := beq_iff_eq.mpr c50
                                have c50b1 : (t338 != 2) = false := bne_eq_false_iff_eq.mpr c50
                                clear c50
                                by_cases c51 : t351 = t330
                                · rw [if_pos c51] at H
                                  have c51b0 : (t351 == t330) = true := beq_iff_eq.mpr c51
                                  have c51b1 : (t351 != t330) = false := bne_eq_false_iff_eq.mpr c51
                                  clear c51
                                  obtain rfl := Option.some.inj H
                                  go_wp2
                                  go_ret
                                  exact ⟨by first | rfl | (simp [errW_none, errW_some] <;> rfl) | (simp [*, errW_none, errW_some] <;> rfl), by repeat (first | (with_reducible first | exact HB.out | apply below_alloc | apply pw_below_drewN | apply below_drew1) | exact HB.out)⟩
                                · rw [if_neg c51] at H
                                  exact absurd H (by simp)
                              · rw [if_neg c50] at H
                                exact absurd H (by simp)
                          · rw [if_neg c47] at H
                            exact absurd H (by simp)
                      · rw [if_neg c41] at H
                        have c41b0 : (t330 == 0) = false := beq_eq_false_iff_ne.mpr c41
                        have c41b1 : (t330 != 0) = true := bne_iff_ne.mpr c41
                        by_cases c52 : t330 = 2
                        · rw [if_pos c52] at H
                          have c52b0 : (t330 == 2) = true := beq_iff_eq.mpr c52
                          have c52b1 : (t330 != 2) = false := bne_eq_false_iff_eq.mpr c52
                          clear c52
                          by_cases c53 : t334 = 0
                          · rw [if_pos c53] at H
                            have c53b0 : (t334 == 0) = true := beq_iff_eq.mpr c53
                            have c53b1 : (t334 != 0) = false := bne_eq_false_iff_eq.mpr c53
                            clear c53
                            by_cases c54 : t338 = 0
                            · rw [if_pos c54] at H
                              have c54b0 : (t338 == 0) = true := beq_iff_eq.mpr c54
                              have c54b1 : (t338 != 0) = false := bne_eq_false_iff_eq.mpr c54
                              clear c54
                              by_cases c55 : t351 = t330
                              · rw [if_pos c55] at H
                                have c55b0 : (t351 == t330) = true := beq_iff_eq.mpr c55
                                have c55b1 : (t351 != t330) = false := bne_eq_false_iff_eq.mpr c55
                                clear c55
                                obtain rfl := Option.some.inj H
                                go_wp2
                                go_ret
                                exact ⟨by first | rfl | (simp [errW_none, errW_some] <;> rfl) | (simp [*, errW_none, errW_some] <;> rfl), by repeat (first | (with_reducible first | exact HB.out | apply below_alloc | apply pw_below_drewN | apply below_drew1) | exact HB.out)⟩
                              · rw [if_neg c55] at H
                                exact absurd H (by simp)
                            · rw [if_neg c54] at H
                              have c54b0 : (t338 == 0) = false := beq_eq_false_iff_ne.mpr c54
                              have c54b1 : (t338 != 0) = true := bne_iff_ne.mpr c54
                              by_cases c56 : t338 = 2
                              · rw [if_pos c56] at H
                                have c56b0 : (t338 == 2) = true := beq_iff_eq.mpr c56
                                have c56b1 : (t338 != 2) = false := bne_eq_false_iff_eq.mpr c56
                                clear c56
                                by_cases c57 : t351 = t330
                                · rw [if_pos c57] at H
                                  have c57b0 : (t351 == t330) = true := beq_iff_eq.mpr c57
                                  have c57b1 : (t351 != t330) = false := bne_eq_false_iff_eq.mpr c57
                                  clear c57
                                  obtain rfl := Option.some.inj H
                                  go_wp2
                                  go_ret
                                  exact ⟨by first | rfl | (simp [errW_none, errW_some] <;> rfl) | (simp [*, errW_none, errW_some] <;> rfl), by repeat (first | (with_reducible first | exact HB.out | apply below_alloc | apply pw_below_drewN | apply below_drew1) | exact HB.out)⟩
                                · rw [if_neg c57] at H
                                  exact absurd H (by simp)
                              · rw [if_neg c56] at H
                                exact absurd H (by simp)
                          · rw [if_neg c53] at H
                            have c53b0 : (t334 == 0) = false := beq_eq_false_iff_ne.mpr c53
                            have c53b1 : (t334 != 0) = true := bne_iff_ne.mpr c53
                            by_cases c58 : t334 = 2
                            · rw [if_pos c58] at H
                              have c58b0 : (t334 == 2) = true := beq_iff_eq.mpr c58
                              have c58b1 : (t334 != 2) = false := bne_eq_false_iff_eq.mpr c58
                              clear c58
                              by_cases c59 : t338 = 0
                              · rw [if_pos c59] at H
                                have c59b0 : (t338 == 0) = true := beq_iff_eq.mpr c59
                                have c59b1 : (t338 != 0) = false := bne_eq_false_iff_eq.mpr c59
                                clear c59
                                by_cases c60 : t351 = t330
                                · rw [if_pos c60] at H
                                  have c60b0 : (t351 == t330) = true := beq_iff_eq.mpr c60
                                  have c60b1 : (t351 != t330) = false := bne_eq_false_iff_eq.mpr c60
                                  clear c60
                                  obtain rfl := Option.some.inj H
                                  go_wp2
                                  go_ret
                                  exact ⟨by first | rfl | (simp [errW_none, errW_some] <;> rfl) | (simp [*, errW_none, errW_some] <;> rfl), by repeat (first | (with_reducible first | exact HB.out | apply below_alloc | apply pw_below_drewN | apply below_drew1) | exact HB.out)⟩
                                · rw [if_neg c60] at H
                                  exact absurd H (by simp)
                              · rw [if_neg c59] at H
                                have c59b0 : (t338 == 0) = false := beq_eq_false_iff_ne.mpr c59
                                have c59b1 : (t338 != 0) = true := bne_iff_ne.mpr c59
                                by_cases c61 : t338 = 2
                                · rw [if_pos c61] at H
                                  have c61b0 : (t338 == 2) = true := beq_iff_eq.mpr c61
                                  have c61b1 : (t338 != 2) = false := bne_eq_false_iff_eq.mpr c61
                                  clear c61
                                  by_cases c62 : t351 = t330
                                  · rw [if_pos c62] at H
                                    have c62b0 : (t351 == t330) = true := beq_iff_eq.mpr c62
                                    have c62b1 : (t351 != t330) = false := bne_eq_false_iff_eq.mpr c62
                                    clear c62
                                    obtain rfl := Option.some.inj H
                                    go_wp2
                                    go_ret
                                    exact ⟨by first | rfl | (simp [errW_none, errW_some] <;> rfl) | (simp [*, errW_none, errW_some] <;> rfl), by repeat (first | (with_reducible first | exact HB.out | apply below_alloc | apply pw_below_drewN | apply below_drew1) | exact HB.out)⟩
                                  · rw [if_neg c62] at H
                                    exact absurd H (by simp)
                                · rw [if_neg c61] at H
                                  exact absurd H (by simp)
                            · rw [if_neg c58] at H
                              exact absurd H (by simp)
                        · rw [if_neg c52] at H
                          exact absurd H (by simp)
                    · rw [if_neg c40] at H
                      exact absurd H (by simp)
                  · replace c39 := Bool.eq_false_iff.mpr c39
                    subst c39
                    have H1 : (none) = some r := by rw [if_neg (show ¬ (false = true) by decide)] at H; exact H
                    clear H
                    have H := H1
                    clear H1
                    exact absurd H (by simp)
                · replace c38 := Bool.eq_false_iff.mpr c38
                  subst c38
                  have H1 : ((span_Valid.f kj22 t329).bind fun t356 => (if t356 = true then ((span_Valid.f kj22 t333).bind fun t357 => (if t357 = true then ((span_Valid.f kj22 t337).bind fun t358 => (if t358 = true then ((span_Valid.f kj22 t350).bind fun t359 => (cohousinglaw04_SpanDays.j2 kj22 a2 t326 t329 t333 t337 t350 t354 t355 (!t359))) else (cohousinglaw04_SpanDays.j2 kj22 a2 t326 t329 t333 t337 t350 t354 t355 true))) else (cohousinglaw04_SpanDays.j2 kj22 a2 t326 t329 t333 t337 t350 t354 t355 true))) else (cohousinglaw04_SpanDays.j2 kj22 a2 t326 t329 t333 t337 t350 t354 t355 true))) = some r := by rw [if_neg (show ¬ (false = true) by decide)] at H; exact H
                  clear H
                  have H := H1
                  clear H1
                  have HC63 := Aside0.mk H
                  clear H
                  go_upto_region 11 with (fail)
                  go_cut [130] (fun v130 wc => ∃ (kq : Nat) (x130_62 : Bool), v130 = .bool x130_62 ∧ Aside0 (cohousinglaw04_SpanDays.j2 kq a2 t326 t329 t333 t337 t350 t354 t355 x130_62 = some r) ∧ Aside0 (kq ≤ kj22) ∧ Aside0 (Kd.R k30 30 wc w.heap.size (fun k_ => some k_ ≠ (v335 : Value).ownBlock ∧ some k_ ≠ (v339 : Value).ownBlock ∧ some k_ ≠ (v352 : Value).ownBlock) v331 t329) ∧ Aside0 (Kd.R k30 30 wc w.heap.size (fun k_ => some k_ ≠ (v331 : Value).ownBlock ∧ some k_ ≠ (v339 : Value).ownBlock ∧ some k_ ≠ (v352 : Value).ownBlock) v335 t333) ∧ Aside0 (Kd.R k30 30 wc w.heap.size (fun k_ => some k_ ≠ (v331 : Value).ownBlock ∧ some k_ ≠ (v335 : Value).ownBlock ∧ some k_ ≠ (v352 : Value).ownBlock) v339 t337) ∧ Aside0 (Kd.R k30 30 wc w.heap.size (fun k_ => some k_ ≠ (v331 : Value).ownBlock ∧ some k_ ≠ (v335 : Value).ownBlock ∧ some k_ ≠ (v339 : Value).ownBlock) v352 t350) ∧ Aside0 (Below w.heap.size w wc))
                  case first =>
                    have H := HC63.out
                    clear HC63
                    replace H := Option.bind_eq_some_iff.mp H
                    obtain ⟨t356, A640, H⟩ := H
                    replace H : (if t356 = true then ((span_Valid.f kj22 t333).bind fun t357 => (if t357 = true then ((span_Valid.f kj22 t337).bind fun t358 => (if t358 = true then ((span_Valid.f kj22 t350).bind fun t359 => (cohousinglaw04_SpanDays.j2 kj22 a2 t326 t329 t333 t337 t350 t354 t355 (!t359))) else (cohousinglaw04_SpanDays.j2 kj22 a2 t326 t329 t333 t337 t350 t354 t355 true))) else (cohousinglaw04_SpanDays.j2 kj22 a2 t326 t329 t333 t337 t350 t354 t355 true))) else (cohousinglaw04_SpanDays.j2 kj22 a2 t326 t329 t333 t337 t350 t354 t355 true)) = some r := H
                    have A64 := Aside0.mk A640
                    clear A640
                    by_cases c65 : t356 = true
                    · subst c65
                      have H1 : ((span_Valid.f kj22 t333).bind fun t357 => (if t357 = true then ((span_Valid.f kj22 t337).bind fun t358 => (if t358 = true then ((span_Valid.f kj22 t350).bind fun t359 => (cohousinglaw04_SpanDays.j2 kj22 a2 t326 t329 t333 t337 t350 t354 t355 (!t359))) else (cohousinglaw04_SpanDays.j2 kj22 a2 t326 t329 t333 t337 t350 t354 t355 true))) else (cohousinglaw04_SpanDays.j2 kj22 a2 t326 t329 t333 t337 t350 t354 t355 true))) = some r := by rw [if_pos rfl] at H; exact H
                      clear H
                      have H := H1
                      clear H1
                      replace H := Option.bind_eq_some_iff.mp H
                      obtain ⟨t357, A660, H⟩ := H
                      replace H : (if t357 = true then ((span_Valid.f kj22 t337).bind fun t358 => (if t358 = true then ((span_Valid.f kj22 t350).bind fun t359 => (cohousinglaw04_SpanDays.j2 kj22 a2 t326 t329 t333 t337 t350 t354 t355 (!t359))) else (cohousinglaw04_SpanDays.j2 kj22 a2 t326 t329 t333 t337 t350 t354 t355 true))) else (cohousinglaw04_SpanDays.j2 kj22 a2 t326 t329 t333 t337 t350 t354 t355 true)) = some r := H
                      have A66 := Aside0.mk A660
                      clear A660
                      by_cases c67 : t357 = true
                      · subst c67
                        have H1 : ((span_Valid.f kj22 t337).bind fun t358 => (if t358 = true then ((span_Valid.f kj22 t350).bind fun t359 => (cohousinglaw04_SpanDays.j2 kj22 a2 t326 t329 t333 t337 t350 t354 t355 (!t359))) else (cohousinglaw04_SpanDays.j2 kj22 a2 t326 t329 t333 t337 t350 t354 t355 true))) = some r := by rw [if_pos rfl] at H; exact H
                        clear H
                        have H := H1
                        clear H1
                        replace H := Option.bind_eq_some_iff.mp H
                        obtain ⟨t358, A680, H⟩ := H
                        replace H : (if t358 = true then ((span_Valid.f kj22 t350).bind fun t359 => (cohousinglaw04_SpanDays.j2 kj22 a2 t326 t329 t333 t337 t350 t354 t355 (!t359))) else (cohousinglaw04_SpanDays.j2 kj22 a2 t326 t329 t333 t337 t350 t354 t355 true)) = some r := H
                        have A68 := Aside0.mk A680
                        clear A680
                        by_cases c69 : t358 = true
                        · subst c69
                          have H1 : ((span_Valid.f kj22 t350).bind fun t359 => (cohousinglaw04_SpanDays.j2 kj22 a2 t326 t329 t333 t337 t350 t354 t355 (!t359))) = some r := by rw [if_pos rfl] at H; exact H
                          clear H
                          have H := H1
                          clear H1
                          replace H := Option.bind_eq_some_iff.mp H
                          obtain ⟨t359, A700, H⟩ := H
                          replace H : (cohousinglaw04_SpanDays.j2 kj22 a2 t326 t329 t333 t337 t350 t354 t355 (!t359)) = some r := H
                          have A70 := Aside0.mk A700
                          clear A700
                          have H' := Aside0.mk H
                          clear H
                          obtain ⟨Ao71, co71, eo71⟩ := Kd.R_slice HO_8.out
                          subst eo71
                          go_wp2_with (first | ((with_reducible refine gate_callee (f := 10) rfl ?_); refine goesL_ (some 114) rfl rfl Try.func10 (by kernel_rfl) rfl #[.slice Ao71 t329.length co71] rfl (by (try simp only [List.map_toArray, List.map_cons, List.map_nil]); first | done | rfl | (simp only [List.length_drop, List.length_take]; rfl)) ?_; (with_reducible refine (span_Valid.calls kj22 _ _ t329 true _ ?side1 ?side2 A64.out).mono ?_); (case side1 => repeat (first | exact (Kd.R_reads' HO_8.out).2.2 | (with_reducible refine Kd.C_alloc ?_ _) | (with_reducible refine Kd.C_drewN ?_ _) | (with_reducible refine Kd.C_drew ?_))); (case side2 => exact (Kd.R_reads' HO_8.out).2.1); rintro e w72 ⟨rfl, hb⟩; refine ⟨_, rfl, ?_⟩; have n0_ := Aside0.mk (Kd.R_below (by (with_reducible repeat (first | apply Kd.R_alloc | apply Kd.R_drewN | apply Kd.R_drew)); exact HO_8.out) hb); have n1_ := Aside0.mk (Kd.R_below (by (with_reducible repeat (first | apply Kd.R_alloc | apply Kd.R_drewN | apply Kd.R_drew)); exact HO_10.out) hb); have n2_ := Aside0.mk (Kd.R_below (by (with_reducible repeat (first | apply Kd.R_alloc | apply Kd.R_drewN | apply Kd.R_drew)); exact HO_12.out) hb); have n3_ := Aside0.mk (Kd.R_below (by (with_reducible repeat (first | apply Kd.R_alloc | apply Kd.R_drewN | apply Kd.R_drew)); exact HO_14.out) hb); have n4_ := Aside0.mk (below_step (by repeat (first | (with_reducible first | exact HB.out | apply below_alloc | apply pw_below_drewN | apply below_drew1) | exact HB.out)) hb); clear HO_8; clear HO_10; clear HO_12; clear HO_14; clear HB; have HO_8 := n0_; have HO_10 := n1_; have HO_12 := n2_; have HO_14 := n3_; have HB := n4_; clear n0_ n1_ n2_ n3_ n4_; (try clear hb); (try clear hb2); (try clear hk); (try clear hi); obtain ⟨Ao73, co73, eo73⟩ := Kd.R_slice HO_10.out; subst eo73) | (go_at_call 10; (with_reducible refine (span_Valid.calls kj22 _ _ t333 true _ ?side1 ?side2 A66.out).mono ?_); (case side1 => repeat (first | exact (Kd.R_reads' HO_10.out).2.2 | (with_reducible refine Kd.C_alloc ?_ _) | (with_reducible refine Kd.C_drewN ?_ _) | (with_reducible refine Kd.C_drew ?_))); (case side2 => exact (Kd.R_reads' HO_10.out).2.1); rintro e w74 ⟨rfl, hb⟩; have n0_ := Aside0.mk (Kd.R_below (by (with_reducible repeat (first | apply Kd.R_alloc | apply Kd.R_drewN | apply Kd.R_drew)); exact HO_8.out) hb); have n1_ := Aside0.mk (Kd.R_below (by (with_reducible repeat (first | apply Kd.R_alloc | apply Kd.R_drewN | apply Kd.R_drew)); exact HO_10.out) hb); have n2_ := Aside0.mk (Kd.R_below (by (with_reducible repeat (first | apply Kd.R_alloc | apply Kd.R_drewN | apply Kd.R_drew)); exact HO_12.out) hb); have n3_ := Aside0.mk (Kd.R_below (by (with_reducible repeat (first | apply Kd.R_alloc | apply Kd.R_drewN | apply Kd.R_drew)); exact HO_14.out) hb); have n4_ := Aside0.mk (below_step (by repeat (first | (with_reducible first | exact HB.out | apply below_alloc | apply pw_below_drewN | apply below_drew1) | exact HB.out)) hb); clear HO_8; clear HO_10; clear HO_12; clear HO_14; clear HB; have HO_8 := n0_; have HO_10 := n1_; have HO_12 := n2_; have HO_14 := n3_; have HB := n4_; clear n0_ n1_ n2_ n3_ n4_; (try clear hb); (try clear hb2); (try clear hk); (try clear hi); obtain ⟨Ao75, co75, eo75⟩ := Kd.R_slice HO_12.out; subst eo75) | (go_at_call 10; (with_reducible refine (span_Valid.calls kj22 _ _ t337 true _ ?side1 ?side2 A68.out).mono ?_); (case side1 => repeat (first | exact (Kd.R_reads' HO_12.out).2.2 | (with_reducible refine Kd.C_alloc ?_ _) | (with_reducible refine Kd.C_drewN ?_ _) | (with_reducible refine Kd.C_drew ?_))); (case side2 => exact (Kd.R_reads' HO_12.out).2.1); rintro e w76 ⟨rfl, hb⟩; have n0_ := Aside0.mk (Kd.R_below (by (with_reducible repeat (first | apply Kd.R_alloc | apply Kd.R_drewN | apply Kd.R_drew)); exact HO_8.out) hb); have n1_ := Aside0.mk (Kd.R_below (by (with_reducible repeat (first | apply Kd.R_alloc | apply Kd.R_drewN | apply Kd.R_drew)); exact HO_10.out) hb); have n2_ := Aside0.mk (Kd.R_below (by (with_reducible repeat (first | apply Kd.R_alloc | apply Kd.R_drewN | apply Kd.R_drew)); exact HO_12.out) hb); have n3_ := Aside0.mk (Kd.R_below (by (with_reducible repeat (first | apply Kd.R_alloc | apply Kd.R_drewN | apply Kd.R_drew)); exact HO_14.out) hb); have n4_ := Aside0.mk (below_step (by repeat (first | (with_reducible first | exact HB.out | apply below_alloc | apply pw_below_drewN | apply below_drew1) | exact HB.out)) hb); clear HO_8; clear HO_10; clear HO_12; clear HO_14; clear HB; have HO_8 := n0_; have HO_10 := n1_; have HO_12 := n2_; have HO_14 := n3_; have HB := n4_; clear n0_ n1_ n2_ n3_ n4_; (try clear hb); (try clear hb2); (try clear hk); (try clear hi); obtain ⟨Ao77, co77, eo77⟩ := Kd.R_slice HO_14.out; subst eo77) | (go_at_call 10; (with_reducible refine (span_Valid.calls kj22 _ _ t350 t359 _ ?side1 ?side2 A70.out).mono ?_); (case side1 => repeat (first | exact (Kd.R_reads' HO_14.out).2.2 | (with_reducible refine Kd.C_alloc ?_ _) | (with_reducible refine Kd.C_drewN ?_ _) | (with_reducible refine Kd.C_drew ?_))); (case side2 => exact (Kd.R_reads' HO_14.out).2.1); rintro e w78 ⟨rfl, hb⟩; have n0_ := Aside0.mk (Kd.R_below (by (with_reducible repeat (first | apply Kd.R_alloc | apply Kd.R_drewN | apply Kd.R_drew)); exact HO_8.out) hb); have n1_ := Aside0.mk (Kd.R_below (by (with_reducible repeat (first | apply Kd.R_alloc | apply Kd.R_drewN | apply Kd.R_drew)); exact HO_10.out) hb); have n2_ := Aside0.mk (Kd.R_below (by (with_reducible repeat (first | apply Kd.R_alloc | apply Kd.R_drewN | apply Kd.R_drew)); exact HO_12.out) hb); have n3_ := Aside0.mk (Kd.R_below (by (with_reducible repeat (first | apply Kd.R_alloc | apply Kd.R_drewN | apply Kd.R_drew)); exact HO_14.out) hb); have n4_ := Aside0.mk (below_step (by repeat (first | (with_reducible first | exact HB.out | apply below_alloc | apply pw_below_drewN | apply below_drew1) | exact HB.out)) hb); clear HO_8; clear HO_10; clear HO_12; clear HO_14; clear HB; have HO_8 := n0_; have HO_10 := n1_; have HO_12 := n2_; have HO_14 := n3_; have HB := n4_; clear n0_ n1_ n2_ n3_ n4_; (try clear hb); (try clear hb2); (try clear hk); (try clear hi)))
                          go_meet
                          case rel => exact ⟨_, (!t359), (by first | rfl | (simp; done) | (simp [*]; done)), H', ⟨by have := HJ4.out; have := HJ22.out; first | omega | exact Nat.le_refl _⟩, ⟨by (with_reducible repeat (first | apply Kd.R_alloc | apply Kd.R_drewN | apply Kd.R_drew)); exact HO_8.out⟩, ⟨by (with_reducible repeat (first | apply Kd.R_alloc | apply Kd.R_drewN | apply Kd.R_drew)); exact HO_10.out⟩, ⟨by (with_reducible repeat (first | apply Kd.R_alloc | apply Kd.R_drewN | apply Kd.R_drew)); exact HO_12.out⟩, ⟨by (with_reducible repeat (first | apply Kd.R_alloc | apply Kd.R_drewN | apply Kd.R_drew)); exact HO_14.out⟩, ⟨by repeat (first | (with_reducible first | exact HB.out | apply below_alloc | apply pw_below_drewN | apply below_drew1) | exact HB.out)⟩⟩
                        · replace c69 := Bool.eq_false_iff.mpr c69
                          subst c69
                          have H1 : (cohousinglaw04_SpanDays.j2 kj22 a2 t326 t329 t333 t337 t350 t354 t355 true) = some r := by rw [if_neg (show ¬ (false = true) by decide)] at H; exact H
                          clear H
                          have H := H1
                          clear H1
                          have H' := Aside0.mk H
                          clear H
                          obtain ⟨Ao79, co79, eo79⟩ := Kd.R_slice HO_8.out
                          subst eo79
                          go_wp2_with (first | ((with_reducible refine gate_callee (f := 10) rfl ?_); refine goesL_ (some 114) rfl rfl Try.func10 (by kernel_rfl) rfl #[.slice Ao79 t329.length co79] rfl (by (try simp only [List.map_toArray, List.map_cons, List.map_nil]); first | done | rfl | (simp only [List.length_drop, List.length_take]; rfl)) ?_; (with_reducible refine (span_Valid.calls kj22 _ _ t329 true _ ?side1 ?side2 A64.out).mono ?_); (case side1 => repeat (first | exact (Kd.R_reads' HO_8.out).2.2 | (with_reducible refine Kd.C_alloc ?_ _) | (with_reducible refine Kd.C_drewN ?_ _) | (with_reducible refine Kd.C_drew ?_))); (case side2 => exact (Kd.R_reads' HO_8.out).2.1); rintro e w80 ⟨rfl, hb⟩; refine ⟨_, rfl, ?_⟩; have n0_ := Aside0.mk (Kd.R_below (by (with_reducible repeat (first | apply Kd.R_alloc | apply Kd.R_drewN | apply Kd.R_drew)); exact HO_8.out) hb); have n1_ := Aside0.mk (Kd.R_below (by (with_reducible repeat (first | apply Kd.R_alloc | apply Kd.R_drewN | apply Kd.R_drew)); exact HO_10.out) hb); have n2_ := Aside0.mk (Kd.R_below (by (with_reducible repeat (first | apply Kd.R_alloc | apply Kd.R_drewN | apply Kd.R_drew)); exact HO_12.out) hb); have n3_ := Aside0.mk (Kd.R_below (by (with_reducible repeat (first | apply Kd.R_alloc | apply Kd.R_drewN | apply Kd.R_drew)); exact HO_14.out) hb); have n4_ := Aside0.mk (below_step (by repeat (first | (with_reducible first | exact HB.out | apply below_alloc | apply pw_below_drewN | apply below_drew1) | exact HB.out)) hb); clear HO_8; clear HO_10; clear HO_12; clear HO_14; clear HB; have HO_8 := n0_; have HO_10 := n1_; have HO_12 := n2_; have HO_14 := n3_; have HB := n4_; clear n0_ n1_ n2_ n3_ n4_; (try clear hb); (try clear hb2); (try clear hk); (try clear hi); obtain ⟨Ao81, co81, eo81⟩ := Kd.R_slice HO_10.out; subst eo81) | (go_at_call 10; (with_reducible refine (span_Valid.calls kj22 _ _ t333 true _ ?side1 ?side2 A66.out).mono ?_); (case side1 => repeat (first | exact (Kd.R_reads' HO_10.out).2.2 | (with_reducible refine Kd.C_alloc ?_ _) | (with_reducible refine Kd.C_drewN ?_ _) | (with_reducible refine Kd.C_drew ?_))); (case side2 => exact (Kd.R_reads' HO_10.out).2.1); rintro e w82 ⟨rfl, hb⟩; have n0_ := Aside0.mk (Kd.R_below (by (with_reducible repeat (first | apply Kd.R_alloc | apply Kd.R_drewN | apply Kd.R_drew)); exact HO_8.out) hb); have n1_ := Aside0.mk (Kd.R_below (by (with_reducible repeat (first | apply Kd.R_alloc | apply Kd.R_drewN | apply Kd.R_drew)); exact HO_10.out) hb); have n2_ := Aside0.mk (Kd.R_below (by (with_reducible repeat (first | apply Kd.R_alloc | apply Kd.R_drewN | apply Kd.R_drew)); exact HO_12.out) hb); have n3_ := Aside0.mk (Kd.R_below (by (with_reducible repeat (first | apply Kd.R_alloc | apply Kd.R_drewN | apply Kd.R_drew)); exact HO_14.out) hb); have n4_ := Aside0.mk (below_step (by repeat (first | (with_reducible first | exact HB.out | apply below_alloc | apply pw_below_drewN | apply below_drew1) | exact HB.out)) hb); clear HO_8; clear HO_10; clear HO_12; clear HO_14; clear HB; have HO_8 := n0_; have HO_10 := n1_; have HO_12 := n2_; have HO_14 := n3_; have HB := n4_; clear n0_ n1_ n2_ n3_ n4_; (try clear hb); (try clear hb2); (try clear hk); (try clear hi); obtain ⟨Ao83, co83, eo83⟩ := Kd.R_slice HO_12.out; subst eo83) | (go_at_call 10; (with_reducible refine (span_Valid.calls kj22 _ _ t337 false _ ?side1 ?side2 A68.out).mono ?_); (case side1 => repeat (first | exact (Kd.R_reads' HO_12.out).2.2 | (with_reducible refine Kd.C_alloc ?_ _) | (with_reducible refine Kd.C_drewN ?_ _) | (with_reducible refine Kd.C_drew ?_))); (case side2 => exact (Kd.R_reads' HO_12.out).2.1); rintro e w84 ⟨rfl, hb⟩; have n0_ := Aside0.mk (Kd.R_below (by (with_reducible repeat (first | apply Kd.R_alloc | apply Kd.R_drewN | apply Kd.R_drew)); exact HO_8.out) hb); have n1_ := Aside0.mk (Kd.R_below (by (with_reducible repeat (first | apply Kd.R_alloc | apply Kd.R_drewN | apply Kd.R_drew)); exact HO_10.out) hb); have n2_ := Aside0.mk (Kd.R_below (by (with_reducible repeat (first | apply Kd.R_alloc | apply Kd.R_drewN | apply Kd.R_drew)); exact HO_12.out) hb); have n3_ := Aside0.mk (Kd.R_below (by (with_reducible repeat (first | apply Kd.R_alloc | apply Kd.R_drewN | apply Kd.R_drew)); exact HO_14.out) hb); have n4_ := Aside0.mk (below_step (by repeat (first | (with_reducible first | exact HB.out | apply below_alloc | apply pw_below_drewN | apply below_drew1) | exact HB.out)) hb); clear HO_8; clear HO_10; clear HO_12; clear HO_14; clear HB; have HO_8 := n0_; have HO_10 := n1_; have HO_12 := n2_; have HO_14 := n3_; have HB := n4_; clear n0_ n1_ n2_ n3_ n4_; (try clear hb); (try clear hb2); (try clear hk); (try clear hi)))
                          go_meet
                          case rel => exact ⟨_, (true), (by first | rfl | (simp; done) | (simp [*]; done)), H', ⟨by have := HJ4.out; have := HJ22.out; first | omega | exact Nat.le_refl _⟩, ⟨by (with_reducible repeat (first | apply Kd.R_alloc | apply Kd.R_drewN | apply Kd.R_drew)); exact HO_8.out⟩, ⟨by (with_reducible repeat (first | apply Kd.R_alloc | apply Kd.R_drewN | apply Kd.R_drew)); exact HO_10.out⟩, ⟨by (with_reducible repeat (first | apply Kd.R_alloc | apply Kd.R_drewN | apply Kd.R_drew)); exact HO_12.out⟩, ⟨by (with_reducible repeat (first | apply Kd.R_alloc | apply Kd.R_drewN | apply Kd.R_drew)); exact HO_14.out⟩, ⟨by repeat (first | (with_reducible first | exact HB.out | apply below_alloc | apply pw_below_drewN | apply below_drew1) | exact HB.out)⟩⟩
                      · replace c67 := Bool.eq_false_iff.mpr c67
                        subst c67
                        have H1 : (cohousinglaw04_SpanDays.j2 kj22 a2 t326 t329 t333 t337 t350 t354 t355 true) = some r := by rw [if_neg (show ¬ (false = true) by decide)] at H; exact H
                        clear H
                        have H := H1
                        clear H1
                        have H' := Aside0.mk H
                        clear H
                        obtain ⟨Ao85, co85, eo85⟩ := Kd.R_slice HO_8.out
                        subst eo85
                        go_wp2_with (first | ((with_reducible refine gate_callee (f := 10) rfl ?_); refine goesL_ (some 114) rfl rfl Try.func10 (by kernel_rfl) rfl #[.slice Ao85 t329.length co85] rfl (by (try simp only [List.map_toArray, List.map_cons, List.map_nil]); first | done | rfl | (simp only [List.length_drop, List.length_take]; rfl)) ?_; (with_reducible refine (span_Valid.calls kj22 _ _ t329 true _ ?side1 ?side2 A64.out).mono ?_); (case side1 => repeat (first | exact (Kd.R_reads' HO_8.out).2.2 | (with_reducible refine Kd.C_alloc ?_ _) | (with_reducible refine Kd.C_drewN ?_ _) | (with_reducible refine Kd.C_drew ?_))); (case side2 => exact (Kd.R_reads' HO_8.out).2.1); rintro e w86 ⟨rfl, hb⟩; refine ⟨_, rfl, ?_⟩; have n0_ := Aside0.mk (Kd.R_below (by (with_reducible repeat (first | apply Kd.R_alloc | apply Kd.R_drewN | apply Kd.R_drew)); exact HO_8.out) hb); have n1_ := Aside0.mk (Kd.R_below (by (with_reducible repeat (first | apply Kd.R_alloc | apply Kd.R_drewN | apply Kd.R_drew)); exact HO_10.out) hb); have n2_ := Aside0.mk (Kd.R_below (by (with_reducible repeat (first | apply Kd.R_alloc | apply Kd.R_drewN | apply Kd.R_drew)); exact HO_12.out) hb); have n3_ := Aside0.mk (Kd.R_below (by (with_reducible repeat (first | apply Kd.R_alloc | apply Kd.R_drewN | apply Kd.R_drew)); exact HO_14.out) hb); have n4_ := Aside0.mk (below_step (by repeat (first | (with_reducible first | exact HB.out | apply below_alloc | apply pw_below_drewN | apply below_drew1) | exact HB.out)) hb); clear HO_8; clear HO_10; clear HO_12; clear HO_14; clear HB; have HO_8 := n0_; have HO_10 := n1_; have HO_12 := n2_; have HO_14 := n3_; have HB := n4_; clear n0_ n1_ n2_ n3_ n4_; (try clear hb); (try clear hb2); (try clear hk); (try clear hi); obtain ⟨Ao87, co87, eo87⟩ := Kd.R_slice HO_10.out; subst eo87) | (go_at_call 10; (with_reducible refine (span_Valid.calls kj22 _ _ t333 false _ ?side1 ?side2 A66.out).mono ?_); (case side1 => repeat (first | exact (Kd.R_reads' HO_10.out).2.2 | (with_reducible refine Kd.C_alloc ?_ _) | (with_reducible refine Kd.C_drewN ?_ _) | (with_reducible refine Kd.C_drew ?_))); (case side2 => exact (Kd.R_reads' HO_10.out).2.1); rintro e w88 ⟨rfl, hb⟩; have n0_ := Aside0.mk (Kd.R_below (by (with_reducible repeat (first | apply Kd.R_alloc | apply Kd.R_drewN | apply Kd.R_drew)); exact HO_8.out) hb); have n1_ := Aside0.mk (Kd.R_below (by (with_reducible repeat (first | apply Kd.R_alloc | apply Kd.R_drewN | apply Kd.R_drew)); exact HO_10.out) hb); have n2_ := Aside0.mk (Kd.R_below (by (with_reducible repeat (first | apply Kd.R_alloc | apply Kd.R_drewN | apply Kd.R_drew)); exact HO_12.out) hb); have n3_ := Aside0.mk (Kd.R_below (by (with_reducible repeat (first | apply Kd.R_alloc | apply Kd.R_drewN | apply Kd.R_drew)); exact HO_14.out) hb); have n4_ := Aside0.mk (below_step (by repeat (first | (with_reducible first | exact HB.out | apply below_alloc | apply pw_below_drewN | apply below_drew1) | exact HB.out)) hb); clear HO_8; clear HO_10; clear HO_12; clear HO_14; clear HB; have HO_8 := n0_; have HO_10 := n1_; have HO_12 := n2_; have HO_14 := n3_; have HB := n4_; clear n0_ n1_ n2_ n3_ n4_; (try clear hb); (try clear hb2); (try clear hk); (try clear hi)))
                        go_meet
                        case rel => exact ⟨_, (true), (by first | rfl | (simp; done) | (simp [*]; done)), H', ⟨by have := HJ4.out; have := HJ22.out; first | omega | exact Nat.le_refl _⟩, ⟨by (with_reducible repeat (first | apply Kd.R_alloc | apply Kd.R_drewN | apply Kd.R_drew)); exact HO_8.out⟩, ⟨by (with_reducible repeat (first | apply Kd.R_alloc | apply Kd.R_drewN | apply Kd.R_drew)); exact HO_10.out⟩, ⟨by (with_reducible repeat (first | apply Kd.R_alloc | apply Kd.R_drewN | apply Kd.R_drew)); exact HO_12.out⟩, ⟨by (with_reducible repeat (first | apply Kd.R_alloc | apply Kd.R_drewN | apply Kd.R_drew)); exact HO_14.out⟩, ⟨by repeat (first | (with_reducible first | exact HB.out | apply below_alloc | apply pw_below_drewN | apply below_drew1) | exact HB.out)⟩⟩
                    · replace c65 := Bool.eq_false_iff.mpr c65
                      subst c65
                      have H1 : (cohousinglaw04_SpanDays.j2 kj22 a2 t326 t329 t333 t337 t350 t354 t355 true) = some r := by rw [if_neg (show ¬ (false = true) by decide)] at H; exact H
                      clear H
                      have H := H1
                      clear H1
                      have H' := Aside0.mk H
                      clear H
                      obtain ⟨Ao89, co89, eo89⟩ := Kd.R_slice HO_8.out
                      subst eo89
                      go_wp2_with (first | ((with_reducible refine gate_callee (f := 10) rfl ?_); refine goesL_ (some 114) rfl rfl Try.func10 (by kernel_rfl) rfl #[.slice Ao89 t329.length co89] rfl (by (try simp only [List.map_toArray, List.map_cons, List.map_nil]); first | done | rfl | (simp only [List.length_drop, List.length_take]; rfl)) ?_; (with_reducible refine (span_Valid.calls kj22 _ _ t329 false _ ?side1 ?side2 A64.out).mono ?_); (case side1 => repeat (first | exact (Kd.R_reads' HO_8.out).2.2 | (with_reducible refine Kd.C_alloc ?_ _) | (with_reducible refine Kd.C_drewN ?_ _) | (with_reducible refine Kd.C_drew ?_))); (case side2 => exact (Kd.R_reads' HO_8.out).2.1); rintro e w90 ⟨rfl, hb⟩; refine ⟨_, rfl, ?_⟩; have n0_ := Aside0.mk (Kd.R_below (by (with_reducible repeat (first | apply Kd.R_alloc | apply Kd.R_drewN | apply Kd.R_drew)); exact HO_8.out) hb); have n1_ := Aside0.mk (Kd.R_below (by (with_reducible repeat (first | apply Kd.R_alloc | apply Kd.R_drewN | apply Kd.R_drew)); exact HO_10.out) hb); have n2_ := Aside0.mk (Kd.R_below (by (with_reducible repeat (first | apply Kd.R_alloc | apply Kd.R_drewN | apply Kd.R_drew)); exact HO_12.out) hb); have n3_ := Aside0.mk (Kd.R_below (by (with_reducible repeat (first | apply Kd.R_alloc | apply Kd.R_drewN | apply Kd.R_drew)); exact HO_14.out) hb); have n4_ := Aside0.mk (below_step (by repeat (first | (with_reducible first | exact HB.out | apply below_alloc | apply pw_below_drewN | apply below_drew1) | exact HB.out)) hb); clear HO_8; clear HO_10; clear HO_12; clear HO_14; clear HB; have HO_8 := n0_; have HO_10 := n1_; have HO_12 := n2_; have HO_14 := n3_; have HB := n4_; clear n0_ n1_ n2_ n3_ n4_; (try clear hb); (try clear hb2); (try clear hk); (try clear hi)))
                      go_meet
                      case rel => exact ⟨_, (true), (by first | rfl | (simp; done) | (simp [*]; done)), H', ⟨by have := HJ4.out; have := HJ22.out; first | omega | exact Nat.le_refl _⟩, ⟨by (with_reducible repeat (first | apply Kd.R_alloc | apply Kd.R_drewN | apply Kd.R_drew)); exact HO_8.out⟩, ⟨by (with_reducible repeat (first | apply Kd.R_alloc | apply Kd.R_drewN | apply Kd.R_drew)); exact HO_10.out⟩, ⟨by (with_reducible repeat (first | apply Kd.R_alloc | apply Kd.R_drewN | apply Kd.R_drew)); exact HO_12.out⟩, ⟨by (with_reducible repeat (first | apply Kd.R_alloc | apply Kd.R_drewN | apply Kd.R_drew)); exact HO_14.out⟩, ⟨by repeat (first | (with_reducible first | exact HB.out | apply below_alloc | apply pw_below_drewN | apply below_drew1) | exact HB.out)⟩⟩
                  case rest =>
                    clear HC63
                    try clear c1
                    try clear c2
                    try clear p2
                    try clear c3
                    try clear c4
                    try clear c5
                    try clear c6
                    try clear p6
                    try clear c8
                    try clear c9
                    try clear c10
                    try clear c11
                    try clear c13
                    try clear c14
                    try clear c15
                    try clear c16
                    try clear c18
                    try clear c19
                    try clear c27
                    try clear c35
                    try clear c35b0
                    try clear c35b1
                    try clear c36
                    try clear c36b0
                    try clear c36b1
                    try clear c37
                    try clear c37b0
                    try clear c37b1
                    try clear c38
                    try clear c39
                    try clear c40
                    try clear c40b0
                    try clear c41
                    try clear c41b0
                    try clear c41b1
                    try clear c42
                    try clear c42b0
                    try clear c42b1
                    try clear c43
                    try clear c43b0
                    try clear c43b1
                    try clear c44
                    try clear c44b0
                    try clear c44b1
                    try clear c45
                    try clear c45b0
                    try clear c45b1
                    try clear c46
                    try clear c46b0
                    try clear c46b1
                    try clear c47
                    try clear c47b0
                    try clear c47b1
                    try clear c48
                    try clear c48b0
                    try clear c48b1
                    try clear c49
                    try clear c49b0
                    try clear c49b1
                    try clear c50
                    try clear c50b0
                    try clear c50b1
                    try clear c51
                    try clear c51b0
                    try clear c51b1
                    try clear c52
                    try clear c52b0
                    try clear c52b1
                    try clear c53
                    try clear c53b0
                    try clear c53b1
                    try clear c54
                    try clear c54b0
                    try clear c54b1
                    try clear c55
                    try clear c55b0
                    try clear c55b1
                    try clear c56
                    try clear c56b0
                    try clear c56b1
                    try clear c57
                    try clear c57b0
                    try clear c57b1
                    try clear c58
                    try clear c58b0
                    try clear c58b1
                    try clear c59
                    try clear c59b0
                    try clear c59b1
                    try clear c60
                    try clear c60b0
                    try clear c60b1
                    try clear c61
                    try clear c61b0
                    try clear c61b1
                    try clear c62
                    try clear c62b0
                    try clear c62b1
                    try clear p64
                    try clear c65
                    try clear c67
                    try clear c69
                    try clear p2
                    obtain ⟨kq, x130_62, rfl, HA, HJ62, HO_8, HO_10, HO_12, HO_14, HB⟩ := hcut
                    cases kq with
                    | zero => exact absurd HA.out (by simp [cohousinglaw04_SpanDays.j2])
                    | succ kj62 =>
                      have H := HA.out
                      clear HA
                      simp only [cohousinglaw04_SpanDays.j2] at H
                      by_cases c91 : x130_62 = true
                      · subst c91
                        have H1 : (none) = some r := by rw [if_pos rfl] at H; exact H
                        clear H
                        have H := H1
                        clear H1
                        exact absurd H (by simp)
                      · replace c91 := Bool.eq_false_iff.mpr c91
                        subst c91
                        have H1 : (if t326 = true then ((cohousinglaw04_has.f kj62 t329 a2).bind fun t360 => (if t354 = true then (if (t360 == true) = true then ((cohousinglaw04_has.f kj62 t333 a2).bind fun t361 => (if (t361 == t355) = true then ((cohousinglaw04_has.f kj62 t337 a2).bind fun t362 => (if (t362 == (!t355)) = true then ((cohousinglaw04_has.f kj62 t350 a2).bind fun t363 => (if (t363 == true) = true then (some true) else (none))) else (none))) else (none))) else (none)) else (if (t360 == t355) = true then ((cohousinglaw04_has.f kj62 t333 a2).bind fun t364 => (if (t364 == false) = true then ((cohousinglaw04_has.f kj62 t337 a2).bind fun t365 => (if (t365 == false) = true then ((cohousinglaw04_has.f kj62 t350 a2).bind fun t366 => (if (t366 == t355) = true then (some true) else (none))) else (none))) else (none))) else (none)))) else (none)) = some r := by rw [if_neg (show ¬ (false = true) by decide)] at H; exact H
                        clear H
                        have H := H1
                        clear H1
                        by_cases c92 : t326 = true
                        · subst c92
                          have H1 : ((cohousinglaw04_has.f kj62 t329 a2).bind fun t360 => (if t354 = true then (if (t360 == true) = true then ((cohousinglaw04_has.f kj62 t333 a2).bind fun t361 => (if (t361 == t355) = true then ((cohousinglaw04_has.f kj62 t337 a2).bind fun t362 => (if (t362 == (!t355)) = true then ((cohousinglaw04_has.f kj62 t350 a2).bind fun t363 => (if (t363 == true) = true then (some true) else (none))) else (none))) else (none))) else (none)) else (if (t360 == t355) = true then ((cohousinglaw04_has.f kj62 t333 a2).bind fun t364 => (if (t364 == false) = true then ((cohousinglaw04_has.f kj62 t337 a2).bind fun t365 => (if (t365 == false) = true then ((cohousinglaw04_has.f kj62 t350 a2).bind fun t366 => (if (t366 == t355) = true then (some true) else (none))) else (none))) else (none))) else (none)))) = some r := by rw [if_pos rfl] at H; exact H
                          clear H
                          have H := H1
                          clear H1
                          replace H := Option.bind_eq_some_iff.mp H
                          obtain ⟨t360, A930, H⟩ := H
                          replace H : (if t354 = true then (if (t360 == true) = true then ((cohousinglaw04_has.f kj62 t333 a2).bind fun t361 => (if (t361 == t355) = true then ((cohousinglaw04_has.f kj62 t337 a2).bind fun t362 => (if (t362 == (!t355)) = true then ((cohousinglaw04_has.f kj62 t350 a2).bind fun t363 => (if (t363 == true) = true then (some true) else (none))) else (none))) else (none))) else (none)) else (if (t360 == t355) = true then ((cohousinglaw04_has.f kj62 t333 a2).bind fun t364 => (if (t364 == false) = true then ((cohousinglaw04_has.f kj62 t337 a2).bind fun t365 => (if (t365 == false) = true then ((cohousinglaw04_has.f kj62 t350 a2).bind fun t366 => (if (t366 == t355) = true then (some true) else (none))) else (none))) else (none))) else (none))) = some r := H
                          have A93 := Aside0.mk A930
                          clear A930
                          by_cases c94 : t354 = true
                          · subst c94
                            have H1 : (if (t360 == true) = true then ((cohousinglaw04_has.f kj62 t333 a2).bind fun t361 => (if (t361 == t355) = true then ((cohousinglaw04_has.f kj62 t337 a2).bind fun t362 => (if (t362 == (!t355)) = true then ((cohousinglaw04_has.f kj62 t350 a2).bind fun t363 => (if (t363 == true) = true then (some true) else (none))) else (none))) else (none))) else (none)) = some r := by rw [if_pos rfl] at H; exact H
                            clear H
                            have H := H1
                            clear H1
                            by_cases c95 : (t360 == true) = true
                            · rw [if_pos c95] at H
                              have c95b0 : (t360 == true) = true := c95
                              (try (have c95b1 : decide (t360 = true) = true := by simpa using c95))
                              (try (have c95b2 : (t360 == true) = true := by simpa using c95))
                              clear c95
                              replace H := Option.bind_eq_some_iff.mp H
                              obtain ⟨t361, A960, H⟩ := H
                              replace H : (if (t361 == t355) = true then ((cohousinglaw04_has.f kj62 t337 a2).bind fun t362 => (if (t362 == (!t355)) = true then ((cohousinglaw04_has.f kj62 t350 a2).bind fun t363 => (if (t363 == true) = true then (some true) else (none))) else (none))) else (none)) = some r := H
                              have A96 := Aside0.mk A960
                              clear A960
                              by_cases c97 : (t361 == t355) = true
                              · rw [if_pos c97] at H
                                have c97b0 : (t361 == t355) = true := c97
                                (try (have c97b1 : decide (t361 = t355) = true := by simpa using c97))
                                (try (have c97b2 : (t361 == t355) = true := by simpa using c97))
                                clear c97
                                replace H := Option.bind_eq_some_iff.mp H
                                obtain ⟨t362, A980, H⟩ := H
                                replace H : (if (t362 == (!t355)) = true then ((cohousinglaw04_has.f kj62 t350 a2).bind fun t363 => (if (t363 == true) = true then (some true) else (none))) else (none)) = some r := H
                                have A98 := Aside0.mk A980
                                clear A980
                                by_cases c99 : (t362 == (!t355)) = true
                                · rw [if_pos c99] at H
                                  have c99b0 : (t362 == (!t355)) = true := c99
                                  (try (have c99b1 : decide (t362 = (!t355)) = true := by simpa using c99))
                                  (try (have c99b2 : (t362 == (!t355)) = true := by simpa using c99))
                                  clear c99
                                  replace H := Option.bind_eq_some_iff.mp H
                                  obtain ⟨t363, A1000, H⟩ := H
                                  replace H : (if (t363 == true) = true then (some true) else (none)) = some r := H
                                  have A100 := Aside0.mk A1000
                                  clear A1000
                                  by_cases c101 : (t363 == true) = true
                                  · rw [if_pos c101] at H
                                    have c101b0 : (t363 == true) = true := c101
                                    (try (have c101b1 : decide (t363 = true) = true := by simpa using c101))
                                    (try (have c101b2 : (t363 == true) = true := by simpa using c101))
                                    clear c101
                                    obtain rfl := Option.some.inj H
                                    obtain ⟨Ao102, co102, eo102⟩ := Kd.R_slice HO_8.out
                                    subst eo102
                                    go_wp2_with (first | (go_at_call 27; (with_reducible refine (cohousinglaw04_has.calls kj62 _ _ t329 a2 t360 _ ?side1 ?side2 A93.out).mono ?_); (case side1 => repeat (first | exact (Kd.R_reads' HO_8.out).2.2 | (with_reducible refine Kd.C_alloc ?_ _) | (with_reducible refine Kd.C_drewN ?_ _) | (with_reducible refine Kd.C_drew ?_))); (case side2 => exact (Kd.R_reads' HO_8.out).2.1); rintro e w103 ⟨rfl, hb⟩; have n0_ := Aside0.mk (Kd.R_below (by (with_reducible repeat (first | apply Kd.R_alloc | apply Kd.R_drewN | apply Kd.R_drew)); exact HO_8.out) hb); have n1_ := Aside0.mk (Kd.R_below (by (with_reducible repeat (first | apply Kd.R_alloc | apply Kd.R_drewN | apply Kd.R_drew)); exact HO_10.out) hb); have n2_ := Aside0.mk (Kd.R_below (by (with_reducible repeat (first | apply Kd.R_alloc | apply Kd.R_drewN | apply Kd.R_drew)); exact HO_12.out) hb); have n3_ := Aside0.mk (Kd.R_below (by (with_reducible repeat (first | apply Kd.R_alloc | apply Kd.R_drewN | apply Kd.R_drew)); exact HO_14.out) hb); have n4_ := Aside0.mk (below_step (by repeat (first | (with_reducible first | exact HB.out | apply below_alloc | apply pw_below_drewN | apply below_drew1) | exact HB.out)) hb); clear HO_8; clear HO_10; clear HO_12; clear HO_14; clear HB; have HO_8 := n0_; have HO_10 := n1_; have HO_12 := n2_; have HO_14 := n3_; have HB := n4_; clear n0_ n1_ n2_ n3_ n4_; (try clear hb); (try clear hb2); (try clear hk); (try clear hi); obtain ⟨Ao104, co104, eo104⟩ := Kd.R_slice HO_10.out; subst eo104) | (go_at_call 27; (with_reducible refine (cohousinglaw04_has.calls kj62 _ _ t333 a2 t361 _ ?side1 ?side2 A96.out).mono ?_); (case side1 => repeat (first | exact (Kd.R_reads' HO_10.out).2.2 | (with_reducible refine Kd.C_alloc ?_ _) | (with_reducible refine Kd.C_drewN ?_ _) | (with_reducible refine Kd.C_drew ?_))); (case side2 => exact (Kd.R_reads' HO_10.out).2.1); rintro e w105 ⟨rfl, hb⟩; have n0_ := Aside0.mk (Kd.R_below (by (with_reducible repeat (first | apply Kd.R_alloc | apply Kd.R_drewN | apply Kd.R_drew)); exact HO_8.out) hb); have n1_ := Aside0.mk (Kd.R_below (by (with_reducible repeat (first | apply Kd.R_alloc | apply Kd.R_drewN | apply Kd.R_drew)); exact HO_10.out) hb); have n2_ := Aside0.mk (Kd.R_below (by (with_reducible repeat (first | apply Kd.R_alloc | apply Kd.R_drewN | apply Kd.R_drew)); exact HO_12.out) hb); have n3_ := Aside0.mk (Kd.R_below (by (with_reducible repeat (first | apply Kd.R_alloc | apply Kd.R_drewN | apply Kd.R_drew)); exact HO_14.out) hb); have n4_ := Aside0.mk (below_step (by repeat (first | (with_reducible first | exact HB.out | apply below_alloc | apply pw_below_drewN | apply below_drew1) | exact HB.out)) hb); clear HO_8; clear HO_10; clear HO_12; clear HO_14; clear HB; have HO_8 := n0_; have HO_10 := n1_; have HO_12 := n2_; have HO_14 := n3_; have HB := n4_; clear n0_ n1_ n2_ n3_ n4_; (try clear hb); (try clear hb2); (try clear hk); (try clear hi); obtain ⟨Ao106, co106, eo106⟩ := Kd.R_slice HO_12.out; subst eo106) | (go_at_call 27; (with_reducible refine (cohousinglaw04_has.calls kj62 _ _ t337 a2 t362 _ ?side1 ?side2 A98.out).mono ?_); (case side1 => repeat (first | exact (Kd.R_reads' HO_12.out).2.2 | (with_reducible refine Kd.C_alloc ?_ _) | (with_reducible refine Kd.C_drewN ?_ _) | (with_reducible refine Kd.C_drew ?_))); (case side2 => exact (Kd.R_reads' HO_12.out).2.1); rintro e w107 ⟨rfl, hb⟩; have n0_ := Aside0.mk (Kd.R_below (by (with_reducible repeat (first | apply Kd.R_alloc | apply Kd.R_drewN | apply Kd.R_drew)); exact HO_8.out) hb); have n1_ := Aside0.mk (Kd.R_below (by (with_reducible repeat (first | apply Kd.R_alloc | apply Kd.R_drewN | apply Kd.R_drew)); exact HO_10.out) hb); have n2_ := Aside0.mk (Kd.R_below (by (with_reducible repeat (first | apply Kd.R_alloc | apply Kd.R_drewN | apply Kd.R_drew)); exact HO_12.out) hb); have n3_ := Aside0.mk (Kd.R_below (by (with_reducible repeat (first | apply Kd.R_alloc | apply Kd.R_drewN | apply Kd.R_drew)); exact HO_14.out) hb); have n4_ := Aside0.mk (below_step (by repeat (first | (with_reducible first | exact HB.out | apply below_alloc | apply pw_below_drewN | apply below_drew1) | exact HB.out)) hb); clear HO_8; clear HO_10; clear HO_12; clear HO_14; clear HB; have HO_8 := n0_; have HO_10 := n1_; have HO_12 := n2_; have HO_14 := n3_; have HB := n4_; clear n0_ n1_ n2_ n3_ n4_; (try clear hb); (try clear hb2); (try clear hk); (try clear hi); obtain ⟨Ao108, co108, eo108⟩ := Kd.R_slice HO_14.out; subst eo108) | (go_at_call 27; (with_reducible refine (cohousinglaw04_has.calls kj62 _ _ t350 a2 t363 _ ?side1 ?side2 A100.out).mono ?_); (case side1 => repeat (first | exact (Kd.R_reads' HO_14.out).2.2 | (with_reducible refine Kd.C_alloc ?_ _) | (with_reducible refine Kd.C_drewN ?_ _) | (with_reducible refine Kd.C_drew ?_))); (case side2 => exact (Kd.R_reads' HO_14.out).2.1); rintro e w109 ⟨rfl, hb⟩; have n0_ := Aside0.mk (Kd.R_below (by (with_reducible repeat (first | apply Kd.R_alloc | apply Kd.R_drewN | apply Kd.R_drew)); exact HO_8.out) hb); have n1_ := Aside0.mk (Kd.R_below (by (with_reducible repeat (first | apply Kd.R_alloc | apply Kd.R_drewN | apply Kd.R_drew)); exact HO_10.out) hb); have n2_ := Aside0.mk (Kd.R_below (by (with_reducible repeat (first | apply Kd.R_alloc | apply Kd.R_drewN | apply Kd.R_drew)); exact HO_12.out) hb); have n3_ := Aside0.mk (Kd.R_below (by (with_reducible repeat (first | apply Kd.R_alloc | apply Kd.R_drewN | apply Kd.R_drew)); exact HO_14.out) hb); have n4_ := Aside0.mk (below_step (by repeat (first | (with_reducible first | exact HB.out | apply below_alloc | apply pw_below_drewN | apply below_drew1) | exact HB.out)) hb); clear HO_8; clear HO_10; clear HO_12; clear HO_14; clear HB; have HO_8 := n0_; have HO_10 := n1_; have HO_12 := n2_; have HO_14 := n3_; have HB := n4_; clear n0_ n1_ n2_ n3_ n4_; (try clear hb); (try clear hb2); (try clear hk); (try clear hi)))
                                    go_ret
                                    exact ⟨by first | rfl | (simp [errW_none, errW_some] <;> rfl) | (simp [*, errW_none, errW_some] <;> rfl), by repeat (first | (with_reducible first | exact HB.out | apply below_alloc | apply pw_below_drewN | apply below_drew1) | exact HB.out)⟩
                                  · rw [if_neg c101] at H
                                    exact absurd H (by simp)
                                · rw [if_neg c99] at H
                                  exact absurd H (by simp)
                              · rw [if_neg c97] at H
                                exact absurd H (by simp)
                            · rw [if_neg c95] at H
                              exact absurd H (by simp)
                          · replace c94 := Bool.eq_false_iff.mpr c94
                            subst c94
                            have H1 : (if (t360 == t355) = true then ((cohousinglaw04_has.f kj62 t333 a2).bind fun t364 => (if (t364 == false) = true then ((cohousinglaw04_has.f kj62 t337 a2).bind fun t365 => (if (t365 == false) = true then ((cohousinglaw04_has.f kj62 t350 a2).bind fun t366 => (if (t366 == t355) = true then (some true) else (none))) else (none))) else (none))) else (none)) = some r := by rw [if_neg (show ¬ (false = true) by decide)] at H; exact H
                            clear H
                            have H := H1
                            clear H1
                            by_cases c110 : (t360 == t355) = true
                            · rw [if_pos c110] at H
                              have c110b0 : (t360 == t355) = true := c110
                              (try (have c110b1 : decide (t360 = t355) = true := by simpa using c110))
                              (try (have c110b2 : (t360 == t355) = true := by simpa using c110))
                              clear c110
                              replace H := Option.bind_eq_some_iff.mp H
                              obtain ⟨t364, A1110, H⟩ := H
                              replace H : (if (t364 == false) = true then ((cohousinglaw04_has.f kj62 t337 a2).bind fun t365 => (if (t365 == false) = true then ((cohousinglaw04_has.f kj62 t350 a2).bind fun t366 => (if (t366 == t355) = true then (some true) else (none))) else (none))) else (none)) = some r := H
                              have A111 := Aside0.mk A1110
                              clear A1110
                              by_cases c112 : (t364 == false) = true
                              · rw [if_pos c112] at H
                                have c112b0 : (t364 == false) = true := c112
                                (try (have c112b1 : decide (t364 = false) = true := by simpa using c112))
                                (try (have c112b2 : (t364 == false) = true := by simpa using c112))
                                clear c112
                                replace H := Option.bind_eq_some_iff.mp H
                                obtain ⟨t365, A1130, H⟩ := H
                                replace H : (if (t365 == false) = true then ((cohousinglaw04_has.f kj62 t350 a2).bind fun t366 => (if (t366 == t355) = true then (some true) else (none))) else (none)) = some r := H
                                have A113 := Aside0.mk A1130
                                clear A1130
                                by_cases c114 : (t365 == false) = true
                                · rw [if_pos c114] at H
                                  have c114b0 : (t365 == false) = true := c114
                                  (try (have c114b1 : decide (t365 = false) = true := by simpa using c114))
                                  (try (have c114b2 : (t365 == false) = true := by simpa using c114))
                                  clear c114
                                  replace H := Option.bind_eq_some_iff.mp H
                                  obtain ⟨t366, A1150, H⟩ := H
                                  replace H : (if (t366 == t355) = true then (some true) else (none)) = some r := H
                                  have A115 := Aside0.mk A1150
                                  clear A1150
                                  by_cases c116 : (t366 == t355) = true
                                  · rw [if_pos c116] at H
                                    have c116b0 : (t366 == t355) = true := c116
                                    (try (have c116b1 : decide (t366 = t355) = true := by simpa using c116))
                                    (try (have c116b2 : (t366 == t355) = true := by simpa using c116))
                                    clear c116
                                    obtain rfl := Option.some.inj H
                                    obtain ⟨Ao117, co117, eo117⟩ := Kd.R_slice HO_8.out
                                    subst eo117
                                    go_wp2_with (first | (go_at_call 27; (with_reducible refine (cohousinglaw04_has.calls kj62 _ _ t329 a2 t360 _ ?side1 ?side2 A93.out).mono ?_); (case side1 => repeat (first | exact (Kd.R_reads' HO_8.out).2.2 | (with_reducible refine Kd.C_alloc ?_ _) | (with_reducible refine Kd.C_drewN ?_ _) | (with_reducible refine Kd.C_drew ?_))); (case side2 => exact (Kd.R_reads' HO_8.out).2.1); rintro e w118 ⟨rfl, hb⟩; have n0_ := Aside0.mk (Kd.R_below (by (with_reducible repeat (first | apply Kd.R_alloc | apply Kd.R_drewN | apply Kd.R_drew)); exact HO_8.out) hb); have n1_ := Aside0.mk (Kd.R_below (by (with_reducible repeat (first | apply Kd.R_alloc | apply Kd.R_drewN | apply Kd.R_drew)); exact HO_10.out) hb); have n2_ := Aside0.mk (Kd.R_below (by (with_reducible repeat (first | apply Kd.R_alloc | apply Kd.R_drewN | apply Kd.R_drew)); exact HO_12.out) hb); have n3_ := Aside0.mk (Kd.R_below (by (with_reducible repeat (first | apply Kd.R_alloc | apply Kd.R_drewN | apply Kd.R_drew)); exact HO_14.out) hb); have n4_ := Aside0.mk (below_step (by repeat (first | (with_reducible first | exact HB.out | apply below_alloc | apply pw_below_drewN | apply below_drew1) | exact HB.out)) hb); clear HO_8; clear HO_10; clear HO_12; clear HO_14; clear HB; have HO_8 := n0_; have HO_10 := n1_; have HO_12 := n2_; have HO_14 := n3_; have HB := n4_; clear n0_ n1_ n2_ n3_ n4_; (try clear hb); (try clear hb2); (try clear hk); (try clear hi); obtain ⟨Ao119, co119, eo119⟩ := Kd.R_slice HO_10.out; subst eo119) | (go_at_call 27; (with_reducible refine (cohousinglaw04_has.calls kj62 _ _ t333 a2 t364 _ ?side1 ?side2 A111.out).mono ?_); (case side1 => repeat (first | exact (Kd.R_reads' HO_10.out).2.2 | (with_reducible refine Kd.C_alloc ?_ _) | (with_reducible refine Kd.C_drewN ?_ _) | (with_reducible refine Kd.C_drew ?_))); (case side2 => exact (Kd.R_reads' HO_10.out).2.1); rintro e w120 ⟨rfl, hb⟩; have n0_ := Aside0.mk (Kd.R_below (by (with_reducible repeat (first | apply Kd.R_alloc | apply Kd.R_drewN | apply Kd.R_drew)); exact HO_8.out) hb); have n1_ := Aside0.mk (Kd.R_below (by (with_reducible repeat (first | apply Kd.R_alloc | apply Kd.R_drewN | apply Kd.R_drew)); exact HO_10.out) hb); have n2_ := Aside0.mk (Kd.R_below (by (with_reducible repeat (first | apply Kd.R_alloc | apply Kd.R_drewN | apply Kd.R_drew)); exact HO_12.out) hb); have n3_ := Aside0.mk (Kd.R_below (by (with_reducible repeat (first | apply Kd.R_alloc | apply Kd.R_drewN | apply Kd.R_drew)); exact HO_14.out) hb); have n4_ := Aside0.mk (below_step (by repeat (first | (with_reducible first | exact HB.out | apply below_alloc | apply pw_below_drewN | apply below_drew1) | exact HB.out)) hb); clear HO_8; clear HO_10; clear HO_12; clear HO_14; clear HB; have HO_8 := n0_; have HO_10 := n1_; have HO_12 := n2_; have HO_14 := n3_; have HB := n4_; clear n0_ n1_ n2_ n3_ n4_; (try clear hb); (try clear hb2); (try clear hk); (try clear hi); obtain ⟨Ao121, co121, eo121⟩ := Kd.R_slice HO_12.out; subst eo121) | (go_at_call 27; (with_reducible refine (cohousinglaw04_has.calls kj62 _ _ t337 a2 t365 _ ?side1 ?side2 A113.out).mono ?_); (case side1 => repeat (first | exact (Kd.R_reads' HO_12.out).2.2 | (with_reducible refine Kd.C_alloc ?_ _) | (with_reducible refine Kd.C_drewN ?_ _) | (with_reducible refine Kd.C_drew ?_))); (case side2 => exact (Kd.R_reads' HO_12.out).2.1); rintro e w122 ⟨rfl, hb⟩; have n0_ := Aside0.mk (Kd.R_below (by (with_reducible repeat (first | apply Kd.R_alloc | apply Kd.R_drewN | apply Kd.R_drew)); exact HO_8.out) hb); have n1_ := Aside0.mk (Kd.R_below (by (with_reducible repeat (first | apply Kd.R_alloc | apply Kd.R_drewN | apply Kd.R_drew)); exact HO_10.out) hb); have n2_ := Aside0.mk (Kd.R_below (by (with_reducible repeat (first | apply Kd.R_alloc | apply Kd.R_drewN | apply Kd.R_drew)); exact HO_12.out) hb); have n3_ := Aside0.mk (Kd.R_below (by (with_reducible repeat (first | apply Kd.R_alloc | apply Kd.R_drewN | apply Kd.R_drew)); exact HO_14.out) hb); have n4_ := Aside0.mk (below_step (by repeat (first | (with_reducible first | exact HB.out | apply below_alloc | apply pw_below_drewN | apply below_drew1) | exact HB.out)) hb); clear HO_8; clear HO_10; clear HO_12; clear HO_14; clear HB; have HO_8 := n0_; have HO_10 := n1_; have HO_12 := n2_; have HO_14 := n3_; have HB := n4_; clear n0_ n1_ n2_ n3_ n4_; (try clear hb); (try clear hb2); (try clear hk); (try clear hi); obtain ⟨Ao123, co123, eo123⟩ := Kd.R_slice HO_14.out; subst eo123) | (go_at_call 27; (with_reducible refine (cohousinglaw04_has.calls kj62 _ _ t350 a2 t366 _ ?side1 ?side2 A115.out).mono ?_); (case side1 => repeat (first | exact (Kd.R_reads' HO_14.out).2.2 | (with_reducible refine Kd.C_alloc ?_ _) | (with_reducible refine Kd.C_drewN ?_ _) | (with_reducible refine Kd.C_drew ?_))); (case side2 => exact (Kd.R_reads' HO_14.out).2.1); rintro e w124 ⟨rfl, hb⟩; have n0_ := Aside0.mk (Kd.R_below (by (with_reducible repeat (first | apply Kd.R_alloc | apply Kd.R_drewN | apply Kd.R_drew)); exact HO_8.out) hb); have n1_ := Aside0.mk (Kd.R_below (by (with_reducible repeat (first | apply Kd.R_alloc | apply Kd.R_drewN | apply Kd.R_drew)); exact HO_10.out) hb); have n2_ := Aside0.mk (Kd.R_below (by (with_reducible repeat (first | apply Kd.R_alloc | apply Kd.R_drewN | apply Kd.R_drew)); exact HO_12.out) hb); have n3_ := Aside0.mk (Kd.R_below (by (with_reducible repeat (first | apply Kd.R_alloc | apply Kd.R_drewN | apply Kd.R_drew)); exact HO_14.out) hb); have n4_ := Aside0.mk (below_step (by repeat (first | (with_reducible first | exact HB.out | apply below_alloc | apply pw_below_drewN | apply below_drew1) | exact HB.out)) hb); clear HO_8; clear HO_10; clear HO_12; clear HO_14; clear HB; have HO_8 := n0_; have HO_10 := n1_; have HO_12 := n2_; have HO_14 := n3_; have HB := n4_; clear n0_ n1_ n2_ n3_ n4_; (try clear hb); (try clear hb2); (try clear hk); (try clear hi)))
                                    go_ret
                                    exact ⟨by first | rfl | (simp [errW_none, errW_some] <;> rfl) | (simp [*, errW_none, errW_some] <;> rfl), by repeat (first | (with_reducible first | exact HB.out | apply below_alloc | apply pw_below_drewN | apply below_drew1) | exact HB.out)⟩
                                  · rw [if_neg c116] at H
                                    exact absurd H (by simp)
                                · rw [if_neg c114] at H
                                  exact absurd H (by simp)
                              · rw [if_neg c112] at H
                                exact absurd H (by simp)
                            · rw [if_neg c110] at H
                              exact absurd H (by simp)
                        · replace c92 := Bool.eq_false_iff.mpr c92
                          subst c92
                          have H1 : (none) = some r := by rw [if_neg (show ¬ (false = true) by decide)] at H; exact H
                          clear H
                          have H := H1
                          clear H1
                          exact absurd H (by simp)
          · rw [if_neg c19] at H
            exact absurd H (by simp)
        · rw [if_neg c18] at H
          exact absurd H (by simp)

end Go.Proofs.Ytbfgblfhonpgaaa.X
