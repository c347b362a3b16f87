-- Written by a program of mine (wip/tools/xprint.py) over the kit's print.py: printed functions and hand-proved ones side by side.
import Derived.Test.YthcjocojngochaaGreatDoorXx0
import Derived.Test.YthcjocojngochaaGreatDoorXx3
import Derived.Test.YthcjocojngochaaGreatDoorXx13
import Derived.Test.YthcjocojngochaaGreatDoorXx14
import Derived.Test.YthcjocojngochaaGreatDoorXx16
namespace Go.Proofs.YthcjocojngochaaGreatDoor.X
open Go.RowKit Go.Proofs.YthcjocojngochaaGreatDoorW.PrintWords Go.Proofs.YthcjocojngochaaGreatDoorW.PrintLast Go.Proofs.YthcjocojngochaaGreatDoorW.PrintMore
attribute [local go_sem] max2_int min2_int max_two min_two max_three min_three max_four min_four   -- for this text's walks alone
set_option linter.unusedVariables false
set_option linter.unusedSimpArgs false

/-! ### cohousinglaw16_FactsDays: function 5 -/
mutual
def cohousinglaw16_FactsDays.j0 : Nat → List (S26) → Int → ByteArray → Int → Int → Int → Int → Int → Bool → Int → Bool → Bool → Option (Bool)
  | 0, _, _, _, _, _, _, _, _, _, _, _, _ => none
  | k + 1, x0, x1, x2, x3, x4, x5, x6, x16, x17, x19, x20, x58 => if x58 = true then (some true) else ((facts_Days.f x0 x1 x2 x3 x5).bind fun bt233 => ((facts_Days.f x0 x1 x2 x16 x5).bind fun bt237 => ((facts_Differ.f x0 x1 x2 x5 x6).bind fun bt241 => (if bt233.2 = 0 then (if bt237.2 = 0 then (if bt241.2 = 0 then ((span_Valid.f k bt233.1).bind fun t245 => (if t245 = true then ((span_Valid.f k bt237.1).bind fun t246 => (if t246 = true then ((span_Valid.f k bt241.1).bind fun t247 => (cohousinglaw16_FactsDays.j1 k x3 x4 x16 x17 x19 x20 bt233.1 bt237.1 bt241.1 (!t247))) else (cohousinglaw16_FactsDays.j1 k x3 x4 x16 x17 x19 x20 bt233.1 bt237.1 bt241.1 true))) else (cohousinglaw16_FactsDays.j1 k x3 x4 x16 x17 x19 x20 bt233.1 bt237.1 bt241.1 true))) else (cohousinglaw16_FactsDays.j1 k x3 x4 x16 x17 x19 x20 bt233.1 bt237.1 bt241.1 true)) else (cohousinglaw16_FactsDays.j1 k x3 x4 x16 x17 x19 x20 bt233.1 bt237.1 bt241.1 true)) else (cohousinglaw16_FactsDays.j1 k x3 x4 x16 x17 x19 x20 bt233.1 bt237.1 bt241.1 true)))))
def cohousinglaw16_FactsDays.j1 : Nat → Int → Int → Int → Bool → Int → Bool → List (S24) → List (S24) → List (S24) → Bool → Option (Bool)
  | 0, _, _, _, _, _, _, _, _, _, _ => none
  | k + 1, x3, x4, x16, x17, x19, x20, x22, x24, x26, x111 => if x111 = true then (none) else ((cohousinglaw16_has.f k x22 x4).bind fun t248 => (if x17 = true then (if (t248 == (x16 == x3)) = true then ((cohousinglaw16_has.f k x24 x4).bind fun t249 => (if (t249 == x17) = true then ((cohousinglaw16_has.f k x26 x4).bind fun t250 => (if (x17 != x20) = true then (if (t250 == true) = true then (some true) else (none)) else (if (t250 == (x16 != x19)) = true then (some true) else (none)))) else (none))) else (none)) else (if (t248 == false) = true then ((cohousinglaw16_has.f k x24 x4).bind fun t251 => (if (t251 == x17) = true then ((cohousinglaw16_has.f k x26 x4).bind fun t252 => (if (x17 != x20) = true then (if (t252 == true) = true then (some true) else (none)) else (if (t252 == (x16 != x19)) = true then (some true) else (none)))) else (none))) else (none))))
end
def cohousinglaw16_FactsDays.f (k : Nat) (l0 : List (S26)) (a1 : Int) (a2 : ByteArray) (a3 : Int) (a4 : Int) (a5 : Int) (a6 : Int) : Option (Bool) := (cohousinglaw16_head.f k).bind fun t226 => (if t226 = true then (if (l0.length : Int) > 400 then (some true) else ((facts_Value.f l0 a1 a2 a4 a5).bind fun bt227 => ((facts_Value.f l0 a1 a2 a4 a6).bind fun bt230 => (if bt227.2.2 = 0 then (cohousinglaw16_FactsDays.j0 k l0 a1 a2 a3 a4 a5 a6 bt227.1 bt227.2.1 bt230.1 bt230.2.1 (bt230.2.2 != 0)) else (cohousinglaw16_FactsDays.j0 k l0 a1 a2 a3 a4 a5 a6 bt227.1 bt227.2.1 bt230.1 bt230.2.1 true))))) else (none))
theorem cohousinglaw16_FactsDays.mono_l : ∀ k, (∀ y0 y1 y2 y3 y4 y5 y6 y7 y8 y9 y10 y11, LeO (cohousinglaw16_FactsDays.j0 k y0 y1 y2 y3 y4 y5 y6 y7 y8 y9 y10 y11) (cohousinglaw16_FactsDays.j0 (k + 1) y0 y1 y2 y3 y4 y5 y6 y7 y8 y9 y10 y11)) ∧ (∀ y0 y1 y2 y3 y4 y5 y6 y7 y8 y9, LeO (cohousinglaw16_FactsDays.j1 k y0 y1 y2 y3 y4 y5 y6 y7 y8 y9) (cohousinglaw16_FactsDays.j1 (k + 1) y0 y1 y2 y3 y4 y5 y6 y7 y8 y9))
  | 0 => ⟨fun _ _ _ _ _ _ _ _ _ _ _ _ r h => by simp [cohousinglaw16_FactsDays.j0] at h, fun _ _ _ _ _ _ _ _ _ _ r h => by simp [cohousinglaw16_FactsDays.j1] at h⟩
  | k + 1 => by
    obtain ⟨ih0, ih1⟩ := cohousinglaw16_FactsDays.mono_l k
    refine ⟨?_, ?_⟩
    · intro y0 y1 y2 y3 y4 y5 y6 y7 y8 y9 y10 y11
      unfold cohousinglaw16_FactsDays.j0
      repeat' first
      | (with_reducible exact ih0 _ _ _ _ _ _ _ _ _ _ _ _)
      | (with_reducible exact ih1 _ _ _ _ _ _ _ _ _ _)
      | (with_reducible exact cohousinglaw16_has.mono _ _ _)
      | (with_reducible exact cohousinglaw16_head.mono _)
      | (with_reducible exact span_Valid.mono _ _)
      | (with_reducible exact LeO.refl _)
      | (with_reducible exact LeO.none _)
      | (with_reducible refine LeO.ite ?_ ?_)
      | (with_reducible refine LeO.bind ?_ (fun _ => ?_))
      | exact ih0 _ _ _ _ _ _ _ _ _ _ _ _
      | exact ih1 _ _ _ _ _ _ _ _ _ _
      | exact cohousinglaw16_has.mono _ _ _
      | exact cohousinglaw16_head.mono _
      | exact span_Valid.mono _ _
      | exact LeO.none _
      | refine LeO.ite ?_ ?_
      | refine LeO.bind ?_ (fun _ => ?_)
    · intro y0 y1 y2 y3 y4 y5 y6 y7 y8 y9
      unfold cohousinglaw16_FactsDays.j1
      repeat' first
      | (with_reducible exact ih0 _ _ _ _ _ _ _ _ _ _ _ _)
      | (with_reducible exact ih1 _ _ _ _ _ _ _ _ _ _)
      | (with_reducible exact cohousinglaw16_has.mono _ _ _)
      | (with_reducible exact cohousinglaw16_head.mono _)
      | (with_reducible exact span_Valid.mono _ _)
      | (with_reducible exact LeO.refl _)
      | (with_reducible exact LeO.none _)
      | (with_reducible refine LeO.ite ?_ ?_)
      | (with_reducible refine LeO.bind ?_ (fun _ => ?_))
      | exact ih0 _ _ _ _ _ _ _ _ _ _ _ _
      | exact ih1 _ _ _ _ _ _ _ _ _ _
      | exact cohousinglaw16_has.mono _ _ _
      | exact cohousinglaw16_head.mono _
      | exact span_Valid.mono _ _
      | exact LeO.none _
      | refine LeO.ite ?_ ?_
      | refine LeO.bind ?_ (fun _ => ?_)
theorem cohousinglaw16_FactsDays.mono : ∀ a0 a1 a2 a3 a4 a5 a6 k, LeO (cohousinglaw16_FactsDays.f k a0 a1 a2 a3 a4 a5 a6) (cohousinglaw16_FactsDays.f (k + 1) a0 a1 a2 a3 a4 a5 a6) := by
  intro a0 a1 a2 a3 a4 a5 a6 k
  obtain ⟨ih0, ih1⟩ := cohousinglaw16_FactsDays.mono_l k
  unfold cohousinglaw16_FactsDays.f
  repeat' first
      | (with_reducible exact ih0 _ _ _ _ _ _ _ _ _ _ _ _)
      | (with_reducible exact ih1 _ _ _ _ _ _ _ _ _ _)
      | (with_reducible exact cohousinglaw16_has.mono _ _ _)
      | (with_reducible exact cohousinglaw16_head.mono _)
      | (with_reducible exact span_Valid.mono _ _)
      | (with_reducible exact LeO.refl _)
      | (with_reducible exact LeO.none _)
      | (with_reducible refine LeO.ite ?_ ?_)
      | (with_reducible refine LeO.bind ?_ (fun _ => ?_))
      | exact ih0 _ _ _ _ _ _ _ _ _ _ _ _
      | exact ih1 _ _ _ _ _ _ _ _ _ _
      | exact cohousinglaw16_has.mono _ _ _
      | exact cohousinglaw16_head.mono _
      | exact span_Valid.mono _ _
      | exact LeO.none _
      | refine LeO.ite ?_ ?_
      | refine LeO.bind ?_ (fun _ => ?_)
set_option maxHeartbeats 8000000 in
set_option maxRecDepth 100000 in
theorem cohousinglaw16_FactsDays.calls (k : Nat) (A0 : Option Addr) (c0 : Nat) (l0 : List (S26)) (a1 : Int) (a2 : ByteArray) (a3 : Int) (a4 : Int) (a5 : Int) (a6 : Int) (r : Bool) (w : World) (hr0 : Kd.C k26 w A0 l0.length l0) (hc0 : l0.length ≤ c0) (h : cohousinglaw16_FactsDays.f k l0 a1 a2 a3 a4 a5 a6 = some r) :
    Calls Tryz.prog 5 #[.slice A0 l0.length c0, .int .i64 a1, .string a2, .int .i64 a3, .int .i64 a4, .int .i64 a5, .int .i64 a6] w fun e w' => e = .returned (.bool r) ∧ Below w.heap.size w w' := by
  have HR0 := Aside0.mk hr0
  have HC0 := Aside0.mk hc0
  clear hr0 hc0
  have HB := Aside0.mk (Below.refl w.heap.size w)
  have H : ((cohousinglaw16_head.f k).bind fun t226 => (if t226 = true then (if (l0.length : Int) > 400 then (some true) else ((facts_Value.f l0 a1 a2 a4 a5).bind fun bt227 => ((facts_Value.f l0 a1 a2 a4 a6).bind fun bt230 => (if bt227.2.2 = 0 then (cohousinglaw16_FactsDays.j0 k l0 a1 a2 a3 a4 a5 a6 bt227.1 bt227.2.1 bt230.1 bt230.2.1 (bt230.2.2 != 0)) else (cohousinglaw16_FactsDays.j0 k l0 a1 a2 a3 a4 a5 a6 bt227.1 bt227.2.1 bt230.1 bt230.2.1 true))))) else (none))) = some r := h
  clear h
  replace H := Option.bind_eq_some_iff.mp H
  obtain ⟨t226, A80, H⟩ := H
  replace H : (if t226 = true then (if (l0.length : Int) > 400 then (some true) else ((facts_Value.f l0 a1 a2 a4 a5).bind fun bt227 => ((facts_Value.f l0 a1 a2 a4 a6).bind fun bt230 => (if bt227.2.2 = 0 then (cohousinglaw16_FactsDays.j0 k l0 a1 a2 a3 a4 a5 a6 bt227.1 bt227.2.1 bt230.1 bt230.2.1 (bt230.2.2 != 0)) else (cohousinglaw16_FactsDays.j0 k l0 a1 a2 a3 a4 a5 a6 bt227.1 bt227.2.1 bt230.1 bt230.2.1 true))))) else (none)) = some r := H
  have A8 := Aside0.mk A80
  clear A80
  by_cases c9 : t226 = true
  · subst c9
    have H1 : (if (l0.length : Int) > 400 then (some true) else ((facts_Value.f l0 a1 a2 a4 a5).bind fun bt227 => ((facts_Value.f l0 a1 a2 a4 a6).bind fun bt230 => (if bt227.2.2 = 0 then (cohousinglaw16_FactsDays.j0 k l0 a1 a2 a3 a4 a5 a6 bt227.1 bt227.2.1 bt230.1 bt230.2.1 (bt230.2.2 != 0)) else (cohousinglaw16_FactsDays.j0 k l0 a1 a2 a3 a4 a5 a6 bt227.1 bt227.2.1 bt230.1 bt230.2.1 true))))) = some r := by rw [if_pos rfl] at H; exact H
    clear H
    have H := H1
    clear H1
    by_cases c10 : (l0.length : Int) > 400
    · rw [if_pos c10] at H
      have c10b0 : decide (400 < (l0.length : Int)) = true := decide_eq_true c10
      have c10b1 : decide (400 < l0.length) = true := decide_eq_true (by omega)
      clear c10
      obtain rfl := Option.some.inj H
      go_enter Tryz.func5, Tryz.ntmps5
      go_wp2_with (first | ((with_reducible refine gate_callee (f := 10) rfl ?_); refine goesL_ (some 28) rfl rfl Tryz.func10 (by kernel_rfl) rfl #[] rfl (by (try simp only [List.map_toArray, List.map_cons, List.map_nil]); first | done | rfl | (simp only [List.length_drop, List.length_take]; rfl)) ?_; (with_reducible refine (cohousinglaw16_head.calls k  true _ A8.out).mono ?_); rintro e w11 ⟨rfl, hb⟩; refine ⟨_, rfl, ?_⟩; have n0_ := Aside0.mk (below_step (by repeat (first | (with_reducible first | exact HB.out | apply below_alloc | apply pw_below_drewN | apply below_drew1) | exact HB.out)) hb); clear HB; have HB := n0_; clear n0_; (try clear hb); (try clear hb2); (try clear hk); (try clear hi)))
      go_ret
      exact ⟨by first | rfl | (simp [errW_none, errW_some] <;> rfl) | (simp [*, errW_none, errW_some] <;> rfl), by repeat (first | (with_reducible first | exact HB.out | apply below_alloc | apply pw_below_drewN | apply below_drew1) | exact HB.out)⟩
    · rw [if_neg c10] at H
      have c10b0 : decide (400 < (l0.length : Int)) = false := decide_eq_false c10
      have c10b1 : decide (400 < l0.length) = false := decide_eq_false (by omega)
      clear c10
      replace H := Option.bind_eq_some_iff.mp H
      obtain ⟨⟨t227, t228, t229⟩, A120, H⟩ := H
      replace H : ((facts_Value.f l0 a1 a2 a4 a6).bind fun bt230 => (if t229 = 0 then (cohousinglaw16_FactsDays.j0 k l0 a1 a2 a3 a4 a5 a6 t227 t228 bt230.1 bt230.2.1 (bt230.2.2 != 0)) else (cohousinglaw16_FactsDays.j0 k l0 a1 a2 a3 a4 a5 a6 t227 t228 bt230.1 bt230.2.1 true))) = some r := H
      have A12 := Aside0.mk A120
      clear A120
      replace H := Option.bind_eq_some_iff.mp H
      obtain ⟨⟨t230, t231, t232⟩, A130, H⟩ := H
      replace H : (if t229 = 0 then (cohousinglaw16_FactsDays.j0 k l0 a1 a2 a3 a4 a5 a6 t227 t228 t230 t231 (t232 != 0)) else (cohousinglaw16_FactsDays.j0 k l0 a1 a2 a3 a4 a5 a6 t227 t228 t230 t231 true)) = some r := H
      have A13 := Aside0.mk A130
      clear A130
      have HC14 := Aside0.mk H
      clear H
      go_enter Tryz.func5, Tryz.ntmps5
      go_upto_region 6 with (first | ((with_reducible refine gate_callee (f := 10) rfl ?_); refine goesL_ (some 28) rfl rfl Tryz.func10 (by kernel_rfl) rfl #[] rfl (by (try simp only [List.map_toArray, List.map_cons, List.map_nil]); first | done | rfl | (simp only [List.length_drop, List.length_take]; rfl)) ?_; (with_reducible refine (cohousinglaw16_head.calls k  true _ A8.out).mono ?_); rintro e w15 ⟨rfl, hb⟩; refine ⟨_, rfl, ?_⟩; have n0_ := Aside0.mk (below_step (by repeat (first | (with_reducible first | exact HB.out | apply below_alloc | apply pw_below_drewN | apply below_drew1) | exact HB.out)) hb); clear HB; have HB := n0_; clear n0_; (try clear hb); (try clear hb2); (try clear hk); (try clear hi)) | ((with_reducible refine gate_callee (f := 12) rfl ?_); refine goesL_ (some 39) rfl rfl Tryz.func12 (by kernel_rfl) rfl #[.slice A0 l0.length c0, .int .i64 a1, .string a2, .int .i64 a4, .int .i64 a5] rfl (by (try simp only [List.map_toArray, List.map_cons, List.map_nil]); first | done | rfl | (simp only [List.length_drop, List.length_take]; rfl)) ?_; (with_reducible refine (facts_Value.calls _ _ l0 a1 a2 a4 a5 t227 t228 t229 _ ?side1 ?side2 A12.out).mono ?_); (case side1 => repeat (first | exact (Kd.C_below HR0.out HB.out) | (with_reducible refine Kd.C_alloc ?_ _) | (with_reducible refine Kd.C_drewN ?_ _) | (with_reducible refine Kd.C_drew ?_))); (case side2 => exact HC0.out); rintro e w16 ⟨rfl, hb⟩; refine ⟨_, rfl, ?_⟩; have n0_ := Aside0.mk (below_step (by repeat (first | (with_reducible first | exact HB.out | apply below_alloc | apply pw_below_drewN | apply below_drew1) | exact HB.out)) hb); clear HB; have HB := n0_; clear n0_; (try clear hb); (try clear hb2); (try clear hk); (try clear hi)) | ((with_reducible refine gate_callee (f := 12) rfl ?_); refine goesL_ (some 49) rfl rfl Tryz.func12 (by kernel_rfl) rfl #[.slice A0 l0.length c0, .int .i64 a1, .string a2, .int .i64 a4, .int .i64 a6] rfl (by (try simp only [List.map_toArray, List.map_cons, List.map_nil]); first | done | rfl | (simp only [List.length_drop, List.length_take]; rfl)) ?_; (with_reducible refine (facts_Value.calls _ _ l0 a1 a2 a4 a6 t230 t231 t232 _ ?side1 ?side2 A13.out).mono ?_); (case side1 => repeat (first | exact (Kd.C_below HR0.out HB.out) | (with_reducible refine Kd.C_alloc ?_ _) | (with_reducible refine Kd.C_drewN ?_ _) | (with_reducible refine Kd.C_drew ?_))); (case side2 => exact HC0.out); rintro e w17 ⟨rfl, hb⟩; refine ⟨_, rfl, ?_⟩; have n0_ := Aside0.mk (below_step (by repeat (first | (with_reducible first | exact HB.out | apply below_alloc | apply pw_below_drewN | apply below_drew1) | exact HB.out)) hb); clear HB; have HB := n0_; clear n0_; (try clear hb); (try clear hb2); (try clear hk); (try clear hi)))
      (try simp only [Act.put, List.setIfInBounds_toArray, List.set_cons_zero, List.set_cons_succ])
      go_cut [58] (fun v58 wc => ∃ (kq : Nat) (x58_13 : Bool), v58 = .bool x58_13 ∧ Aside0 (cohousinglaw16_FactsDays.j0 kq l0 a1 a2 a3 a4 a5 a6 t227 t228 t230 t231 x58_13 = some r) ∧ Aside0 (kq ≤ k) ∧ Aside0 (Below w.heap.size w wc))
      case first =>
        have H := HC14.out
        clear HC14
        by_cases c18 : t229 = 0
        · rw [if_pos c18] at H
          have c18b0 : (t229 == 0) = true := beq_iff_eq.mpr c18
          have c18b1 : (t229 != 0) = false := bne_eq_false_iff_eq.mpr c18
          clear c18
          (first | rw [c18b0] | (simp only [i64_w, i32_w]; rw [c18b0]) | skip)
          have H' := Aside0.mk H
          clear H
          go_wp2
          go_meet
          case rel => exact ⟨_, ((t232 != 0)), (by first | rfl | (simp; done) | (simp [*]; done)), H', ⟨by first | omega | exact Nat.le_refl _⟩, ⟨by repeat (first | (with_reducible first | exact HB.out | apply below_alloc | apply pw_below_drewN | apply below_drew1) | exact HB.out)⟩⟩
        · rw [if_neg c18] at H
          have c18b0 : (t229 == 0) = false := beq_eq_false_iff_ne.mpr c18
          have c18b1 : (t229 != 0) = true := bne_iff_ne.mpr c18
          (first | rw [c18b0] | (simp only [i64_w, i32_w]; rw [c18b0]) | skip)
          have H' := Aside0.mk H
          clear H
          go_wp2
          go_meet
          case rel => exact ⟨_, (true), (by first | rfl | (simp; done) | (simp [*]; done)), H', ⟨by first | omega | exact Nat.le_refl _⟩, ⟨by repeat (first | (with_reducible first | exact HB.out | apply below_alloc | apply pw_below_drewN | apply below_drew1) | exact HB.out)⟩⟩
      case rest =>
        clear HC14
        try clear c1
        try clear p2
        try clear c5
        try clear c9
        try clear c10
        try clear c10b0
        try clear c10b1
        try clear c12
        try clear c18
        try clear c18b0
        try clear c18b1
        obtain ⟨kq, x58_13, rfl, HA, HJ13, HB⟩ := hcut
        cases kq with
        | zero => exact absurd HA.out (by simp [cohousinglaw16_FactsDays.j0])
        | succ kj13 =>
          have H := HA.out
          clear HA
          simp only [cohousinglaw16_FactsDays.j0] at H
          by_cases c19 : x58_13 = true
          · subst c19
            have H1 : (some true) = some r := by rw [if_pos rfl] at H; exact H
            clear H
            have H := H1
            clear H1
            obtain rfl := Option.some.inj H
            go_wp2
            go_ret
            exact ⟨by first | rfl | (simp [errW_none, errW_some] <;> rfl) | (simp [*, errW_none, errW_some] <;> rfl), by repeat (first | (with_reducible first | exact HB.out | apply below_alloc | apply pw_below_drewN | apply below_drew1) | exact HB.out)⟩
          · replace c19 := Bool.eq_false_iff.mpr c19
            subst c19
            have H1 : ((facts_Days.f l0 a1 a2 a3 a5).bind fun bt233 => ((facts_Days.f l0 a1 a2 t227 a5).bind fun bt237 => ((facts_Differ.f l0 a1 a2 a5 a6).bind fun bt241 => (if bt233.2 = 0 then (if bt237.2 = 0 then (if bt241.2 = 0 then ((span_Valid.f kj13 bt233.1).bind fun t245 => (if t245 = true then ((span_Valid.f kj13 bt237.1).bind fun t246 => (if t246 = true then ((span_Valid.f kj13 bt241.1).bind fun t247 => (cohousinglaw16_FactsDays.j1 kj13 a3 a4 t227 t228 t230 t231 bt233.1 bt237.1 bt241.1 (!t247))) else (cohousinglaw16_FactsDays.j1 kj13 a3 a4 t227 t228 t230 t231 bt233.1 bt237.1 bt241.1 true))) else (cohousinglaw16_FactsDays.j1 kj13 a3 a4 t227 t228 t230 t231 bt233.1 bt237.1 bt241.1 true))) else (cohousinglaw16_FactsDays.j1 kj13 a3 a4 t227 t228 t230 t231 bt233.1 bt237.1 bt241.1 true)) else (cohousinglaw16_FactsDays.j1 kj13 a3 a4 t227 t228 t230 t231 bt233.1 bt237.1 bt241.1 true)) else (cohousinglaw16_FactsDays.j1 kj13 a3 a4 t227 t228 t230 t231 bt233.1 bt237.1 bt241.1 true))))) = some r := by rw [if_neg (show ¬ (false = true) by decide)] at H; exact H
            clear H
            have H := H1
            clear H1
            replace H := Option.bind_eq_some_iff.mp H
            obtain ⟨⟨t233, t234⟩, A200, H⟩ := H
            replace H : ((facts_Days.f l0 a1 a2 t227 a5).bind fun bt237 => ((facts_Differ.f l0 a1 a2 a5 a6).bind fun bt241 => (if t234 = 0 then (if bt237.2 = 0 then (if bt241.2 = 0 then ((span_Valid.f kj13 t233).bind fun t245 => (if t245 = true then ((span_Valid.f kj13 bt237.1).bind fun t246 => (if t246 = true then ((span_Valid.f kj13 bt241.1).bind fun t247 => (cohousinglaw16_FactsDays.j1 kj13 a3 a4 t227 t228 t230 t231 t233 bt237.1 bt241.1 (!t247))) else (cohousinglaw16_FactsDays.j1 kj13 a3 a4 t227 t228 t230 t231 t233 bt237.1 bt241.1 true))) else (cohousinglaw16_FactsDays.j1 kj13 a3 a4 t227 t228 t230 t231 t233 bt237.1 bt241.1 true))) else (cohousinglaw16_FactsDays.j1 kj13 a3 a4 t227 t228 t230 t231 t233 bt237.1 bt241.1 true)) else (cohousinglaw16_FactsDays.j1 kj13 a3 a4 t227 t228 t230 t231 t233 bt237.1 bt241.1 true)) else (cohousinglaw16_FactsDays.j1 kj13 a3 a4 t227 t228 t230 t231 t233 bt237.1 bt241.1 true)))) = some r := H
            have A20 := Aside0.mk A200
            clear A200
            replace H := Option.bind_eq_some_iff.mp H
            obtain ⟨⟨t237, t238⟩, A210, H⟩ := H
            replace H : ((facts_Differ.f l0 a1 a2 a5 a6).bind fun bt241 => (if t234 = 0 then (if t238 = 0 then (if bt241.2 = 0 then ((span_Valid.f kj13 t233).bind fun t245 => (if t245 = true then ((span_Valid.f kj13 t237).bind fun t246 => (if t246 = true then ((span_Valid.f kj13 bt241.1).bind fun t247 => (cohousinglaw16_FactsDays.j1 kj13 a3 a4 t227 t228 t230 t231 t233 t237 bt241.1 (!t247))) else (cohousinglaw16_FactsDays.j1 kj13 a3 a4 t227 t228 t230 t231 t233 t237 bt241.1 true))) else (cohousinglaw16_FactsDays.j1 kj13 a3 a4 t227 t228 t230 t231 t233 t237 bt241.1 true))) else (cohousinglaw16_FactsDays.j1 kj13 a3 a4 t227 t228 t230 t231 t233 t237 bt241.1 true)) else (cohousinglaw16_FactsDays.j1 kj13 a3 a4 t227 t228 t230 t231 t233 t237 bt241.1 true)) else (cohousinglaw16_FactsDays.j1 kj13 a3 a4 t227 t228 t230 t231 t233 t237 bt241.1 true))) = some r := H
            have A21 := Aside0.mk A210
            clear A210
            replace H := Option.bind_eq_some_iff.mp H
            obtain ⟨⟨t241, t242⟩, A220, H⟩ := H
            replace H : (if t234 = 0 then (if t238 = 0 then (if t242 = 0 then ((span_Valid.f kj13 t233).bind fun t245 => (if t245 = true then ((span_Valid.f kj13 t237).bind fun t246 => (if t246 = true then ((span_Valid.f kj13 t241).bind fun t247 => (cohousinglaw16_FactsDays.j1 kj13 a3 a4 t227 t228 t230 t231 t233 t237 t241 (!t247))) else (cohousinglaw16_FactsDays.j1 kj13 a3 a4 t227 t228 t230 t231 t233 t237 t241 true))) else (cohousinglaw16_FactsDays.j1 kj13 a3 a4 t227 t228 t230 t231 t233 t237 t241 true))) else (cohousinglaw16_FactsDays.j1 kj13 a3 a4 t227 t228 t230 t231 t233 t237 t241 true)) else (cohousinglaw16_FactsDays.j1 kj13 a3 a4 t227 t228 t230 t231 t233 t237 t241 true)) else (cohousinglaw16_FactsDays.j1 kj13 a3 a4 t227 t228 t230 t231 t233 t237 t241 true)) = some r := H
            have A22 := Aside0.mk A220
            clear A220
            have HC23 := Aside0.mk H
            clear H
            go_upto_region 11 with (first | ((with_reducible refine gate_callee (f := 13) rfl ?_); refine goesL_ (some 66) rfl rfl Tryz.func13 (by kernel_rfl) rfl #[.slice A0 l0.length c0, .int .i64 a1, .string a2, .int .i64 a3, .int .i64 a5] rfl (by (try simp only [List.map_toArray, List.map_cons, List.map_nil]); first | done | rfl | (simp only [List.length_drop, List.length_take]; rfl)) ?_; (with_reducible refine (facts_Days.calls _ _ l0 a1 a2 a3 a5 t233 t234 _ ?side1 ?side2 A20.out).mono ?_); (case side1 => repeat (first | exact (Kd.C_below HR0.out HB.out) | (with_reducible refine Kd.C_alloc ?_ _) | (with_reducible refine Kd.C_drewN ?_ _) | (with_reducible refine Kd.C_drew ?_))); (case side2 => exact HC0.out); rintro e w24 ⟨v235, rfl, ho0, hb⟩; refine ⟨_, rfl, ?_⟩; have n0_ := Aside0.mk (Kd.R_lower ho0 (below_size (by repeat (first | (with_reducible first | exact HB.out | apply below_alloc | apply pw_below_drewN | apply below_drew1) | exact HB.out)))); have n1_ := Aside0.mk (below_step (by repeat (first | (with_reducible first | exact HB.out | apply below_alloc | apply pw_below_drewN | apply below_drew1) | exact HB.out)) hb); clear HB; have HO236 := n0_; have HB := n1_; clear n0_ n1_; (try clear hb); (try clear hb2); (try clear hk); (try clear hi); (try clear ho0)) | ((with_reducible refine gate_callee (f := 13) rfl ?_); refine goesL_ (some 75) rfl rfl Tryz.func13 (by kernel_rfl) rfl #[.slice A0 l0.length c0, .int .i64 a1, .string a2, .int .i64 t227, .int .i64 a5] rfl (by (try simp only [List.map_toArray, List.map_cons, List.map_nil]); first | done | rfl | (simp only [List.length_drop, List.length_take]; rfl)) ?_; (with_reducible refine (facts_Days.calls _ _ l0 a1 a2 t227 a5 t237 t238 _ ?side1 ?side2 A21.out).mono ?_); (case side1 => repeat (first | exact (Kd.C_below HR0.out HB.out) | (with_reducible refine Kd.C_alloc ?_ _) | (with_reducible refine Kd.C_drewN ?_ _) | (with_reducible refine Kd.C_drew ?_))); (case side2 => exact HC0.out); rintro e w25 ⟨v239, rfl, ho0, hb⟩; refine ⟨_, rfl, ?_⟩; have n0_ := Aside0.mk (Kd.R_elder' (by (with_reducible repeat (first | apply Kd.R_alloc | apply Kd.R_drewN | apply Kd.R_drew)); exact HO236.out) (Kd.R_base ho0) hb); have n1_ := Aside0.mk (Kd.R_lower (Kd.R_new' ho0 (Kd.R_lt (by (with_reducible repeat (first | apply Kd.R_alloc | apply Kd.R_drewN | apply Kd.R_drew)); exact HO236.out))) (below_size (by repeat (first | (with_reducible first | exact HB.out | apply below_alloc | apply pw_below_drewN | apply below_drew1) | exact HB.out)))); have n2_ := Aside0.mk (below_step (by repeat (first | (with_reducible first | exact HB.out | apply below_alloc | apply pw_below_drewN | apply below_drew1) | exact HB.out)) hb); clear HO236; clear HB; have HO236 := n0_; have HO240 := n1_; have HB := n2_; clear n0_ n1_ n2_; (try clear hb); (try clear hb2); (try clear hk); (try clear hi); (try clear ho0)) | ((with_reducible refine gate_callee (f := 15) rfl ?_); refine goesL_ (some 84) rfl rfl Tryz.func15 (by kernel_rfl) rfl #[.slice A0 l0.length c0, .int .i64 a1, .string a2, .int .i64 a5, .int .i64 a6] rfl (by (try simp only [List.map_toArray, List.map_cons, List.map_nil]); first | done | rfl | (simp only [List.length_drop, List.length_take]; rfl)) ?_; (with_reducible refine (facts_Differ.calls _ _ l0 a1 a2 a5 a6 t241 t242 _ ?side1 ?side2 A22.out).mono ?_); (case side1 => repeat (first | exact (Kd.C_below HR0.out HB.out) | (with_reducible refine Kd.C_alloc ?_ _) | (with_reducible refine Kd.C_drewN ?_ _) | (with_reducible refine Kd.C_drew ?_))); (case side2 => exact HC0.out); rintro e w26 ⟨v243, rfl, ho0, hb⟩; refine ⟨_, rfl, ?_⟩; have n0_ := Aside0.mk (Kd.R_elder' (by (with_reducible repeat (first | apply Kd.R_alloc | apply Kd.R_drewN | apply Kd.R_drew)); exact HO236.out) (Kd.R_base ho0) hb); have n1_ := Aside0.mk (Kd.R_elder' (by (with_reducible repeat (first | apply Kd.R_alloc | apply Kd.R_drewN | apply Kd.R_drew)); exact HO240.out) (Kd.R_base ho0) hb); have n2_ := Aside0.mk (Kd.R_lower (Kd.R_new' (Kd.R_new' ho0 (Kd.R_lt (by (with_reducible repeat (first | apply Kd.R_alloc | apply Kd.R_drewN | apply Kd.R_drew)); exact HO236.out))) (Kd.R_lt (by (with_reducible repeat (first | apply Kd.R_alloc | apply Kd.R_drewN | apply Kd.R_drew)); exact HO240.out))) (below_size (by repeat (first | (with_reducible first | exact HB.out | apply below_alloc | apply pw_below_drewN | apply below_drew1) | exact HB.out)))); have n3_ := Aside0.mk (below_step (by repeat (first | (with_reducible first | exact HB.out | apply below_alloc | apply pw_below_drewN | apply below_drew1) | exact HB.out)) hb); clear HO236; clear HO240; clear HB; have HO236 := n0_; have HO240 := n1_; have HO244 := n2_; have HB := n3_; clear n0_ n1_ n2_ n3_; (try clear hb); (try clear hb2); (try clear hk); (try clear hi); (try clear ho0)))
            (try simp only [Act.put, List.setIfInBounds_toArray, List.set_cons_zero, List.set_cons_succ])
            go_cut [111] (fun v111 wc => ∃ (kq : Nat) (x111_22 : Bool), v111 = .bool x111_22 ∧ Aside0 (cohousinglaw16_FactsDays.j1 kq a3 a4 t227 t228 t230 t231 t233 t237 t241 x111_22 = some r) ∧ Aside0 (kq ≤ kj13) ∧ Aside0 (Kd.R k24 24 wc w.heap.size (fun k_ => some k_ ≠ (v239 : Value).ownBlock ∧ some k_ ≠ (v243 : Value).ownBlock) v235 t233) ∧ Aside0 (Kd.R k24 24 wc w.heap.size (fun k_ => some k_ ≠ (v235 : Value).ownBlock ∧ some k_ ≠ (v243 : Value).ownBlock) v239 t237) ∧ Aside0 (Kd.R k24 24 wc w.heap.size (fun k_ => some k_ ≠ (v235 : Value).ownBlock ∧ some k_ ≠ (v239 : Value).ownBlock) v243 t241) ∧ Aside0 (Below w.heap.size w wc))
            case first =>
              have H := HC23.out
              clear HC23
              by_cases c27 : t234 = 0
              · rw [if_pos c27] at H
                have c27b0 : (t234 == 0) = true := beq_iff_eq.mpr c27
                have c27b1 : (t234 != 0) = false := bne_eq_false_iff_eq.mpr c27
                clear c27
                (first | rw [c27b0] | (simp only [i64_w, i32_w]; rw [c27b0]) | skip)
                by_cases c28 : t238 = 0
                · rw [if_pos c28] at H
                  have c28b0 : (t238 == 0) = true := beq_iff_eq.mpr c28
                  have c28b1 : (t238 != 0) = false := bne_eq_false_iff_eq.mpr c28
                  clear c28
                  by_cases c29 : t242 = 0
                  · rw [if_pos c29] at H
                    have c29b0 : (t242 == 0) = true := beq_iff_eq.mpr c29
                    have c29b1 : (t242 != 0) = false := bne_eq_false_iff_eq.mpr c29
                    clear c29
                    replace H := Option.bind_eq_some_iff.mp H
                    obtain ⟨t245, A300, H⟩ := H
                    replace H : (if t245 = true then ((span_Valid.f kj13 t237).bind fun t246 => (if t246 = true then ((span_Valid.f kj13 t241).bind fun t247 => (cohousinglaw16_FactsDays.j1 kj13 a3 a4 t227 t228 t230 t231 t233 t237 t241 (!t247))) else (cohousinglaw16_FactsDays.j1 kj13 a3 a4 t227 t228 t230 t231 t233 t237 t241 true))) else (cohousinglaw16_FactsDays.j1 kj13 a3 a4 t227 t228 t230 t231 t233 t237 t241 true)) = some r := H
                    have A30 := Aside0.mk A300
                    clear A300
                    by_cases c31 : t245 = true
                    · subst c31
                      have H1 : ((span_Valid.f kj13 t237).bind fun t246 => (if t246 = true then ((span_Valid.f kj13 t241).bind fun t247 => (cohousinglaw16_FactsDays.j1 kj13 a3 a4 t227 t228 t230 t231 t233 t237 t241 (!t247))) else (cohousinglaw16_FactsDays.j1 kj13 a3 a4 t227 t228 t230 t231 t233 t237 t241 true))) = some r := by rw [if_pos rfl] at H; exact H
                      clear H
                      have H := H1
                      clear H1
                      replace H := Option.bind_eq_some_iff.mp H
                      obtain ⟨t246, A320, H⟩ := H
                      replace H : (if t246 = true then ((span_Valid.f kj13 t241).bind fun t247 => (cohousinglaw16_FactsDays.j1 kj13 a3 a4 t227 t228 t230 t231 t233 t237 t241 (!t247))) else (cohousinglaw16_FactsDays.j1 kj13 a3 a4 t227 t228 t230 t231 t233 t237 t241 true)) = some r := H
                      have A32 := Aside0.mk A320
                      clear A320
                      by_cases c33 : t246 = true
                      · subst c33
                        have H1 : ((span_Valid.f kj13 t241).bind fun t247 => (cohousinglaw16_FactsDays.j1 kj13 a3 a4 t227 t228 t230 t231 t233 t237 t241 (!t247))) = some r := by rw [if_pos rfl] at H; exact H
                        clear H
                        have H := H1
                        clear H1
                        replace H := Option.bind_eq_some_iff.mp H
                        obtain ⟨t247, A340, H⟩ := H
                        replace H : (cohousinglaw16_FactsDays.j1 kj13 a3 a4 t227 t228 t230 t231 t233 t237 t241 (!t247)) = some r := H
                        have A34 := Aside0.mk A340
                        clear A340
                        have H' := Aside0.mk H
                        clear H
                        obtain ⟨Ao35, co35, eo35⟩ := Kd.R_slice HO236.out
                        subst eo35
                        go_wp2_with (first | (go_at_call 16; (with_reducible refine (span_Valid.calls kj13 _ _ t233 true _ ?side1 ?side2 A30.out).mono ?_); (case side1 => repeat (first | exact (Kd.R_reads' HO236.out).2.2 | (with_reducible refine Kd.C_alloc ?_ _) | (with_reducible refine Kd.C_drewN ?_ _) | (with_reducible refine Kd.C_drew ?_))); (case side2 => exact (Kd.R_reads' HO236.out).2.1); rintro e w36 ⟨rfl, hb⟩; have n0_ := Aside0.mk (Kd.R_below (by (with_reducible repeat (first | apply Kd.R_alloc | apply Kd.R_drewN | apply Kd.R_drew)); exact HO236.out) hb); have n1_ := Aside0.mk (Kd.R_below (by (with_reducible repeat (first | apply Kd.R_alloc | apply Kd.R_drewN | apply Kd.R_drew)); exact HO240.out) hb); have n2_ := Aside0.mk (Kd.R_below (by (with_reducible repeat (first | apply Kd.R_alloc | apply Kd.R_drewN | apply Kd.R_drew)); exact HO244.out) hb); have n3_ := Aside0.mk (below_step (by repeat (first | (with_reducible first | exact HB.out | apply below_alloc | apply pw_below_drewN | apply below_drew1) | exact HB.out)) hb); clear HO236; clear HO240; clear HO244; clear HB; have HO236 := n0_; have HO240 := n1_; have HO244 := n2_; have HB := n3_; clear n0_ n1_ n2_ n3_; (try clear hb); (try clear hb2); (try clear hk); (try clear hi); obtain ⟨Ao37, co37, eo37⟩ := Kd.R_slice HO240.out; subst eo37) | (go_at_call 16; (with_reducible refine (span_Valid.calls kj13 _ _ t237 true _ ?side1 ?side2 A32.out).mono ?_); (case side1 => repeat (first | exact (Kd.R_reads' HO240.out).2.2 | (with_reducible refine Kd.C_alloc ?_ _) | (with_reducible refine Kd.C_drewN ?_ _) | (with_reducible refine Kd.C_drew ?_))); (case side2 => exact (Kd.R_reads' HO240.out).2.1); rintro e w38 ⟨rfl, hb⟩; have n0_ := Aside0.mk (Kd.R_below (by (with_reducible repeat (first | apply Kd.R_alloc | apply Kd.R_drewN | apply Kd.R_drew)); exact HO236.out) hb); have n1_ := Aside0.mk (Kd.R_below (by (with_reducible repeat (first | apply Kd.R_alloc | apply Kd.R_drewN | apply Kd.R_drew)); exact HO240.out) hb); have n2_ := Aside0.mk (Kd.R_below (by (with_reducible repeat (first | apply Kd.R_alloc | apply Kd.R_drewN | apply Kd.R_drew)); exact HO244.out) hb); have n3_ := Aside0.mk (below_step (by repeat (first | (with_reducible first | exact HB.out | apply below_alloc | apply pw_below_drewN | apply below_drew1) | exact HB.out)) hb); clear HO236; clear HO240; clear HO244; clear HB; have HO236 := n0_; have HO240 := n1_; have HO244 := n2_; have HB := n3_; clear n0_ n1_ n2_ n3_; (try clear hb); (try clear hb2); (try clear hk); (try clear hi); obtain ⟨Ao39, co39, eo39⟩ := Kd.R_slice HO244.out; subst eo39) | (go_at_call 16; (with_reducible refine (span_Valid.calls kj13 _ _ t241 t247 _ ?side1 ?side2 A34.out).mono ?_); (case side1 => repeat (first | exact (Kd.R_reads' HO244.out).2.2 | (with_reducible refine Kd.C_alloc ?_ _) | (with_reducible refine Kd.C_drewN ?_ _) | (with_reducible refine Kd.C_drew ?_))); (case side2 => exact (Kd.R_reads' HO244.out).2.1); rintro e w40 ⟨rfl, hb⟩; have n0_ := Aside0.mk (Kd.R_below (by (with_reducible repeat (first | apply Kd.R_alloc | apply Kd.R_drewN | apply Kd.R_drew)); exact HO236.out) hb); have n1_ := Aside0.mk (Kd.R_below (by (with_reducible repeat (first | apply Kd.R_alloc | apply Kd.R_drewN | apply Kd.R_drew)); exact HO240.out) hb); have n2_ := Aside0.mk (Kd.R_below (by (with_reducible repeat (first | apply Kd.R_alloc | apply Kd.R_drewN | apply Kd.R_drew)); exact HO244.out) hb); have n3_ := Aside0.mk (below_step (by repeat (first | (with_reducible first | exact HB.out | apply below_alloc | apply pw_below_drewN | apply below_drew1) | exact HB.out)) hb); clear HO236; clear HO240; clear HO244; clear HB; have HO236 := n0_; have HO240 := n1_; have HO244 := n2_; have HB := n3_; clear n0_ n1_ n2_ n3_; (try clear hb); (try clear hb2); (try clear hk); (try clear hi)))
                        go_meet
                        case rel => exact ⟨_, (!t247), (by first | rfl | (simp; done) | (simp [*]; done)), H', ⟨by have := HJ13.out; first | omega | exact Nat.le_refl _⟩, ⟨by (with_reducible repeat (first | apply Kd.R_alloc | apply Kd.R_drewN | apply Kd.R_drew)); exact Kd.R_mono HO236.out (fun _ hk => ⟨hk.1.2, hk.2⟩)⟩, ⟨by (with_reducible repeat (first | apply Kd.R_alloc | apply Kd.R_drewN | apply Kd.R_drew)); exact Kd.R_mono HO240.out (fun _ hk => ⟨hk.1.2, hk.2⟩)⟩, ⟨by (with_reducible repeat (first | apply Kd.R_alloc | apply Kd.R_drewN | apply Kd.R_drew)); exact Kd.R_mono HO244.out (fun _ hk => ⟨hk.1.2, hk.2⟩)⟩, ⟨by repeat (first | (with_reducible first | exact HB.out | apply below_alloc | apply pw_below_drewN | apply below_drew1) | exact HB.out)⟩⟩
                      · replace c33 := Bool.eq_false_iff.mpr c33
                        subst c33
                        have H1 : (cohousinglaw16_FactsDays.j1 kj13 a3 a4 t227 t228 t230 t231 t233 t237 t241 true) = some r := by rw [if_neg (show ¬ (false = true) by decide)] at H; exact H
                        clear H
                        have H := H1
                        clear H1
                        have H' := Aside0.mk H
                        clear H
                        obtain ⟨Ao41, co41, eo41⟩ := Kd.R_slice HO236.out
                        subst eo41
                        go_wp2_with (first | (go_at_call 16; (with_reducible refine (span_Valid.calls kj13 _ _ t233 true _ ?side1 ?side2 A30.out).mono ?_); (case side1 => repeat (first | exact (Kd.R_reads' HO236.out).2.2 | (with_reducible refine Kd.C_alloc ?_ _) | (with_reducible refine Kd.C_drewN ?_ _) | (with_reducible refine Kd.C_drew ?_))); (case side2 => exact (Kd.R_reads' HO236.out).2.1); rintro e w42 ⟨rfl, hb⟩; have n0_ := Aside0.mk (Kd.R_below (by (with_reducible repeat (first | apply Kd.R_alloc | apply Kd.R_drewN | apply Kd.R_drew)); exact HO236.out) hb); have n1_ := Aside0.mk (Kd.R_below (by (with_reducible repeat (first | apply Kd.R_alloc | apply Kd.R_drewN | apply Kd.R_drew)); exact HO240.out) hb); have n2_ := Aside0.mk (Kd.R_below (by (with_reducible repeat (first | apply Kd.R_alloc | apply Kd.R_drewN | apply Kd.R_drew)); exact HO244.out) hb); have n3_ := Aside0.mk (below_step (by repeat (first | (with_reducible first | exact HB.out | apply below_alloc | apply pw_below_drewN | apply below_drew1) | exact HB.out)) hb); clear HO236; clear HO240; clear HO244; clear HB; have HO236 := n0_; have HO240 := n1_; have HO244 := n2_; have HB := n3_; clear n0_ n1_ n2_ n3_; (try clear hb); (try clear hb2); (try clear hk); (try clear hi); obtain ⟨Ao43, co43, eo43⟩ := Kd.R_slice HO240.out; subst eo43) | (go_at_call 16; (with_reducible refine (span_Valid.calls kj13 _ _ t237 false _ ?side1 ?side2 A32.out).mono ?_); (case side1 => repeat (first | exact (Kd.R_reads' HO240.out).2.2 | (with_reducible refine Kd.C_alloc ?_ _) | (with_reducible refine Kd.C_drewN ?_ _) | (with_reducible refine Kd.C_drew ?_))); (case side2 => exact (Kd.R_reads' HO240.out).2.1); rintro e w44 ⟨rfl, hb⟩; have n0_ := Aside0.mk (Kd.R_below (by (with_reducible repeat (first | apply Kd.R_alloc | apply Kd.R_drewN | apply Kd.R_drew)); exact HO236.out) hb); have n1_ := Aside0.mk (Kd.R_below (by (with_reducible repeat (first | apply Kd.R_alloc | apply Kd.R_drewN | apply Kd.R_drew)); exact HO240.out) hb); have n2_ := Aside0.mk (Kd.R_below (by (with_reducible repeat (first | apply Kd.R_alloc | apply Kd.R_drewN | apply Kd.R_drew)); exact HO244.out) hb); have n3_ := Aside0.mk (below_step (by repeat (first | (with_reducible first | exact HB.out | apply below_alloc | apply pw_below_drewN | apply below_drew1) | exact HB.out)) hb); clear HO236; clear HO240; clear HO244; clear HB; have HO236 := n0_; have HO240 := n1_; have HO244 := n2_; have HB := n3_; clear n0_ n1_ n2_ n3_; (try clear hb); (try clear hb2); (try clear hk); (try clear hi)))
                        go_meet
                        case rel => exact ⟨_, (true), (by first | rfl | (simp; done) | (simp [*]; done)), H', ⟨by have := HJ13.out; first | omega | exact Nat.le_refl _⟩, ⟨by (with_reducible repeat (first | apply Kd.R_alloc | apply Kd.R_drewN | apply Kd.R_drew)); exact Kd.R_mono HO236.out (fun _ hk => ⟨hk.1.2, hk.2⟩)⟩, ⟨by (with_reducible repeat (first | apply Kd.R_alloc | apply Kd.R_drewN | apply Kd.R_drew)); exact Kd.R_mono HO240.out (fun _ hk => ⟨hk.1.2, hk.2⟩)⟩, ⟨by (with_reducible repeat (first | apply Kd.R_alloc | apply Kd.R_drewN | apply Kd.R_drew)); exact Kd.R_mono HO244.out (fun _ hk => ⟨hk.1.2, hk.2⟩)⟩, ⟨by repeat (first | (with_reducible first | exact HB.out | apply below_alloc | apply pw_below_drewN | apply below_drew1) | exact HB.out)⟩⟩
                    · replace c31 := Bool.eq_false_iff.mpr c31
                      subst c31
                      have H1 : (cohousinglaw16_FactsDays.j1 kj13 a3 a4 t227 t228 t230 t231 t233 t237 t241 true) = some r := by rw [if_neg (show ¬ (false = true) by decide)] at H; exact H
                      clear H
                      have H := H1
                      clear H1
                      have H' := Aside0.mk H
                      clear H
                      obtain ⟨Ao45, co45, eo45⟩ := Kd.R_slice HO236.out
                      subst eo45
                      go_wp2_with (first | (go_at_call 16; (with_reducible refine (span_Valid.calls kj13 _ _ t233 false _ ?side1 ?side2 A30.out).mono ?_); (case side1 => repeat (first | exact (Kd.R_reads' HO236.out).2.2 | (with_reducible refine Kd.C_alloc ?_ _) | (with_reducible refine Kd.C_drewN ?_ _) | (with_reducible refine Kd.C_drew ?_))); (case side2 => exact (Kd.R_reads' HO236.out).2.1); rintro e w46 ⟨rfl, hb⟩; have n0_ := Aside0.mk (Kd.R_below (by (with_reducible repeat (first | apply Kd.R_alloc | apply Kd.R_drewN | apply Kd.R_drew)); exact HO236.out) hb); have n1_ := Aside0.mk (Kd.R_below (by (with_reducible repeat (first | apply Kd.R_alloc | apply Kd.R_drewN | apply Kd.R_drew)); exact HO240.out) hb); have n2_ := Aside0.mk (Kd.R_below (by (with_reducible repeat (first | apply Kd.R_alloc | apply Kd.R_drewN | apply Kd.R_drew)); exact HO244.out) hb); have n3_ := Aside0.mk (below_step (by repeat (first | (with_reducible first | exact HB.out | apply below_alloc | apply pw_below_drewN | apply below_drew1) | exact HB.out)) hb); clear HO236; clear HO240; clear HO244; clear HB; have HO236 := n0_; have HO240 := n1_; have HO244 := n2_; have HB := n3_; clear n0_ n1_ n2_ n3_; (try clear hb); (try clear hb2); (try clear hk); (try clear hi)))
                      go_meet
                      case rel => exact ⟨_, (true), (by first | rfl | (simp; done) | (simp [*]; done)), H', ⟨by have := HJ13.out; first | omega | exact Nat.le_refl _⟩, ⟨by (with_reducible repeat (first | apply Kd.R_alloc | apply Kd.R_drewN | apply Kd.R_drew)); exact Kd.R_mono HO236.out (fun _ hk => ⟨hk.1.2, hk.2⟩)⟩, ⟨by (with_reducible repeat (first | apply Kd.R_alloc | apply Kd.R_drewN | apply Kd.R_drew)); exact Kd.R_mono HO240.out (fun _ hk => ⟨hk.1.2, hk.2⟩)⟩, ⟨by (with_reducible repeat (first | apply Kd.R_alloc | apply Kd.R_drewN | apply Kd.R_drew)); exact Kd.R_mono HO244.out (fun _ hk => ⟨hk.1.2, hk.2⟩)⟩, ⟨by repeat (first | (with_reducible first | exact HB.out | apply below_alloc | apply pw_below_drewN | apply below_drew1) | exact HB.out)⟩⟩
                  · rw [if_neg c29] at H
                    have c29b0 : (t242 == 0) = false := beq_eq_false_iff_ne.mpr c29
                    have c29b1 : (t242 != 0) = true := bne_iff_ne.mpr c29
                    have H' := Aside0.mk H
                    clear H
                    go_wp2
                    go_meet
                    case rel => exact ⟨_, (true), (by first | rfl | (simp; done) | (simp [*]; done)), H', ⟨by have := HJ13.out; first | omega | exact Nat.le_refl _⟩, ⟨by (with_reducible repeat (first | apply Kd.R_alloc | apply Kd.R_drewN | apply Kd.R_drew)); exact Kd.R_mono HO236.out (fun _ hk => ⟨hk.1.2, hk.2⟩)⟩, ⟨by (with_reducible repeat (first | apply Kd.R_alloc | apply Kd.R_drewN | apply Kd.R_drew)); exact Kd.R_mono HO240.out (fun _ hk => ⟨hk.1.2, hk.2⟩)⟩, ⟨by (with_reducible repeat (first | apply Kd.R_alloc | apply Kd.R_drewN | apply Kd.R_drew)); exact Kd.R_mono HO244.out (fun _ hk => ⟨hk.1.2, hk.2⟩)⟩, ⟨by repeat (first | (with_reducible first | exact HB.out | apply below_alloc | apply pw_below_drewN | apply below_drew1) | exact HB.out)⟩⟩
                · rw [if_neg c28] at H
                  have c28b0 : (t238 == 0) = false := beq_eq_false_iff_ne.mpr c28
                  have c28b1 : (t238 != 0) = true := bne_iff_ne.mpr c28
                  have H' := Aside0.mk H
                  clear H
                  go_wp2
                  go_meet
                  case rel => exact ⟨_, (true), (by first | rfl | (simp; done) | (simp [*]; done)), H', ⟨by have := HJ13.out; first | omega | exact Nat.le_refl _⟩, ⟨by (with_reducible repeat (first | apply Kd.R_alloc | apply Kd.R_drewN | apply Kd.R_drew)); exact Kd.R_mono HO236.out (fun _ hk => ⟨hk.1.2, hk.2⟩)⟩, ⟨by (with_reducible repeat (first | apply Kd.R_alloc | apply Kd.R_drewN | apply Kd.R_drew)); exact Kd.R_mono HO240.out (fun _ hk => ⟨hk.1.2, hk.2⟩)⟩, ⟨by (with_reducible repeat (first | apply Kd.R_alloc | apply Kd.R_drewN | apply Kd.R_drew)); exact Kd.R_mono HO244.out (fun _ hk => ⟨hk.1.2, hk.2⟩)⟩, ⟨by repeat (first | (with_reducible first | exact HB.out | apply below_alloc | apply pw_below_drewN | apply below_drew1) | exact HB.out)⟩⟩
              · rw [if_neg c27] at H
                have c27b0 : (t234 == 0) = false := beq_eq_false_iff_ne.mpr c27
                have c27b1 : (t234 != 0) = true := bne_iff_ne.mpr c27
                (first | rw [c27b0] | (simp only [i64_w, i32_w]; rw [c27b0]) | skip)
                have H' := Aside0.mk H
                clear H
                go_wp2
                go_meet
                case rel => exact ⟨_, (true), (by first | rfl | (simp; done) | (simp [*]; done)), H', ⟨by have := HJ13.out; first | omega | exact Nat.le_refl _⟩, ⟨by (with_reducible repeat (first | apply Kd.R_alloc | apply Kd.R_drewN | apply Kd.R_drew)); exact Kd.R_mono HO236.out (fun _ hk => ⟨hk.1.2, hk.2⟩)⟩, ⟨by (with_reducible repeat (first | apply Kd.R_alloc | apply Kd.R_drewN | apply Kd.R_drew)); exact Kd.R_mono HO240.out (fun _ hk => ⟨hk.1.2, hk.2⟩)⟩, ⟨by (with_reducible repeat (first | apply Kd.R_alloc | apply Kd.R_drewN | apply Kd.R_drew)); exact Kd.R_mono HO244.out (fun _ hk => ⟨hk.1.2, hk.2⟩)⟩, ⟨by repeat (first | (with_reducible first | exact HB.out | apply below_alloc | apply pw_below_drewN | apply below_drew1) | exact HB.out)⟩⟩
            case rest =>
              clear HC23
              try clear c1
              try clear c2
              try clear p2
              try clear c3
              try clear c5
              try clear c9
              try clear c10
              try clear c10b0
              try clear c10b1
              try clear c12
              try clear c13
              try clear c15
              try clear c18
              try clear c18b0
              try clear c18b1
              try clear c19
              try clear c27
              try clear c27b0
              try clear c27b1
              try clear c28
              try clear c28b0
              try clear c28b1
              try clear c29
              try clear c29b0
              try clear c29b1
              try clear c31
              try clear c33
              try clear p2
              obtain ⟨kq, x111_22, rfl, HA, HJ22, HO_22, HO_24, HO_26, HB⟩ := hcut
              cases kq with
              | zero => exact absurd HA.out (by simp [cohousinglaw16_FactsDays.j1])
              | succ kj22 =>
                have H := HA.out
                clear HA
                simp only [cohousinglaw16_FactsDays.j1] at H
                by_cases c47 : x111_22 = true
                · subst c47
                  have H1 : (none) = some r := by rw [if_pos rfl] at H; exact H
                  clear H
                  have H := H1
                  clear H1
                  exact absurd H (by simp)
                · replace c47 := Bool.eq_false_iff.mpr c47
                  subst c47
                  have H1 : ((cohousinglaw16_has.f kj22 t233 a4).bind fun t248 => (if t228 = true then (if (t248 == (t227 == a3)) = true then ((cohousinglaw16_has.f kj22 t237 a4).bind fun t249 => (if (t249 == t228) = true then ((cohousinglaw16_has.f kj22 t241 a4).bind fun t250 => (if (t228 != t231) = true then (if (t250 == true) = true then (some true) else (none)) else (if (t250 == (t227 != t230)) = true then (some true) else (none)))) else (none))) else (none)) else (if (t248 == false) = true then ((cohousinglaw16_has.f kj22 t237 a4).bind fun t251 => (if (t251 == t228) = true then ((cohousinglaw16_has.f kj22 t241 a4).bind fun t252 => (if (t228 != t231) = true then (if (t252 == true) = true then (some true) else (none)) else (if (t252 == (t227 != t230)) = true then (some true) else (none)))) else (none))) else (none)))) = some r := by rw [if_neg (show ¬ (false = true) by decide)] at H; exact H
                  clear H
                  have H := H1
                  clear H1
                  replace H := Option.bind_eq_some_iff.mp H
                  obtain ⟨t248, A480, H⟩ := H
                  replace H : (if t228 = true then (if (t248 == (t227 == a3)) = true then ((cohousinglaw16_has.f kj22 t237 a4).bind fun t249 => (if (t249 == t228) = true then ((cohousinglaw16_has.f kj22 t241 a4).bind fun t250 => (if (t228 != t231) = true then (if (t250 == true) = true then (some true) else (none)) else (if (t250 == (t227 != t230)) = true then (some true) else (none)))) else (none))) else (none)) else (if (t248 == false) = true then ((cohousinglaw16_has.f kj22 t237 a4).bind fun t251 => (if (t251 == t228) = true then ((cohousinglaw16_has.f kj22 t241 a4).bind fun t252 => (if (t228 != t231) = true then (if (t252 == true) = true then (some true) else (none)) else (if (t252 == (t227 != t230)) = true then (some true) else (none)))) else (none))) else (none))) = some r := H
                  have A48 := Aside0.mk A480
                  clear A480
                  by_cases c49 : t228 = true
                  · subst c49
                    have H1 : (if (t248 == (t227 == a3)) = true then ((cohousinglaw16_has.f kj22 t237 a4).bind fun t249 => (if (t249 == true) = true then ((cohousinglaw16_has.f kj22 t241 a4).bind fun t250 => (if (true != t231) = true then (if (t250 == true) = true then (some true) else (none)) else (if (t250 == (t227 != t230)) = true then (some true) else (none)))) else (none))) else (none)) = some r := by rw [if_pos rfl] at H; exact H
                    clear H
                    have H := H1
                    clear H1
                    by_cases c50 : (t248 == (t227 == a3)) = true
                    · rw [if_pos c50] at H
                      have c50b0 : (t248 == (t227 == a3)) = true := c50
                      (try (have c50b1 : decide (t248 = (t227 == a3)) = true := by simpa using c50))
                      (try (have c50b2 : (t248 == (t227 == a3)) = true := by simpa using c50))
                      clear c50
                      replace H := Option.bind_eq_some_iff.mp H
                      obtain ⟨t249, A510, H⟩ := H
                      replace H : (if (t249 == true) = true then ((cohousinglaw16_has.f kj22 t241 a4).bind fun t250 => (if (true != t231) = true then (if (t250 == true) = true then (some true) else (none)) else (if (t250 == (t227 != t230)) = true then (some true) else (none)))) else (none)) = some r := H
                      have A51 := Aside0.mk A510
                      clear A510
                      by_cases c52 : (t249 == true) = true
                      · rw [if_pos c52] at H
                        have c52b0 : (t249 == true) = true := c52
                        (try (have c52b1 : decide (t249 = true) = true := by simpa using c52))
                        (try (have c52b2 : (t249 == true) = true := by simpa using c52))
                        clear c52
                        replace H := Option.bind_eq_some_iff.mp H
                        obtain ⟨t250, A530, H⟩ := H
                        replace H : (if (true != t231) = true then (if (t250 == true) = true then (some true) else (none)) else (if (t250 == (t227 != t230)) = true then (some true) else (none))) = some r := H
                        have A53 := Aside0.mk A530
                        clear A530
                        by_cases c54 : (true != t231) = true
                        · rw [if_pos c54] at H
                          have c54b0 : (true != t231) = true := c54
                          (try (have c54b1 : decide (true = t231) = false := by simpa using c54))
                          (try (have c54b2 : (true == t231) = false := by simpa using c54))
                          (try (have c54b3 : ¬ (true = t231) := by simpa using c54))
                          clear c54
                          by_cases c55 : (t250 == true) = true
                          · rw [if_pos c55] at H
                            have c55b0 : (t250 == true) = true := c55
                            (try (have c55b1 : decide (t250 = true) = true := by simpa using c55))
                            (try (have c55b2 : (t250 == true) = true := by simpa using c55))
                            clear c55
                            obtain rfl := Option.some.inj H
                            obtain ⟨Ao56, co56, eo56⟩ := Kd.R_slice HO_22.out
                            subst eo56
                            go_wp2_with (first | (go_at_call 17; (with_reducible refine (cohousinglaw16_has.calls kj22 _ _ t233 a4 t248 _ ?side1 ?side2 A48.out).mono ?_); (case side1 => repeat (first | exact (Kd.R_reads' HO_22.out).2.2 | (with_reducible refine Kd.C_alloc ?_ _) | (with_reducible refine Kd.C_drewN ?_ _) | (with_reducible refine Kd.C_drew ?_))); (case side2 => exact (Kd.R_reads' HO_22.out).2.1); rintro e w57 ⟨rfl, hb⟩; have n0_ := Aside0.mk (Kd.R_below (by (with_reducible repeat (first | apply Kd.R_alloc | apply Kd.R_drewN | apply Kd.R_drew)); exact HO_22.out) hb); have n1_ := Aside0.mk (Kd.R_below (by (with_reducible repeat (first | apply Kd.R_alloc | apply Kd.R_drewN | apply Kd.R_drew)); exact HO_24.out) hb); have n2_ := Aside0.mk (Kd.R_below (by (with_reducible repeat (first | apply Kd.R_alloc | apply Kd.R_drewN | apply Kd.R_drew)); exact HO_26.out) hb); have n3_ := Aside0.mk (below_step (by repeat (first | (with_reducible first | exact HB.out | apply below_alloc | apply pw_below_drewN | apply below_drew1) | exact HB.out)) hb); clear HO_22; clear HO_24; clear HO_26; clear HB; have HO_22 := n0_; have HO_24 := n1_; have HO_26 := n2_; have HB := n3_; clear n0_ n1_ n2_ n3_; (try clear hb); (try clear hb2); (try clear hk); (try clear hi); obtain ⟨Ao58, co58, eo58⟩ := Kd.R_slice HO_24.out; subst eo58) | (go_at_call 17; (with_reducible refine (cohousinglaw16_has.calls kj22 _ _ t237 a4 t249 _ ?side1 ?side2 A51.out).mono ?_); (case side1 => repeat (first | exact (Kd.R_reads' HO_24.out).2.2 | (with_reducible refine Kd.C_alloc ?_ _) | (with_reducible refine Kd.C_drewN ?_ _) | (with_reducible refine Kd.C_drew ?_))); (case side2 => exact (Kd.R_reads' HO_24.out).2.1); rintro e w59 ⟨rfl, hb⟩; have n0_ := Aside0.mk (Kd.R_below (by (with_reducible repeat (first | apply Kd.R_alloc | apply Kd.R_drewN | apply Kd.R_drew)); exact HO_22.out) hb); have n1_ := Aside0.mk (Kd.R_below (by (with_reducible repeat (first | apply Kd.R_alloc | apply Kd.R_drewN | apply Kd.R_drew)); exact HO_24.out) hb); have n2_ := Aside0.mk (Kd.R_below (by (with_reducible repeat (first | apply Kd.R_alloc | apply Kd.R_drewN | apply Kd.R_drew)); exact HO_26.out) hb); have n3_ := Aside0.mk (below_step (by repeat (first | (with_reducible first | exact HB.out | apply below_alloc | apply pw_below_drewN | apply below_drew1) | exact HB.out)) hb); clear HO_22; clear HO_24; clear HO_26; clear HB; have HO_22 := n0_; have HO_24 := n1_; have HO_26 := n2_; have HB := n3_; clear n0_ n1_ n2_ n3_; (try clear hb); (try clear hb2); (try clear hk); (try clear hi); obtain ⟨Ao60, co60, eo60⟩ := Kd.R_slice HO_26.out; subst eo60) | (go_at_call 17; (with_reducible refine (cohousinglaw16_has.calls kj22 _ _ t241 a4 t250 _ ?side1 ?side2 A53.out).mono ?_); (case side1 => repeat (first | exact (Kd.R_reads' HO_26.out).2.2 | (with_reducible refine Kd.C_alloc ?_ _) | (with_reducible refine Kd.C_drewN ?_ _) | (with_reducible refine Kd.C_drew ?_))); (case side2 => exact (Kd.R_reads' HO_26.out).2.1); rintro e w61 ⟨rfl, hb⟩; have n0_ := Aside0.mk (Kd.R_below (by (with_reducible repeat (first | apply Kd.R_alloc | apply Kd.R_drewN | apply Kd.R_drew)); exact HO_22.out) hb); have n1_ := Aside0.mk (Kd.R_below (by (with_reducible repeat (first | apply Kd.R_alloc | apply Kd.R_drewN | apply Kd.R_drew)); exact HO_24.out) hb); have n2_ := Aside0.mk (Kd.R_below (by (with_reducible repeat (first | apply Kd.R_alloc | apply Kd.R_drewN | apply Kd.R_drew)); exact HO_26.out) hb); have n3_ := Aside0.mk (below_step (by repeat (first | (with_reducible first | exact HB.out | apply below_alloc | apply pw_below_drewN | apply below_drew1) | exact HB.out)) hb); clear HO_22; clear HO_24; clear HO_26; clear HB; have HO_22 := n0_; have HO_24 := n1_; have HO_26 := n2_; have HB := n3_; clear n0_ n1_ n2_ n3_; (try clear hb); (try clear hb2); (try clear hk); (try clear hi)))
                            go_ret
                            exact ⟨by first | rfl | (simp [errW_none, errW_some] <;> rfl) | (simp [*, errW_none, errW_some] <;> rfl), by repeat (first | (with_reducible first | exact HB.out | apply below_alloc | apply pw_below_drewN | apply below_drew1) | exact HB.out)⟩
                          · rw [if_neg c55] at H
                            exact absurd H (by simp)
                        · rw [if_neg c54] at H
                          have c54b0 : (true != t231) = false := by simpa using c54
                          (try (have c54b1 : decide (true = t231) = true := by simpa using c54))
                          (try (have c54b2 : (true == t231) = true := by simpa using c54))
                          clear c54
                          by_cases c62 : (t250 == (t227 != t230)) = true
                          · rw [if_pos c62] at H
                            have c62b0 : (t250 == (t227 != t230)) = true := c62
                            (try (have c62b1 : decide (t250 = (t227 != t230)) = true := by simpa using c62))
                            (try (have c62b2 : (t250 == (t227 != t230)) = true := by simpa using c62))
                            clear c62
                            obtain rfl := Option.some.inj H
                            obtain ⟨Ao63, co63, eo63⟩ := Kd.R_slice HO_22.out
                            subst eo63
                            go_wp2_with (first | (go_at_call 17; (with_reducible refine (cohousinglaw16_has.calls kj22 _ _ t233 a4 t248 _ ?side1 ?side2 A48.out).mono ?_); (case side1 => repeat (first | exact (Kd.R_reads' HO_22.out).2.2 | (with_reducible refine Kd.C_alloc ?_ _) | (with_reducible refine Kd.C_drewN ?_ _) | (with_reducible refine Kd.C_drew ?_))); (case side2 => exact (Kd.R_reads' HO_22.out).2.1); rintro e w64 ⟨rfl, hb⟩; have n0_ := Aside0.mk (Kd.R_below (by (with_reducible repeat (first | apply Kd.R_alloc | apply Kd.R_drewN | apply Kd.R_drew)); exact HO_22.out) hb); have n1_ := Aside0.mk (Kd.R_below (by (with_reducible repeat (first | apply Kd.R_alloc | apply Kd.R_drewN | apply Kd.R_drew)); exact HO_24.out) hb); have n2_ := Aside0.mk (Kd.R_below (by (with_reducible repeat (first | apply Kd.R_alloc | apply Kd.R_drewN | apply Kd.R_drew)); exact HO_26.out) hb); have n3_ := Aside0.mk (below_step (by repeat (first | (with_reducible first | exact HB.out | apply below_alloc | apply pw_below_drewN | apply below_drew1) | exact HB.out)) hb); clear HO_22; clear HO_24; clear HO_26; clear HB; have HO_22 := n0_; have HO_24 := n1_; have HO_26 := n2_; have HB := n3_; clear n0_ n1_ n2_ n3_; (try clear hb); (try clear hb2); (try clear hk); (try clear hi); obtain ⟨Ao65, co65, eo65⟩ := Kd.R_slice HO_24.out; subst eo65) | (go_at_call 17; (with_reducible refine (cohousinglaw16_has.calls kj22 _ _ t237 a4 t249 _ ?side1 ?side2 A51.out).mono ?_); (case side1 => repeat (first | exact (Kd.R_reads' HO_24.out).2.2 | (with_reducible refine Kd.C_alloc ?_ _) | (with_reducible refine Kd.C_drewN ?_ _) | (with_reducible refine Kd.C_drew ?_))); (case side2 => exact (Kd.R_reads' HO_24.out).2.1); rintro e w66 ⟨rfl, hb⟩; have n0_ := Aside0.mk (Kd.R_below (by (with_reducible repeat (first | apply Kd.R_alloc | apply Kd.R_drewN | apply Kd.R_drew)); exact HO_22.out) hb); have n1_ := Aside0.mk (Kd.R_below (by (with_reducible repeat (first | apply Kd.R_alloc | apply Kd.R_drewN | apply Kd.R_drew)); exact HO_24.out) hb); have n2_ := Aside0.mk (Kd.R_below (by (with_reducible repeat (first | apply Kd.R_alloc | apply Kd.R_drewN | apply Kd.R_drew)); exact HO_26.out) hb); have n3_ := Aside0.mk (below_step (by repeat (first | (with_reducible first | exact HB.out | apply below_alloc | apply pw_below_drewN | apply below_drew1) | exact HB.out)) hb); clear HO_22; clear HO_24; clear HO_26; clear HB; have HO_22 := n0_; have HO_24 := n1_; have HO_26 := n2_; have HB := n3_; clear n0_ n1_ n2_ n3_; (try clear hb); (try clear hb2); (try clear hk); (try clear hi); obtain ⟨Ao67, co67, eo67⟩ := Kd.R_slice HO_26.out; subst eo67) | (go_at_call 17; (with_reducible refine (cohousinglaw16_has.calls kj22 _ _ t241 a4 t250 _ ?side1 ?side2 A53.out).mono ?_); (case side1 => repeat (first | exact (Kd.R_reads' HO_26.out).2.2 | (with_reducible refine Kd.C_alloc ?_ _) | (with_reducible refine Kd.C_drewN ?_ _) | (with_reducible refine Kd.C_drew ?_))); (case side2 => exact (Kd.R_reads' HO_26.out).2.1); rintro e w68 ⟨rfl, hb⟩; have n0_ := Aside0.mk (Kd.R_below (by (with_reducible repeat (first | apply Kd.R_alloc | apply Kd.R_drewN | apply Kd.R_drew)); exact HO_22.out) hb); have n1_ := Aside0.mk (Kd.R_below (by (with_reducible repeat (first | apply Kd.R_alloc | apply Kd.R_drewN | apply Kd.R_drew)); exact HO_24.out) hb); have n2_ := Aside0.mk (Kd.R_below (by (with_reducible repeat (first | apply Kd.R_alloc | apply Kd.R_drewN | apply Kd.R_drew)); exact HO_26.out) hb); have n3_ := Aside0.mk (below_step (by repeat (first | (with_reducible first | exact HB.out | apply below_alloc | apply pw_below_drewN | apply below_drew1) | exact HB.out)) hb); clear HO_22; clear HO_24; clear HO_26; clear HB; have HO_22 := n0_; have HO_24 := n1_; have HO_26 := n2_; have HB := n3_; clear n0_ n1_ n2_ n3_; (try clear hb); (try clear hb2); (try clear hk); (try clear hi)))
                            go_ret
                            exact ⟨by first | rfl | (simp [errW_none, errW_some] <;> rfl) | (simp [*, errW_none, errW_some] <;> rfl), by repeat (first | (with_reducible first | exact HB.out | apply below_alloc | apply pw_below_drewN | apply below_drew1) | exact HB.out)⟩
                          · rw [if_neg c62] at H
                            exact absurd H (by simp)
                      · rw [if_neg c52] at H
                        exact absurd H (by simp)
                    · rw [if_neg c50] at H
                      exact absurd H (by simp)
                  · replace c49 := Bool.eq_false_iff.mpr c49
                    subst c49
                    have H1 : (if (t248 == false) = true then ((cohousinglaw16_has.f kj22 t237 a4).bind fun t251 => (if (t251 == false) = true then ((cohousinglaw16_has.f kj22 t241 a4).bind fun t252 => (if (false != t231) = true then (if (t252 == true) = true then (some true) else (none)) else (if (t252 == (t227 != t230)) = true then (some true) else (none)))) else (none))) else (none)) = some r := by rw [if_neg (show ¬ (false = true) by decide)] at H; exact H
                    clear H
                    have H := H1
                    clear H1
                    by_cases c69 : (t248 == false) = true
                    · rw [if_pos c69] at H
                      have c69b0 : (t248 == false) = true := c69
                      (try (have c69b1 : decide (t248 = false) = true := by simpa using c69))
                      (try (have c69b2 : (t248 == false) = true := by simpa using c69))
                      clear c69
                      replace H := Option.bind_eq_some_iff.mp H
                      obtain ⟨t251, A700, H⟩ := H
                      replace H : (if (t251 == false) = true then ((cohousinglaw16_has.f kj22 t241 a4).bind fun t252 => (if (false != t231) = true then (if (t252 == true) = true then (some true) else (none)) else (if (t252 == (t227 != t230)) = true then (some true) else (none)))) else (none)) = some r := H
                      have A70 := Aside0.mk A700
                      clear A700
                      by_cases c71 : (t251 == false) = true
                      · rw [if_pos c71] at H
                        have c71b0 : (t251 == false) = true := c71
                        (try (have c71b1 : decide (t251 = false) = true := by simpa using c71))
                        (try (have c71b2 : (t251 == false) = true := by simpa using c71))
                        clear c71
                        replace H := Option.bind_eq_some_iff.mp H
                        obtain ⟨t252, A720, H⟩ := H
                        replace H : (if (false != t231) = true then (if (t252 == true) = true then (some true) else (none)) else (if (t252 == (t227 != t230)) = true then (some true) else (none))) = some r := H
                        have A72 := Aside0.mk A720
                        clear A720
                        by_cases c73 : (false != t231) = true
                        · rw [if_pos c73] at H
                          have c73b0 : (false != t231) = true := c73
                          (try (have c73b1 : decide (false = t231) = false := by simpa using c73))
                          (try (have c73b2 : (false == t231) = false := by simpa using c73))
                          (try (have c73b3 : ¬ (false = t231) := by simpa using c73))
                          clear c73
                          by_cases c74 : (t252 == true) = true
                          · rw [if_pos c74] at H
                            have c74b0 : (t252 == true) = true := c74
                            (try (have c74b1 : decide (t252 = true) = true := by simpa using c74))
                            (try (have c74b2 : (t252 == true) = true := by simpa using c74))
                            clear c74
                            obtain rfl := Option.some.inj H
                            obtain ⟨Ao75, co75, eo75⟩ := Kd.R_slice HO_22.out
                            subst eo75
                            go_wp2_with (first | (go_at_call 17; (with_reducible refine (cohousinglaw16_has.calls kj22 _ _ t233 a4 t248 _ ?side1 ?side2 A48.out).mono ?_); (case side1 => repeat (first | exact (Kd.R_reads' HO_22.out).2.2 | (with_reducible refine Kd.C_alloc ?_ _) | (with_reducible refine Kd.C_drewN ?_ _) | (with_reducible refine Kd.C_drew ?_))); (case side2 => exact (Kd.R_reads' HO_22.out).2.1); rintro e w76 ⟨rfl, hb⟩; have n0_ := Aside0.mk (Kd.R_below (by (with_reducible repeat (first | apply Kd.R_alloc | apply Kd.R_drewN | apply Kd.R_drew)); exact HO_22.out) hb); have n1_ := Aside0.mk (Kd.R_below (by (with_reducible repeat (first | apply Kd.R_alloc | apply Kd.R_drewN | apply Kd.R_drew)); exact HO_24.out) hb); have n2_ := Aside0.mk (Kd.R_below (by (with_reducible repeat (first | apply Kd.R_alloc | apply Kd.R_drewN | apply Kd.R_drew)); exact HO_26.out) hb); have n3_ := Aside0.mk (below_step (by repeat (first | (with_reducible first | exact HB.out | apply below_alloc | apply pw_below_drewN | apply below_drew1) | exact HB.out)) hb); clear HO_22; clear HO_24; clear HO_26; clear HB; have HO_22 := n0_; have HO_24 := n1_; have HO_26 := n2_; have HB := n3_; clear n0_ n1_ n2_ n3_; (try clear hb); (try clear hb2); (try clear hk); (try clear hi); obtain ⟨Ao77, co77, eo77⟩ := Kd.R_slice HO_24.out; subst eo77) | (go_at_call 17; (with_reducible refine (cohousinglaw16_has.calls kj22 _ _ t237 a4 t251 _ ?side1 ?side2 A70.out).mono ?_); (case side1 => repeat (first | exact (Kd.R_reads' HO_24.out).2.2 | (with_reducible refine Kd.C_alloc ?_ _) | (with_reducible refine Kd.C_drewN ?_ _) | (with_reducible refine Kd.C_drew ?_))); (case side2 => exact (Kd.R_reads' HO_24.out).2.1); rintro e w78 ⟨rfl, hb⟩; have n0_ := Aside0.mk (Kd.R_below (by (with_reducible repeat (first | apply Kd.R_alloc | apply Kd.R_drewN | apply Kd.R_drew)); exact HO_22.out) hb); have n1_ := Aside0.mk (Kd.R_below (by (with_reducible repeat (first | apply Kd.R_alloc | apply Kd.R_drewN | apply Kd.R_drew)); exact HO_24.out) hb); have n2_ := Aside0.mk (Kd.R_below (by (with_reducible repeat (first | apply Kd.R_alloc | apply Kd.R_drewN | apply Kd.R_drew)); exact HO_26.out) hb); have n3_ := Aside0.mk (below_step (by repeat (first | (with_reducible first | exact HB.out | apply below_alloc | apply pw_below_drewN | apply below_drew1) | exact HB.out)) hb); clear HO_22; clear HO_24; clear HO_26; clear HB; have HO_22 := n0_; have HO_24 := n1_; have HO_26 := n2_; have HB := n3_; clear n0_ n1_ n2_ n3_; (try clear hb); (try clear hb2); (try clear hk); (try clear hi); obtain ⟨Ao79, co79, eo79⟩ := Kd.R_slice HO_26.out; subst eo79) | (go_at_call 17; (with_reducible refine (cohousinglaw16_has.calls kj22 _ _ t241 a4 t252 _ ?side1 ?side2 A72.out).mono ?_); (case side1 => repeat (first | exact (Kd.R_reads' HO_26.out).2.2 | (with_reducible refine Kd.C_alloc ?_ _) | (with_reducible refine Kd.C_drewN ?_ _) | (with_reducible refine Kd.C_drew ?_))); (case side2 => exact (Kd.R_reads' HO_26.out).2.1); rintro e w80 ⟨rfl, hb⟩; have n0_ := Aside0.mk (Kd.R_below (by (with_reducible repeat (first | apply Kd.R_alloc | apply Kd.R_drewN | apply Kd.R_drew)); exact HO_22.out) hb); have n1_ := Aside0.mk (Kd.R_below (by (with_reducible repeat (first | apply Kd.R_alloc | apply Kd.R_drewN | apply Kd.R_drew)); exact HO_24.out) hb); have n2_ := Aside0.mk (Kd.R_below (by (with_reducible repeat (first | apply Kd.R_alloc | apply Kd.R_drewN | apply Kd.R_drew)); exact HO_26.out) hb); have n3_ := Aside0.mk (below_step (by repeat (first | (with_reducible first | exact HB.out | apply below_alloc | apply pw_below_drewN | apply below_drew1) | exact HB.out)) hb); clear HO_22; clear HO_24; clear HO_26; clear HB; have HO_22 := n0_; have HO_24 := n1_; have HO_26 := n2_; have HB := n3_; clear n0_ n1_ n2_ n3_; (try clear hb); (try clear hb2); (try clear hk); (try clear hi)))
                            go_ret
                            exact ⟨by first | rfl | (simp [errW_none, errW_some] <;> rfl) | (simp [*, errW_none, errW_some] <;> rfl), by repeat (first | (with_reducible first | exact HB.out | apply below_alloc | apply pw_below_drewN | apply below_drew1) | exact HB.out)⟩
                          · rw [if_neg c74] at H
                            exact absurd H (by simp)
                        · rw [if_neg c73] at H
                          have c73b0 : (false != t231) = false := by simpa using c73
                          (try (have c73b1 : decide (false = t231) = true := by simpa using c73))
                          (try (have c73b2 : (false == t231) = true := by simpa using c73))
                          clear c73
                          by_cases c81 : (t252 == (t227 != t230)) = true
                          · rw [if_pos c81] at H
                            have c81b0 : (t252 == (t227 != t230)) = true := c81
                            (try (have c81b1 : decide (t252 = (t227 != t230)) = true := by simpa using c81))
                            (try (have c81b2 : (t252 == (t227 != t230)) = true := by simpa using c81))
                            clear c81
                            obtain rfl := Option.some.inj H
                            obtain ⟨Ao82, co82, eo82⟩ := Kd.R_slice HO_22.out
                            subst eo82
                            go_wp2_with (first | (go_at_call 17; (with_reducible refine (cohousinglaw16_has.calls kj22 _ _ t233 a4 t248 _ ?side1 ?side2 A48.out).mono ?_); (case side1 => repeat (first | exact (Kd.R_reads' HO_22.out).2.2 | (with_reducible refine Kd.C_alloc ?_ _) | (with_reducible refine Kd.C_drewN ?_ _) | (with_reducible refine Kd.C_drew ?_))); (case side2 => exact (Kd.R_reads' HO_22.out).2.1); rintro e w83 ⟨rfl, hb⟩; have n0_ := Aside0.mk (Kd.R_below (by (with_reducible repeat (first | apply Kd.R_alloc | apply Kd.R_drewN | apply Kd.R_drew)); exact HO_22.out) hb); have n1_ := Aside0.mk (Kd.R_below (by (with_reducible repeat (first | apply Kd.R_alloc | apply Kd.R_drewN | apply Kd.R_drew)); exact HO_24.out) hb); have n2_ := Aside0.mk (Kd.R_below (by (with_reducible repeat (first | apply Kd.R_alloc | apply Kd.R_drewN | apply Kd.R_drew)); exact HO_26.out) hb); have n3_ := Aside0.mk (below_step (by repeat (first | (with_reducible first | exact HB.out | apply below_alloc | apply pw_below_drewN | apply below_drew1) | exact HB.out)) hb); clear HO_22; clear HO_24; clear HO_26; clear HB; have HO_22 := n0_; have HO_24 := n1_; have HO_26 := n2_; have HB := n3_; clear n0_ n1_ n2_ n3_; (try clear hb); (try clear hb2); (try clear hk); (try clear hi); obtain ⟨Ao84, co84, eo84⟩ := Kd.R_slice HO_24.out; subst eo84) | (go_at_call 17; (with_reducible refine (cohousinglaw16_has.calls kj22 _ _ t237 a4 t251 _ ?side1 ?side2 A70.out).mono ?_); (case side1 => repeat (first | exact (Kd.R_reads' HO_24.out).2.2 | (with_reducible refine Kd.C_alloc ?_ _) | (with_reducible refine Kd.C_drewN ?_ _) | (with_reducible refine Kd.C_drew ?_))); (case side2 => exact (Kd.R_reads' HO_24.out).2.1); rintro e w85 ⟨rfl, hb⟩; have n0_ := Aside0.mk (Kd.R_below (by (with_reducible repeat (first | apply Kd.R_alloc | apply Kd.R_drewN | apply Kd.R_drew)); exact HO_22.out) hb); have n1_ := Aside0.mk (Kd.R_below (by (with_reducible repeat (first | apply Kd.R_alloc | apply Kd.R_drewN | apply Kd.R_drew)); exact HO_24.out) hb); have n2_ := Aside0.mk (Kd.R_below (by (with_reducible repeat (first | apply Kd.R_alloc | apply Kd.R_drewN | apply Kd.R_drew)); exact HO_26.out) hb); have n3_ := Aside0.mk (below_step (by repeat (first | (with_reducible first | exact HB.out | apply below_alloc | apply pw_below_drewN | apply below_drew1) | exact HB.out)) hb); clear HO_22; clear HO_24; clear HO_26; clear HB; have HO_22 := n0_; have HO_24 := n1_; have HO_26 := n2_; have HB := n3_; clear n0_ n1_ n2_ n3_; (try clear hb); (try clear hb2); (try clear hk); (try clear hi); obtain ⟨Ao86, co86, eo86⟩ := Kd.R_slice HO_26.out; subst eo86) | (go_at_call 17; (with_reducible refine (cohousinglaw16_has.calls kj22 _ _ t241 a4 t252 _ ?side1 ?side2 A72.out).mono ?_); (case side1 => repeat (first | exact (Kd.R_reads' HO_26.out).2.2 | (with_reducible refine Kd.C_alloc ?_ _) | (with_reducible refine Kd.C_drewN ?_ _) | (with_reducible refine Kd.C_drew ?_))); (case side2 => exact (Kd.R_reads' HO_26.out).2.1); rintro e w87 ⟨rfl, hb⟩; have n0_ := Aside0.mk (Kd.R_below (by (with_reducible repeat (first | apply Kd.R_alloc | apply Kd.R_drewN | apply Kd.R_drew)); exact HO_22.out) hb); have n1_ := Aside0.mk (Kd.R_below (by (with_reducible repeat (first | apply Kd.R_alloc | apply Kd.R_drewN | apply Kd.R_drew)); exact HO_24.out) hb); have n2_ := Aside0.mk (Kd.R_below (by (with_reducible repeat (first | apply Kd.R_alloc | apply Kd.R_drewN | apply Kd.R_drew)); exact HO_26.out) hb); have n3_ := Aside0.mk (below_step (by repeat (first | (with_reducible first | exact HB.out | apply below_alloc | apply pw_below_drewN | apply below_drew1) | exact HB.out)) hb); clear HO_22; clear HO_24; clear HO_26; clear HB; have HO_22 := n0_; have HO_24 := n1_; have HO_26 := n2_; have HB := n3_; clear n0_ n1_ n2_ n3_; (try clear hb); (try clear hb2); (try clear hk); (try clear hi)))
                            go_ret
                            exact ⟨by first | rfl | (simp [errW_none, errW_some] <;> rfl) | (simp [*, errW_none, errW_some] <;> rfl), by repeat (first | (with_reducible first | exact HB.out | apply below_alloc | apply pw_below_drewN | apply below_drew1) | exact HB.out)⟩
                          · rw [if_neg c81] at H
                            exact absurd H (by simp)
                      · rw [if_neg c71] at H
                        exact absurd H (by simp)
                    · rw [if_neg c69] at H
                      exact absurd H (by simp)
  · replace c9 := Bool.eq_false_iff.mpr c9
    subst c9
    have H1 : (none) = some r := by rw [if_neg (show ¬ (false = true) by decide)] at H; exact H
    clear H
    have H := H1
    clear H1
    exact absurd H (by simp)

end Go.Proofs.YthcjocojngochaaGreatDoor.X
