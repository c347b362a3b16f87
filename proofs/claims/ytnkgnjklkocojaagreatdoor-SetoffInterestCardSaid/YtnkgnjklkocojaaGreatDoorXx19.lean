-- Written by a program of mine (wip/tools/xprint.py) over the kit's print.py: printed functions and hand-proved ones side by side.
import Derived.Test.YtnkgnjklkocojaaGreatDoorXx0
import Derived.Test.YtnkgnjklkocojaaGreatDoorXx3
import Derived.Test.YtnkgnjklkocojaaGreatDoorXx9
import Derived.Test.YtnkgnjklkocojaaGreatDoorXx16
import Derived.Test.YtnkgnjklkocojaaGreatDoorXx17
namespace Go.Proofs.YtnkgnjklkocojaaGreatDoor.X
open Go.RowKit Go.Proofs.YtnkgnjklkocojaaGreatDoorW.PrintWords Go.Proofs.YtnkgnjklkocojaaGreatDoorW.PrintLast Go.Proofs.YtnkgnjklkocojaaGreatDoorW.PrintMore
attribute [local go_sem] max2_int min2_int max_two min_two max_three min_three max_four min_four   -- for this text's walks alone
set_option linter.unusedVariables false
set_option linter.unusedSimpArgs false

theorem info46 : (Tryz.prog.info? 46).map (fun i => (i.zero, i.size, i.bytes)) = some (some (.agg #[(.int .i64 0), (.int .i64 0), (.int .i64 0)]), 3, 24) := by kernel_rfl
/-! ### cohousinglaw34_SetoffInterest: function 7 -/
mutual
def cohousinglaw34_SetoffInterest.l0 : Nat → List (S39) → Int → List (S46) → Int → Bool → Int → List (S39) → List (S39) → Int → Int → Int → Int → Int → Int → Int → Option (Bool)
 | 0, _, _, _, _, _, _, _, _, _, _, _, _, _, _, _ => none
 | k + 1, x0, x1, x3, x5, x13, x14, x16, x55, x56, x57, x284000, x284001, x285000, x285001, x285002 => if x57 < x56 then (if 0 ≤ x57 then (if x57 < (x55.length : Int) then ((cohousingref34_Late.f ((rd_T39 x55 x57).f0) ((rd_T39 x55 x57).f1) ((rd_T39 x55 x57).f2) ((rd_T39 x55 x57).f3) x284000 3).bind fun t290 => (if t290 = true then ((some (([(⟨(rd_T39 x55 x57).f0, (rd_T39 x55 x57).f1, (rd_T39 x55 x57).f2, (rd_T39 x55 x57).f3⟩ : S39)] : List (S39)) : List (S39))).bind fun y291 => (if x16.length + y291.length < 4398046511104 then (cohousinglaw34_SetoffInterest.l0 k x0 x1 x3 x5 x13 x14 (x16 ++ y291) x55 x56 (wrap64 (x57 + 1)) x284000 x284001 x285000 x285001 x285002) else (none))) else (cohousinglaw34_SetoffInterest.l0 k x0 x1 x3 x5 x13 x14 x16 x55 x56 (wrap64 (x57 + 1)) x284000 x284001 x285000 x285001 x285002))) else (none)) else (none)) else ((setoff_Interest.f k x16 x1 x284000 x284001 x3).bind fun bt297 => (if x14 < 0 then (cohousinglaw34_SetoffInterest.j1 k x0 x1 x3 x5 x13 x14 true x284000 x284001 x285000 x285001 x285002) else (if bt297.2 = 0 then (cohousinglaw34_SetoffInterest.j1 k x0 x1 x3 x5 x13 x14 (bt297.1 != x14) x284000 x284001 x285000 x285001 x285002) else (cohousinglaw34_SetoffInterest.j1 k x0 x1 x3 x5 x13 x14 true x284000 x284001 x285000 x285001 x285002))))
def cohousinglaw34_SetoffInterest.j1 : Nat → List (S39) → Int → List (S46) → Int → Bool → Int → Bool → Int → Int → Int → Int → Int → Option (Bool)
 | 0, _, _, _, _, _, _, _, _, _, _, _, _ => none
 | k + 1, x0, x1, x3, x5, x13, x14, x88, x284000, x284001, x285000, x285001, x285002 => if x88 = true then (none) else ((some (([] : List (S46)) : List (S46))).bind fun y299 => (if y299.length + x3.length < 5864062014805 then ((some (y299 ++ x3 : List (S46))).bind fun y302 => ((some (([(⟨x285000, (⟨x285001, x285002⟩ : S24)⟩ : S46)] : List (S46)) : List (S46))).bind fun y305 => (if y302.length + y305.length < 5864062014805 then ((some (y302 ++ y305 : List (S46))).bind fun y308 => ((setoff_Interest.f k x0 x1 x284000 x284001 y308).bind fun bt311 => (if x13 = true then (if bt311.2 = 1 then (cohousinglaw34_SetoffInterest.j2 k x0 x1 x3 x5 true x14 y308 x284000 x284001) else (if bt311.2 = 0 then (if bt311.1 ≤ x14 then (cohousinglaw34_SetoffInterest.j2 k x0 x1 x3 x5 true x14 y308 x284000 x284001) else (none)) else (none))) else (none)))) else (none)))) else (none)))
def cohousinglaw34_SetoffInterest.j2 : Nat → List (S39) → Int → List (S46) → Int → Bool → Int → List (S46) → Int → Int → Option (Bool)
 | 0, _, _, _, _, _, _, _, _, _ => none
 | k + 1, x0, x1, x3, x5, x13, x14, x21, x284000, x284001 => if 0 ≤ (wrap64 ((x21.length : Int) - 1)) then (if (wrap64 ((x21.length : Int) - 1)) < (x21.length : Int) then ((setoff_Interest.f k x0 x1 x284000 x284001 (x21.set ((wrap64 ((x21.length : Int) - 1)) : Int).toNat (⟨2, (⟨x284000, x284001⟩ : S24)⟩ : S46))).bind fun bt314 => (if x13 = true then (if bt314.2 = 0 then (if bt314.1 = 0 then ((setoff_Pay.f x0 x5).bind fun bt316 => (if bt316.2.2 = 0 then ((setoff_Interest.f k bt316.1 x1 x284000 x284001 x3).bind fun bt321 => (if bt321.2 = 0 then (if bt321.1 ≤ x14 then (some true) else (none)) else (none))) else (if bt316.2.2 = 1 then (some true) else (none)))) else (none)) else (none)) else (none))) else (none)) else (none)
end
def cohousinglaw34_SetoffInterest.f (k : Nat) (l0 : List (S39)) (a1 : Int) (a2_0 : Int) (a2_1 : Int) (l3 : List (S46)) (a4_0 : Int) (a4_1 : Int) (a4_2 : Int) (a5 : Int) : Option (Bool) := (cohousinglaw34_head.f k).bind fun t285 => (if t285 = true then (if (l3.length : Int) > 100 then (some true) else ((setoff_Interest.f k l0 a1 a2_0 a2_1 l3).bind fun bt286 => (if bt286.2 = 0 then (cohousinglaw34_SetoffInterest.l0 k l0 a1 l3 a5 true bt286.1 ([] : List (S39)) l0 (l0.length : Int) 0 a2_0 a2_1 a4_0 a4_1 a4_2) else (if bt286.1 = 0 then (if bt286.2 = 1 then (some true) else (if bt286.2 = 3 then (some true) else (none))) else (none))))) else (none))
theorem cohousinglaw34_SetoffInterest.mono_l : ∀ k, (∀ y0 y1 y2 y3 y4 y5 y6 y7 y8 y9 y10 y11 y12 y13 y14, LeO (cohousinglaw34_SetoffInterest.l0 k y0 y1 y2 y3 y4 y5 y6 y7 y8 y9 y10 y11 y12 y13 y14) (cohousinglaw34_SetoffInterest.l0 (k + 1) y0 y1 y2 y3 y4 y5 y6 y7 y8 y9 y10 y11 y12 y13 y14)) ∧ (∀ y0 y1 y2 y3 y4 y5 y6 y7 y8 y9 y10 y11, LeO (cohousinglaw34_SetoffInterest.j1 k y0 y1 y2 y3 y4 y5 y6 y7 y8 y9 y10 y11) (cohousinglaw34_SetoffInterest.j1 (k + 1) y0 y1 y2 y3 y4 y5 y6 y7 y8 y9 y10 y11)) ∧ (∀ y0 y1 y2 y3 y4 y5 y6 y7 y8, LeO (cohousinglaw34_SetoffInterest.j2 k y0 y1 y2 y3 y4 y5 y6 y7 y8) (cohousinglaw34_SetoffInterest.j2 (k + 1) y0 y1 y2 y3 y4 y5 y6 y7 y8))
 | 0 => ⟨fun _ _ _ _ _ _ _ _ _ _ _ _ _ _ _ r h => by simp [cohousinglaw34_SetoffInterest.l0] at h, fun _ _ _ _ _ _ _ _ _ _ _ _ r h => by simp [cohousinglaw34_SetoffInterest.j1] at h, fun _ _ _ _ _ _ _ _ _ r h => by simp [cohousinglaw34_SetoffInterest.j2] at h⟩
 | k + 1 => by
  obtain ⟨ih0, ih1, ih2⟩ := cohousinglaw34_SetoffInterest.mono_l k
  refine ⟨?_, ?_, ?_⟩
  ·intro y0 y1 y2 y3 y4 y5 y6 y7 y8 y9 y10 y11 y12 y13 y14
   unfold cohousinglaw34_SetoffInterest.l0
   repeat' first
   | (with_reducible exact ih0 _ _ _ _ _ _ _ _ _ _ _ _ _ _ _)
   | (with_reducible exact ih1 _ _ _ _ _ _ _ _ _ _ _ _)
   | (with_reducible exact ih2 _ _ _ _ _ _ _ _ _)
   | (with_reducible exact cohousinglaw34_head.mono _)
   | (with_reducible exact setoff_Interest.mono _ _ _ _ _ _)
   | (with_reducible exact LeO.refl _)
   | (with_reducible exact LeO.none _)
   | (with_reducible refine LeO.ite ?_ ?_)
   | (with_reducible refine LeO.bind ?_ (fun _ => ?_))
   | exact ih0 _ _ _ _ _ _ _ _ _ _ _ _ _ _ _
   | exact ih1 _ _ _ _ _ _ _ _ _ _ _ _
   | exact ih2 _ _ _ _ _ _ _ _ _
   | exact cohousinglaw34_head.mono _
   | exact setoff_Interest.mono _ _ _ _ _ _
   | exact LeO.none _
   | refine LeO.ite ?_ ?_
   | refine LeO.bind ?_ (fun _ => ?_)
  ·intro y0 y1 y2 y3 y4 y5 y6 y7 y8 y9 y10 y11
   unfold cohousinglaw34_SetoffInterest.j1
   repeat' first
   | (with_reducible exact ih0 _ _ _ _ _ _ _ _ _ _ _ _ _ _ _)
   | (with_reducible exact ih1 _ _ _ _ _ _ _ _ _ _ _ _)
   | (with_reducible exact ih2 _ _ _ _ _ _ _ _ _)
   | (with_reducible exact cohousinglaw34_head.mono _)
   | (with_reducible exact setoff_Interest.mono _ _ _ _ _ _)
   | (with_reducible exact LeO.refl _)
   | (with_reducible exact LeO.none _)
   | (with_reducible refine LeO.ite ?_ ?_)
   | (with_reducible refine LeO.bind ?_ (fun _ => ?_))
   | exact ih0 _ _ _ _ _ _ _ _ _ _ _ _ _ _ _
   | exact ih1 _ _ _ _ _ _ _ _ _ _ _ _
   | exact ih2 _ _ _ _ _ _ _ _ _
   | exact cohousinglaw34_head.mono _
   | exact setoff_Interest.mono _ _ _ _ _ _
   | exact LeO.none _
   | refine LeO.ite ?_ ?_
   | refine LeO.bind ?_ (fun _ => ?_)
  ·intro y0 y1 y2 y3 y4 y5 y6 y7 y8
   unfold cohousinglaw34_SetoffInterest.j2
   repeat' first
   | (with_reducible exact ih0 _ _ _ _ _ _ _ _ _ _ _ _ _ _ _)
   | (with_reducible exact ih1 _ _ _ _ _ _ _ _ _ _ _ _)
   | (with_reducible exact ih2 _ _ _ _ _ _ _ _ _)
   | (with_reducible exact cohousinglaw34_head.mono _)
   | (with_reducible exact setoff_Interest.mono _ _ _ _ _ _)
   | (with_reducible exact LeO.refl _)
   | (with_reducible exact LeO.none _)
   | (with_reducible refine LeO.ite ?_ ?_)
   | (with_reducible refine LeO.bind ?_ (fun _ => ?_))
   | exact ih0 _ _ _ _ _ _ _ _ _ _ _ _ _ _ _
   | exact ih1 _ _ _ _ _ _ _ _ _ _ _ _
   | exact ih2 _ _ _ _ _ _ _ _ _
   | exact cohousinglaw34_head.mono _
   | exact setoff_Interest.mono _ _ _ _ _ _
   | exact LeO.none _
   | refine LeO.ite ?_ ?_
   | refine LeO.bind ?_ (fun _ => ?_)
theorem cohousinglaw34_SetoffInterest.mono : ∀ a0 a1 a2 a3 a4 a5 a6 a7 a8 k, LeO (cohousinglaw34_SetoffInterest.f k a0 a1 a2 a3 a4 a5 a6 a7 a8) (cohousinglaw34_SetoffInterest.f (k + 1) a0 a1 a2 a3 a4 a5 a6 a7 a8) := by
 intro a0 a1 a2 a3 a4 a5 a6 a7 a8 k
 obtain ⟨ih0, ih1, ih2⟩ := cohousinglaw34_SetoffInterest.mono_l k
 unfold cohousinglaw34_SetoffInterest.f
 repeat' first
   | (with_reducible exact ih0 _ _ _ _ _ _ _ _ _ _ _ _ _ _ _)
   | (with_reducible exact ih1 _ _ _ _ _ _ _ _ _ _ _ _)
   | (with_reducible exact ih2 _ _ _ _ _ _ _ _ _)
   | (with_reducible exact cohousinglaw34_head.mono _)
   | (with_reducible exact setoff_Interest.mono _ _ _ _ _ _)
   | (with_reducible exact LeO.refl _)
   | (with_reducible exact LeO.none _)
   | (with_reducible refine LeO.ite ?_ ?_)
   | (with_reducible refine LeO.bind ?_ (fun _ => ?_))
   | exact ih0 _ _ _ _ _ _ _ _ _ _ _ _ _ _ _
   | exact ih1 _ _ _ _ _ _ _ _ _ _ _ _
   | exact ih2 _ _ _ _ _ _ _ _ _
   | exact cohousinglaw34_head.mono _
   | exact setoff_Interest.mono _ _ _ _ _ _
   | exact LeO.none _
   | refine LeO.ite ?_ ?_
   | refine LeO.bind ?_ (fun _ => ?_)
set_option maxHeartbeats 8000000 in
set_option maxRecDepth 100000 in
theorem cohousinglaw34_SetoffInterest.calls (k : Nat) (A0 : Option Addr) (c0 : Nat) (l0 : List (S39)) (a1 : Int) (a2_0 : Int) (a2_1 : Int) (A3 : Option Addr) (c3 : Nat) (l3 : List (S46)) (a4_0 : Int) (a4_1 : Int) (a4_2 : Int) (a5 : Int) (r : Bool) (w : World) (hr0 : Kd.C k39 w A0 l0.length l0) (hc0 : l0.length ≤ c0) (hr3 : Kd.C k46 w A3 l3.length l3) (hc3 : l3.length ≤ c3) (hG : GL w) (h : cohousinglaw34_SetoffInterest.f k l0 a1 a2_0 a2_1 l3 a4_0 a4_1 a4_2 a5 = some r) :
  Calls Tryz.prog 7 #[.slice A0 l0.length c0, .int .i64 a1, .agg #[.int .i64 a2_0, .int .i64 a2_1], .slice A3 l3.length c3, .agg #[.int .i64 a4_0, .int .i64 a4_1, .int .i64 a4_2], .int .i64 a5] w fun e w' => e = .returned (.bool r) ∧ Below w.heap.size w w' := by
 have hu24 := Tryz.underlying24
 have hu46 := Tryz.underlying46
 have hu39 := Tryz.underlying39
 have HG := Aside0.mk hG
 clear hG
 have HR0 := Aside0.mk hr0
 have HC0 := Aside0.mk hc0
 clear hr0 hc0
 have HR3 := Aside0.mk hr3
 have HC3 := Aside0.mk hc3
 clear hr3 hc3
 have HB := Aside0.mk (Below.refl w.heap.size w)
 have H : ((cohousinglaw34_head.f k).bind fun t285 => (if t285 = true then (if (l3.length : Int) > 100 then (some true) else ((setoff_Interest.f k l0 a1 a2_0 a2_1 l3).bind fun bt286 => (if bt286.2 = 0 then (cohousinglaw34_SetoffInterest.l0 k l0 a1 l3 a5 true bt286.1 ([] : List (S39)) l0 (l0.length : Int) 0 a2_0 a2_1 a4_0 a4_1 a4_2) else (if bt286.1 = 0 then (if bt286.2 = 1 then (some true) else (if bt286.2 = 3 then (some true) else (none))) else (none))))) else (none))) = some r := h
 clear h
 replace H := Option.bind_eq_some_iff.mp H
 obtain ⟨t285, A70, H⟩ := H
 replace H : (if t285 = true then (if (l3.length : Int) > 100 then (some true) else ((setoff_Interest.f k l0 a1 a2_0 a2_1 l3).bind fun bt286 => (if bt286.2 = 0 then (cohousinglaw34_SetoffInterest.l0 k l0 a1 l3 a5 true bt286.1 ([] : List (S39)) l0 (l0.length : Int) 0 a2_0 a2_1 a4_0 a4_1 a4_2) else (if bt286.1 = 0 then (if bt286.2 = 1 then (some true) else (if bt286.2 = 3 then (some true) else (none))) else (none))))) else (none)) = some r := H
 have A7 := Aside0.mk A70
 clear A70
 by_cases c8 : t285 = true
 ·subst c8
  have H1 : (if (l3.length : Int) > 100 then (some true) else ((setoff_Interest.f k l0 a1 a2_0 a2_1 l3).bind fun bt286 => (if bt286.2 = 0 then (cohousinglaw34_SetoffInterest.l0 k l0 a1 l3 a5 true bt286.1 ([] : List (S39)) l0 (l0.length : Int) 0 a2_0 a2_1 a4_0 a4_1 a4_2) else (if bt286.1 = 0 then (if bt286.2 = 1 then (some true) else (if bt286.2 = 3 then (some true) else (none))) else (none))))) = some r := by rw [if_pos rfl] at H; exact H
  clear H
  have H := H1
  clear H1
  by_cases c9 : (l3.length : Int) > 100
  ·rw [if_pos c9] at H
   have c9b0 : decide (100 < (l3.length : Int)) = true := dT c9
   have c9b1 : decide (100 < l3.length) = true := dT (by omega)
   clear c9
   obtain rfl := Option.some.inj H
   go_enter Tryz.func7, Tryz.ntmps7
   go_wp2_with (first | ((with_reducible refine gate_dst (N := 8) rfl ?_); refine box_event ?hg (N := 8) ?hd (cs := #[.int .i64 a2_0, .int .i64 a2_1]) (t := 24) ?hr ?_; (case hd => rfl); (case hg => rfl); (case hr => first | (go_simp; done) | (go_simp; rfl)); intro gb283 hg w10 hbox hb; have n0_ := Aside0.mk (bT (by repeat (first | (with_reducible first | exact HB.out | apply bA | apply bN | apply b1) | exact HB.out)) hb); have n1_ := Aside0.mk (hbox); have n2_ := Aside0.mk ((by rw [hg]; exact (bZ (by repeat (first | (with_reducible first | exact HB.out | apply bA | apply bN | apply b1) | exact HB.out))) : w.heap.size ≤ gb283)); have n3_ := n2_; clear HB; have HB := n0_; have BK283 := n1_; have GW283 := n2_; have GE283 := n3_; clear n0_ n1_ n2_ n3_; clear hb hbox hg) | ((with_reducible refine gate_dst (N := 10) rfl ?_); refine box_event ?hg (N := 10) ?hd (cs := #[.int .i64 a4_0, .int .i64 a4_1, .int .i64 a4_2]) (t := 46) ?hr ?_; (case hd => rfl); (case hg => rfl); (case hr => first | (go_simp; done) | (go_simp; rfl)); intro gb284 hg w11 hbox hb; have n0_ := Aside0.mk (kB (g := gb283) (o := .cells #[.int .i64 a2_0, .int .i64 a2_1] 24 (0, 0)) (by (with_reducible repeat (first | refine kN ?_ _ | refine kD ?_ | refine kA ?_ _)); exact BK283.out) hb); have n1_ := Aside0.mk (bT (by repeat (first | (with_reducible first | exact HB.out | apply bA | apply bN | apply b1 | refine bS ?_ GE283.out) | exact HB.out)) hb); have n2_ := Aside0.mk (hbox); have n3_ := Aside0.mk ((by rw [hg]; exact (bZ (by repeat (first | (with_reducible first | exact HB.out | apply bA | apply bN | apply b1 | refine bS ?_ GE283.out) | exact HB.out))) : w.heap.size ≤ gb284)); have n4_ := n3_; have n5_ := Aside0.mk ((by rw [hg]; exact Nat.ne_of_lt (blk_lt (g := gb283) (o := .cells #[.int .i64 a2_0, .int .i64 a2_1] 24 (0, 0)) (by (with_reducible repeat (first | refine kN ?_ _ | refine kD ?_ | refine kA ?_ _)); exact BK283.out)) : gb283 ≠ gb284)); have n6_ := Aside0.mk n5_.out.symm; clear BK283; clear HB; have BK283 := n0_; have HB := n1_; have BK284 := n2_; have GW284 := n3_; have GE284 := n4_; have NB283_284 := n5_; have NB284_283 := n6_; clear n0_ n1_ n2_ n3_ n4_ n5_ n6_; clear hb hbox hg) | ((with_reducible refine gate_callee (f := 9) rfl ?_); refine goesL_ (some 27) rfl rfl Tryz.func9 (by kernel_rfl) rfl #[] rfl (by (try simp only [List.map_toArray, List.map_cons, List.map_nil]); first | done | rfl | (simp only [List.length_drop, List.length_take]; rfl)) ?_; (with_reducible refine (cohousinglaw34_head.calls k  true _ ?side1 A7.out).mono ?_); (case side1 => exact GL.below HG.out (by repeat (first | (with_reducible first | exact HB.out | apply bA | apply bN | apply b1 | refine bS ?_ GE283.out | refine bS ?_ GE284.out) | exact HB.out))); rintro e w12 ⟨rfl, hb⟩; refine ⟨_, rfl, ?_⟩; have n0_ := Aside0.mk (kB (g := gb283) (o := .cells #[.int .i64 a2_0, .int .i64 a2_1] 24 (0, 0)) (by (with_reducible repeat (first | refine kN ?_ _ | refine kD ?_ | refine kA ?_ _)); exact BK283.out) hb); have n1_ := Aside0.mk (kB (g := gb284) (o := .cells #[.int .i64 a4_0, .int .i64 a4_1, .int .i64 a4_2] 46 (0, 0)) (by (with_reducible repeat (first | refine kN ?_ _ | refine kD ?_ | refine kA ?_ _)); exact BK284.out) hb); have n2_ := Aside0.mk (bT (by repeat (first | (with_reducible first | exact HB.out | apply bA | apply bN | apply b1 | refine bS ?_ GE283.out | refine bS ?_ GE284.out) | exact HB.out)) hb); clear BK283; clear BK284; clear HB; have BK283 := n0_; have BK284 := n1_; have HB := n2_; clear n0_ n1_ n2_; (try clear hb); (try clear hb2); (try clear hk); (try clear hi)))
   go_ret
   exact ⟨by first | rfl | (simp [errW_none, errW_some] <;> rfl) | (simp [*, errW_none, errW_some] <;> rfl), by repeat (first | (with_reducible first | exact HB.out | apply bA | apply bN | apply b1 | refine bS ?_ GE283.out | refine bS ?_ GE284.out) | exact HB.out)⟩
  ·rw [if_neg c9] at H
   have c9b0 : decide (100 < (l3.length : Int)) = false := dF c9
   have c9b1 : decide (100 < l3.length) = false := dF (by omega)
   clear c9
   replace H := Option.bind_eq_some_iff.mp H
   obtain ⟨⟨t286, t287⟩, A130, H⟩ := H
   replace H : (if t287 = 0 then (cohousinglaw34_SetoffInterest.l0 k l0 a1 l3 a5 true t286 ([] : List (S39)) l0 (l0.length : Int) 0 a2_0 a2_1 a4_0 a4_1 a4_2) else (if t286 = 0 then (if t287 = 1 then (some true) else (if t287 = 3 then (some true) else (none))) else (none))) = some r := H
   have A13 := Aside0.mk A130
   clear A130
   by_cases c14 : t287 = 0
   ·rw [if_pos c14] at H
    have c14b0 : (t287 == 0) = true := beq_iff_eq.mpr c14
    have c14b1 : (t287 != 0) = false := bne_eq_false_iff_eq.mpr c14
    clear c14
    have H' := Aside0.mk H
    clear H
    go_enter Tryz.func7, Tryz.ntmps7
    go_wp2_with (first | ((with_reducible refine gate_dst (N := 8) rfl ?_); refine box_event ?hg (N := 8) ?hd (cs := #[.int .i64 a2_0, .int .i64 a2_1]) (t := 24) ?hr ?_; (case hd => rfl); (case hg => rfl); (case hr => first | (go_simp; done) | (go_simp; rfl)); intro gb283 hg w15 hbox hb; have n0_ := Aside0.mk (bT (by repeat (first | (with_reducible first | exact HB.out | apply bA | apply bN | apply b1) | exact HB.out)) hb); have n1_ := Aside0.mk (hbox); have n2_ := Aside0.mk ((by rw [hg]; exact (bZ (by repeat (first | (with_reducible first | exact HB.out | apply bA | apply bN | apply b1) | exact HB.out))) : w.heap.size ≤ gb283)); have n3_ := n2_; clear HB; have HB := n0_; have BK283 := n1_; have GW283 := n2_; have GE283 := n3_; clear n0_ n1_ n2_ n3_; clear hb hbox hg) | ((with_reducible refine gate_dst (N := 10) rfl ?_); refine box_event ?hg (N := 10) ?hd (cs := #[.int .i64 a4_0, .int .i64 a4_1, .int .i64 a4_2]) (t := 46) ?hr ?_; (case hd => rfl); (case hg => rfl); (case hr => first | (go_simp; done) | (go_simp; rfl)); intro gb284 hg w16 hbox hb; have n0_ := Aside0.mk (kB (g := gb283) (o := .cells #[.int .i64 a2_0, .int .i64 a2_1] 24 (0, 0)) (by (with_reducible repeat (first | refine kN ?_ _ | refine kD ?_ | refine kA ?_ _)); exact BK283.out) hb); have n1_ := Aside0.mk (bT (by repeat (first | (with_reducible first | exact HB.out | apply bA | apply bN | apply b1 | refine bS ?_ GE283.out) | exact HB.out)) hb); have n2_ := Aside0.mk (hbox); have n3_ := Aside0.mk ((by rw [hg]; exact (bZ (by repeat (first | (with_reducible first | exact HB.out | apply bA | apply bN | apply b1 | refine bS ?_ GE283.out) | exact HB.out))) : w.heap.size ≤ gb284)); have n4_ := n3_; have n5_ := Aside0.mk ((by rw [hg]; exact Nat.ne_of_lt (blk_lt (g := gb283) (o := .cells #[.int .i64 a2_0, .int .i64 a2_1] 24 (0, 0)) (by (with_reducible repeat (first | refine kN ?_ _ | refine kD ?_ | refine kA ?_ _)); exact BK283.out)) : gb283 ≠ gb284)); have n6_ := Aside0.mk n5_.out.symm; clear BK283; clear HB; have BK283 := n0_; have HB := n1_; have BK284 := n2_; have GW284 := n3_; have GE284 := n4_; have NB283_284 := n5_; have NB284_283 := n6_; clear n0_ n1_ n2_ n3_ n4_ n5_ n6_; clear hb hbox hg) | ((with_reducible refine gate_callee (f := 9) rfl ?_); refine goesL_ (some 27) rfl rfl Tryz.func9 (by kernel_rfl) rfl #[] rfl (by (try simp only [List.map_toArray, List.map_cons, List.map_nil]); first | done | rfl | (simp only [List.length_drop, List.length_take]; rfl)) ?_; (with_reducible refine (cohousinglaw34_head.calls k  true _ ?side1 A7.out).mono ?_); (case side1 => exact GL.below HG.out (by repeat (first | (with_reducible first | exact HB.out | apply bA | apply bN | apply b1 | refine bS ?_ GE283.out | refine bS ?_ GE284.out) | exact HB.out))); rintro e w17 ⟨rfl, hb⟩; refine ⟨_, rfl, ?_⟩; have n0_ := Aside0.mk (kB (g := gb283) (o := .cells #[.int .i64 a2_0, .int .i64 a2_1] 24 (0, 0)) (by (with_reducible repeat (first | refine kN ?_ _ | refine kD ?_ | refine kA ?_ _)); exact BK283.out) hb); have n1_ := Aside0.mk (kB (g := gb284) (o := .cells #[.int .i64 a4_0, .int .i64 a4_1, .int .i64 a4_2] 46 (0, 0)) (by (with_reducible repeat (first | refine kN ?_ _ | refine kD ?_ | refine kA ?_ _)); exact BK284.out) hb); have n2_ := Aside0.mk (bT (by repeat (first | (with_reducible first | exact HB.out | apply bA | apply bN | apply b1 | refine bS ?_ GE283.out | refine bS ?_ GE284.out) | exact HB.out)) hb); clear BK283; clear BK284; clear HB; have BK283 := n0_; have BK284 := n1_; have HB := n2_; clear n0_ n1_ n2_; (try clear hb); (try clear hb2); (try clear hk); (try clear hi); have hnb18 := NB283_284.out; have hnc18 := NB284_283.out; have hcz19_0 : w17.cell? ⟨gb283, 0, none⟩ = some (.int .i64 a2_0) := (kC BK283.out 0).trans rfl; have hcz19_1 : w17.cell? ⟨gb283, 1, none⟩ = some (.int .i64 a2_1) := (kC BK283.out 1).trans rfl; have hfz19_0 := blk_frozen BK283.out 0; have hfz19_1 := blk_frozen BK283.out 1) | ((with_reducible refine gate_callee (f := 17) rfl ?_); refine goesL_ (some 37) rfl rfl Tryz.func17 (by kernel_rfl) rfl #[.slice A0 l0.length c0, .int .i64 a1, .agg #[.int .i64 a2_0, .int .i64 a2_1], .slice A3 l3.length c3] rfl (by (try simp only [List.map_toArray, List.map_cons, List.map_nil]); first | done | rfl | (simp only [List.length_drop, List.length_take]; rfl)) ?_; (with_reducible refine (setoff_Interest.calls k _ _ l0 a1 a2_0 a2_1 _ _ l3 t286 t287 _ ?side1 ?side2 ?side3 ?side4 A13.out).mono ?_); (case side1 => repeat (first | exact (Kd.C_below HR0.out HB.out) | (with_reducible refine Kd.C_alloc ?_ _) | (with_reducible refine Kd.C_drewN ?_ _) | (with_reducible refine Kd.C_drew ?_))); (case side2 => exact HC0.out); (case side3 => repeat (first | exact (Kd.C_below HR3.out HB.out) | (with_reducible refine Kd.C_alloc ?_ _) | (with_reducible refine Kd.C_drewN ?_ _) | (with_reducible refine Kd.C_drew ?_))); (case side4 => exact HC3.out); rintro e w20 ⟨rfl, hb⟩; refine ⟨_, rfl, ?_⟩; have n0_ := Aside0.mk (kB (g := gb283) (o := .cells #[.int .i64 a2_0, .int .i64 a2_1] 24 (0, 0)) (by (with_reducible repeat (first | refine kN ?_ _ | refine kD ?_ | refine kA ?_ _)); exact BK283.out) hb); have n1_ := Aside0.mk (kB (g := gb284) (o := .cells #[.int .i64 a4_0, .int .i64 a4_1, .int .i64 a4_2] 46 (0, 0)) (by (with_reducible repeat (first | refine kN ?_ _ | refine kD ?_ | refine kA ?_ _)); exact BK284.out) hb); have n2_ := Aside0.mk (bT (by repeat (first | (with_reducible first | exact HB.out | apply bA | apply bN | apply b1 | refine bS ?_ GE283.out | refine bS ?_ GE284.out) | exact HB.out)) hb); clear BK283; clear BK284; clear HB; have BK283 := n0_; have BK284 := n1_; have HB := n2_; clear n0_ n1_ n2_; (try clear hb); (try clear hb2); (try clear hk); (try clear hi)))
    go_loopg [16, 57] k (fun kq v16 v57 w' => ∃ (x16_1 : List (S39)) (x57_1 : Int), v57 = .int .i64 x57_1 ∧ Aside0 (cohousinglaw34_SetoffInterest.l0 kq l0 a1 l3 a5 true t286 x16_1 l0 (l0.length : Int) x57_1 a2_0 a2_1 a4_0 a4_1 a4_2 = some r) ∧ Aside0 (kq ≤ k) ∧ Aside0 (Kd.R k39 39 w' w.heap.size (fun _ => True) v16 x16_1) ∧ Aside0 (w'.heap[gb283]? = some (.cells #[.int .i64 a2_0, .int .i64 a2_1] 24 (0, 0))) ∧ Aside0 (w'.heap[gb284]? = some (.cells #[.int .i64 a4_0, .int .i64 a4_1, .int .i64 a4_2] 46 (0, 0))) ∧ Aside0 (Below w.heap.size w w'))
    case atStart => exact ⟨(([] : List (S39))), (0), (by first | rfl | (simp; done) | (simp [*]; done)), H', ⟨Nat.le_refl _⟩, ⟨by first | exact Kd.R_nil _ _ _ _ _ | exact Kd.N_nil _ _ _ _ _ | exact Kd.V_nil _ _ _ _ _ | exact Kd.Q_nil _ _ _ _ _ | exact Kd.S_nil _ _ _ _ _⟩, ⟨by (with_reducible repeat (first | refine kN ?_ _ | refine kD ?_ | refine kA ?_ _)); exact BK283.out⟩, ⟨by (with_reducible repeat (first | refine kN ?_ _ | refine kD ?_ | refine kA ?_ _)); exact BK284.out⟩, ⟨by repeat (first | (with_reducible first | exact HB.out | apply bA | apply bN | apply b1 | refine bS ?_ GE283.out | refine bS ?_ GE284.out) | exact HB.out)⟩⟩
    case round =>
     clear H'
     try clear c1
     try clear p2
     try clear c3
     try clear c7
     try clear c8
     try clear c9
     try clear c9b0
     try clear c9b1
     try clear c14
     try clear c14b0
     try clear c14b1
     try clear c17
     try clear c18
     try clear hcz19_0
     try clear hcz19_1
     try clear hfz19_0
     try clear hfz19_1
     obtain ⟨x16_1, x57_1, rfl, HA, HK1, HO_16, BK283, BK284, HB⟩ := hrel
     cases gk with
     | zero => exact absurd HA.out (by simp [cohousinglaw34_SetoffInterest.l0])
     | succ k1 =>
      have H := HA.out
      clear HA
      simp only [cohousinglaw34_SetoffInterest.l0] at H
      by_cases c21 : x57_1 < (l0.length : Int)
      ·rw [if_pos c21] at H
       have c21b0 : decide (x57_1 < (l0.length : Int)) = true := dT c21
       clear c21
       by_cases c22 : 0 ≤ x57_1
       ·rw [if_pos c22] at H
        have c22b0 : decide (0 ≤ x57_1) = true := dT c22
        clear c22
        by_cases c23 : x57_1 < (l0.length : Int)
        ·rw [if_pos c23] at H
         have c23b0 : decide (x57_1 < (l0.length : Int)) = true := dT c23
         clear c23
         replace H := Option.bind_eq_some_iff.mp H
         obtain ⟨t290, A240, H⟩ := H
         replace H : (if t290 = true then ((some (([(⟨(rd_T39 l0 x57_1).f0, (rd_T39 l0 x57_1).f1, (rd_T39 l0 x57_1).f2, (rd_T39 l0 x57_1).f3⟩ : S39)] : List (S39)) : List (S39))).bind fun y291 => (if x16_1.length + y291.length < 4398046511104 then (cohousinglaw34_SetoffInterest.l0 k1 l0 a1 l3 a5 true t286 (x16_1 ++ y291) l0 (l0.length : Int) (wrap64 (x57_1 + 1)) a2_0 a2_1 a4_0 a4_1 a4_2) else (none))) else (cohousinglaw34_SetoffInterest.l0 k1 l0 a1 l3 a5 true t286 x16_1 l0 (l0.length : Int) (wrap64 (x57_1 + 1)) a2_0 a2_1 a4_0 a4_1 a4_2)) = some r := H
         have A24 := Aside0.mk A240
         clear A240
         by_cases c25 : t290 = true
         ·subst c25
          have H1 : ((some (([(⟨(rd_T39 l0 x57_1).f0, (rd_T39 l0 x57_1).f1, (rd_T39 l0 x57_1).f2, (rd_T39 l0 x57_1).f3⟩ : S39)] : List (S39)) : List (S39))).bind fun y291 => (if x16_1.length + y291.length < 4398046511104 then (cohousinglaw34_SetoffInterest.l0 k1 l0 a1 l3 a5 true t286 (x16_1 ++ y291) l0 (l0.length : Int) (wrap64 (x57_1 + 1)) a2_0 a2_1 a4_0 a4_1 a4_2) else (none))) = some r := by rw [if_pos rfl] at H; exact H
          clear H
          have H := H1
          clear H1
          obtain ⟨y291, hy291⟩ : ∃ y_ : List (S39), y_ = (([(⟨(rd_T39 l0 x57_1).f0, (rd_T39 l0 x57_1).f1, (rd_T39 l0 x57_1).f2, (rd_T39 l0 x57_1).f3⟩ : S39)] : List (S39))) := ⟨_, rfl⟩
          replace H : (if x16_1.length + y291.length < 4398046511104 then (cohousinglaw34_SetoffInterest.l0 k1 l0 a1 l3 a5 true t286 (x16_1 ++ y291) l0 (l0.length : Int) (wrap64 (x57_1 + 1)) a2_0 a2_1 a4_0 a4_1 a4_2) else (none)) = some r := by first | (rw [hy291]; with_reducible exact H) | (have H2_ := (Option.bind_some _ _).symm.trans H; rw [hy291]; with_reducible exact H2_) | (have H2_ := (Option.bind_some _ _).symm.trans H; with_reducible exact H2_) | with_reducible exact H | (rw [hy291]; exact H) | exact H
          have Ny291 := Aside0.mk hy291
          clear hy291
          by_cases c26 : x16_1.length + y291.length < 4398046511104
          ·rw [if_pos c26] at H
           have LMc26 := Aside0.mk c26
           clear c26
           obtain ⟨y294, hy294⟩ : ∃ y_ : List (S39), y_ = (x16_1 ++ y291) := ⟨_, rfl⟩
           replace H : (cohousinglaw34_SetoffInterest.l0 k1 l0 a1 l3 a5 true t286 y294 l0 (l0.length : Int) (wrap64 (x57_1 + 1)) a2_0 a2_1 a4_0 a4_1 a4_2) = some r := by first | (rw [hy294]; with_reducible exact H) | (have H2_ := (Option.bind_some _ _).symm.trans H; rw [hy294]; with_reducible exact H2_) | (have H2_ := (Option.bind_some _ _).symm.trans H; with_reducible exact H2_) | with_reducible exact H | (rw [hy294]; exact H) | exact H
           have Ny294 := Aside0.mk hy294
           clear hy294
           have H' := Aside0.mk H
           clear H
           have p288 : 0 ≤ (x57_1 : Int) := oT (by first | (with_reducible assumption) | assumption)
           have q288 : x57_1 < (l0.length : Int) := oT (by first | (with_reducible assumption) | assumption)
           obtain ⟨ad288, e288, hx288_0, hx288_1, hx288_2, hx288_3⟩ := at_T39 HR0.out x57_1 p288 q288
           cases e288
           replace hx288_0 := (HB.out.cell (World.block_lt_of_cell? w _ hx288_0)).trans hx288_0
           replace hx288_1 := (HB.out.cell (World.block_lt_of_cell? w _ hx288_1)).trans hx288_1
           replace hx288_2 := (HB.out.cell (World.block_lt_of_cell? w _ hx288_2)).trans hx288_2
           replace hx288_3 := (HB.out.cell (World.block_lt_of_cell? w _ hx288_3)).trans hx288_3
           replace p288 := eq_true p288
           replace q288 := eq_true q288
           go_wp2_with (first | ((with_reducible refine gate_dst (N := 18) rfl ?_); refine box_event ?hg (N := 18) ?hd (cs := #[.int .i64 0, .int .i64 0, .int .i64 0, .int .i64 0]) (t := 39) ?hr ?_; (case hd => rfl); (case hg => rfl); (case hr => first | (go_simp; done) | (go_simp; rfl)); intro gb289 hg w27 hbox hb; have n0_ := Aside0.mk (Kd.R_below (Kd.R_elderB (by (with_reducible repeat (first | apply Kd.R_alloc | apply Kd.R_drewN | apply Kd.R_drew)); exact HO_16.out) gb289 (Nat.le_of_eq hg.symm)) hb); have n1_ := Aside0.mk (kB (g := gb283) (o := .cells #[.int .i64 a2_0, .int .i64 a2_1] 24 (0, 0)) (by (with_reducible repeat (first | refine kN ?_ _ | refine kD ?_ | refine kA ?_ _)); exact BK283.out) hb); have n2_ := Aside0.mk (kB (g := gb284) (o := .cells #[.int .i64 a4_0, .int .i64 a4_1, .int .i64 a4_2] 46 (0, 0)) (by (with_reducible repeat (first | refine kN ?_ _ | refine kD ?_ | refine kA ?_ _)); exact BK284.out) hb); have n3_ := Aside0.mk (bT (by repeat (first | (with_reducible first | exact HB.out | apply bA | apply bN | apply b1 | refine bS ?_ GE283.out | refine bS ?_ GE284.out) | exact HB.out)) hb); have n4_ := Aside0.mk (hbox); have n5_ := Aside0.mk ((by rw [hg]; exact (bZ (by repeat (first | (with_reducible first | exact HB.out | apply bA | apply bN | apply b1 | refine bS ?_ GE283.out | refine bS ?_ GE284.out) | exact HB.out))) : w.heap.size ≤ gb289)); have n6_ := n5_; have n7_ := Aside0.mk ((by rw [hg]; exact Nat.ne_of_lt (blk_lt (g := gb283) (o := .cells #[.int .i64 a2_0, .int .i64 a2_1] 24 (0, 0)) (by (with_reducible repeat (first | refine kN ?_ _ | refine kD ?_ | refine kA ?_ _)); exact BK283.out)) : gb283 ≠ gb289)); have n8_ := Aside0.mk n7_.out.symm; have n9_ := Aside0.mk ((by rw [hg]; exact Nat.ne_of_lt (blk_lt (g := gb284) (o := .cells #[.int .i64 a4_0, .int .i64 a4_1, .int .i64 a4_2] 46 (0, 0)) (by (with_reducible repeat (first | refine kN ?_ _ | refine kD ?_ | refine kA ?_ _)); exact BK284.out)) : gb284 ≠ gb289)); have n10_ := Aside0.mk n9_.out.symm; clear HO_16; clear BK283; clear BK284; clear HB; have HO_16 := n0_; have BK283 := n1_; have BK284 := n2_; have HB := n3_; have BK289 := n4_; have GW289 := n5_; have GE289 := n6_; have NB283_289 := n7_; have NB289_283 := n8_; have NB284_289 := n9_; have NB289_284 := n10_; clear n0_ n1_ n2_ n3_ n4_ n5_ n6_ n7_ n8_ n9_ n10_; clear hb hbox hg; have hnb28 := NB289_283.out; have hnc28 := NB283_289.out; have hnb29 := NB289_284.out; have hnc29 := NB284_289.out; have hcz30_0 : w27.cell? ⟨gb289, 0, none⟩ = some (.int .i64 0) := (kC BK289.out 0).trans rfl; have hcz30_1 : w27.cell? ⟨gb289, 1, none⟩ = some (.int .i64 0) := (kC BK289.out 1).trans rfl; have hcz30_2 : w27.cell? ⟨gb289, 2, none⟩ = some (.int .i64 0) := (kC BK289.out 2).trans rfl; have hcz30_3 : w27.cell? ⟨gb289, 3, none⟩ = some (.int .i64 0) := (kC BK289.out 3).trans rfl; have hfz30_0 := blk_frozen BK289.out 0; have hfz30_1 := blk_frozen BK289.out 1; have hfz30_2 := blk_frozen BK289.out 2; have hfz30_3 := blk_frozen BK289.out 3; have hnb31 := NB283_284.out; have hnc31 := NB284_283.out; have hcz32_0 : w27.cell? ⟨gb283, 0, none⟩ = some (.int .i64 a2_0) := (kC BK283.out 0).trans rfl; have hcz32_1 : w27.cell? ⟨gb283, 1, none⟩ = some (.int .i64 a2_1) := (kC BK283.out 1).trans rfl; have hfz32_0 := blk_frozen BK283.out 0; have hfz32_1 := blk_frozen BK283.out 1) | ((with_reducible refine gate_callee (f := 24) rfl ?_); refine goesL_ (some 64) rfl rfl Tryz.func24 (by kernel_rfl) rfl #[.agg #[.int .i64 ((rd_T39 l0 x57_1).f0), .int .i64 ((rd_T39 l0 x57_1).f1), .int .i64 ((rd_T39 l0 x57_1).f2), .int .i64 ((rd_T39 l0 x57_1).f3)], .int .i64 a2_0, .int .i64 3] rfl (by (try simp only [List.map_toArray, List.map_cons, List.map_nil]); first | done | rfl | (simp only [List.length_drop, List.length_take]; rfl)) ?_; (with_reducible refine (cohousingref34_Late.calls ((rd_T39 l0 x57_1).f0) ((rd_T39 l0 x57_1).f1) ((rd_T39 l0 x57_1).f2) ((rd_T39 l0 x57_1).f3) a2_0 3 true _ A24.out).mono ?_); rintro e w33 ⟨rfl, hb⟩; refine ⟨_, rfl, ?_⟩; have n0_ := Aside0.mk (Kd.R_below (by (with_reducible repeat (first | apply Kd.R_alloc | apply Kd.R_drewN | apply Kd.R_drew)); exact (Kd.R_mono (Kd.R_far (p := ⟨gb289, 3, none⟩) (Kd.R_far (p := ⟨gb289, 2, none⟩) (Kd.R_far (p := ⟨gb289, 1, none⟩) (Kd.R_far (p := ⟨gb289, 0, none⟩) (Kd.R_mono HO_16.out (fun k_ hk => (⟨hk, hk.2⟩ : _ ∧ k_ ≠ gb289))) (fun _ hk => hk.2) (.int .i64 ((rd_T39 l0 x57_1).f0))) (fun _ hk => hk.2) (.int .i64 ((rd_T39 l0 x57_1).f1))) (fun _ hk => hk.2) (.int .i64 ((rd_T39 l0 x57_1).f2))) (fun _ hk => hk.2) (.int .i64 ((rd_T39 l0 x57_1).f3))) (fun _ h_ => h_.1))) hb); have n1_ := Aside0.mk (kB (g := gb283) (o := .cells #[.int .i64 a2_0, .int .i64 a2_1] 24 (0, 0)) (by (with_reducible repeat (first | refine kN ?_ _ | refine kD ?_ | refine kA ?_ _)); refine kF ?_ NB283_289.out _; (with_reducible repeat (first | refine kN ?_ _ | refine kD ?_ | refine kA ?_ _)); refine kF ?_ NB283_289.out _; (with_reducible repeat (first | refine kN ?_ _ | refine kD ?_ | refine kA ?_ _)); refine kF ?_ NB283_289.out _; (with_reducible repeat (first | refine kN ?_ _ | refine kD ?_ | refine kA ?_ _)); refine kF ?_ NB283_289.out _; (with_reducible repeat (first | refine kN ?_ _ | refine kD ?_ | refine kA ?_ _)); exact BK283.out) hb); have n2_ := Aside0.mk (kB (g := gb284) (o := .cells #[.int .i64 a4_0, .int .i64 a4_1, .int .i64 a4_2] 46 (0, 0)) (by (with_reducible repeat (first | refine kN ?_ _ | refine kD ?_ | refine kA ?_ _)); refine kF ?_ NB284_289.out _; (with_reducible repeat (first | refine kN ?_ _ | refine kD ?_ | refine kA ?_ _)); refine kF ?_ NB284_289.out _; (with_reducible repeat (first | refine kN ?_ _ | refine kD ?_ | refine kA ?_ _)); refine kF ?_ NB284_289.out _; (with_reducible repeat (first | refine kN ?_ _ | refine kD ?_ | refine kA ?_ _)); refine kF ?_ NB284_289.out _; (with_reducible repeat (first | refine kN ?_ _ | refine kD ?_ | refine kA ?_ _)); exact BK284.out) hb); have n3_ := Aside0.mk (kB (g := gb289) (o := .cells #[.int .i64 ((rd_T39 l0 x57_1).f0), .int .i64 ((rd_T39 l0 x57_1).f1), .int .i64 ((rd_T39 l0 x57_1).f2), .int .i64 ((rd_T39 l0 x57_1).f3)] 39 (0, 0)) (by (with_reducible repeat (first | refine kN ?_ _ | refine kD ?_ | refine kA ?_ _)); refine blk_put (cs := #[.int .i64 ((rd_T39 l0 x57_1).f0), .int .i64 ((rd_T39 l0 x57_1).f1), .int .i64 ((rd_T39 l0 x57_1).f2), .int .i64 0]) ?_ 3 _ rfl; (with_reducible repeat (first | refine kN ?_ _ | refine kD ?_ | refine kA ?_ _)); refine blk_put (cs := #[.int .i64 ((rd_T39 l0 x57_1).f0), .int .i64 ((rd_T39 l0 x57_1).f1), .int .i64 0, .int .i64 0]) ?_ 2 _ rfl; (with_reducible repeat (first | refine kN ?_ _ | refine kD ?_ | refine kA ?_ _)); refine blk_put (cs := #[.int .i64 ((rd_T39 l0 x57_1).f0), .int .i64 0, .int .i64 0, .int .i64 0]) ?_ 1 _ rfl; (with_reducible repeat (first | refine kN ?_ _ | refine kD ?_ | refine kA ?_ _)); refine blk_put (cs := #[.int .i64 0, .int .i64 0, .int .i64 0, .int .i64 0]) ?_ 0 _ rfl; (with_reducible repeat (first | refine kN ?_ _ | refine kD ?_ | refine kA ?_ _)); exact BK289.out) hb); have n4_ := Aside0.mk (bT (by repeat (first | (with_reducible first | exact HB.out | apply bA | apply bN | apply b1 | refine bS ?_ GE283.out | refine bS ?_ GE284.out | refine bS ?_ GE289.out) | exact HB.out)) hb); clear HO_16; clear BK283; clear BK284; clear BK289; clear HB; have HO_16 := n0_; have BK283 := n1_; have BK284 := n2_; have BK289 := n3_; have HB := n4_; clear n0_ n1_ n2_ n3_ n4_; (try clear hb); (try clear hb2); (try clear hk); (try clear hi); have hcz34_0 : w33.cell? ⟨gb289, 0, none⟩ = some (.int .i64 ((rd_T39 l0 x57_1).f0)) := (kC BK289.out 0).trans rfl; have hcz34_1 : w33.cell? ⟨gb289, 1, none⟩ = some (.int .i64 ((rd_T39 l0 x57_1).f1)) := (kC BK289.out 1).trans rfl; have hcz34_2 : w33.cell? ⟨gb289, 2, none⟩ = some (.int .i64 ((rd_T39 l0 x57_1).f2)) := (kC BK289.out 2).trans rfl; have hcz34_3 : w33.cell? ⟨gb289, 3, none⟩ = some (.int .i64 ((rd_T39 l0 x57_1).f3)) := (kC BK289.out 3).trans rfl; have hfz34_0 := blk_frozen BK289.out 0; have hfz34_1 := blk_frozen BK289.out 1; have hfz34_2 := blk_frozen BK289.out 2; have hfz34_3 := blk_frozen BK289.out 3) | ((with_reducible refine gate_dst (N := 67) rfl ?_); refine Kd.R_lit k39 _ 39 ?hg (N := 67) ?hd (xs := ([(⟨(rd_T39 l0 x57_1).f0, (rd_T39 l0 x57_1).f1, (rd_T39 l0 x57_1).f2, (rd_T39 l0 x57_1).f3⟩ : S39)] : List (S39))) (inner := [.int .i64 ((rd_T39 l0 x57_1).f0), .int .i64 ((rd_T39 l0 x57_1).f1), .int .i64 ((rd_T39 l0 x57_1).f2), .int .i64 ((rd_T39 l0 x57_1).f3)]) (ok := fun _ => True) (okp := fun _ => True) ?hr ?hp (fun _ hk => hk) trivial (Below.refl _ _) (Nat.le_refl _) (by simp) ?_; (case hd => rfl); (case hg => rfl); (case hr => first | (go_simp; done) | (go_simp; rfl)); (case hp => exact (Reps.c4 (show Kd.M k39 _ _ _ (⟨(rd_T39 l0 x57_1).f0, (rd_T39 l0 x57_1).f1, (rd_T39 l0 x57_1).f2, (rd_T39 l0 x57_1).f3⟩ : S39) [.int .i64 ((rd_T39 l0 x57_1).f0), .int .i64 ((rd_T39 l0 x57_1).f1), .int .i64 ((rd_T39 l0 x57_1).f2), .int .i64 ((rd_T39 l0 x57_1).f3)] from (k39_mkM _ _ _ (⟨(rd_T39 l0 x57_1).f0, (rd_T39 l0 x57_1).f1, (rd_T39 l0 x57_1).f2, (rd_T39 l0 x57_1).f3⟩ : S39) )) (Reps.none _ _))); intro v292 w35 ho36 hb hg_ hnew_; clear hg_ hnew_; (first | rw [← Ny291.out] at ho36 | (simp only [Int.reduceToNat] at ho36; rw [← Ny291.out] at ho36)); have n0_ := Aside0.mk (Kd.R_elder' (by (with_reducible repeat (first | apply Kd.R_alloc | apply Kd.R_drewN | apply Kd.R_drew)); exact HO_16.out) (Kd.R_base ho36) hb); have n1_ := Aside0.mk (Kd.R_lower (Kd.R_newB (Kd.R_new' ho36 (Kd.R_lt (by (with_reducible repeat (first | apply Kd.R_alloc | apply Kd.R_drewN | apply Kd.R_drew)); exact HO_16.out))) (g := gb289) (o := .cells #[.int .i64 ((rd_T39 l0 x57_1).f0), .int .i64 ((rd_T39 l0 x57_1).f1), .int .i64 ((rd_T39 l0 x57_1).f2), .int .i64 ((rd_T39 l0 x57_1).f3)] 39 (0, 0)) (by (with_reducible repeat (first | refine kN ?_ _ | refine kD ?_ | refine kA ?_ _)); exact BK289.out)) (bZ (by repeat (first | (with_reducible first | exact HB.out | apply bA | apply bN | apply b1 | refine bS ?_ GE283.out | refine bS ?_ GE284.out | refine bS ?_ GE289.out) | exact HB.out)))); have n2_ := Aside0.mk (kB (g := gb283) (o := .cells #[.int .i64 a2_0, .int .i64 a2_1] 24 (0, 0)) (by (with_reducible repeat (first | refine kN ?_ _ | refine kD ?_ | refine kA ?_ _)); exact BK283.out) hb); have n3_ := Aside0.mk (kB (g := gb284) (o := .cells #[.int .i64 a4_0, .int .i64 a4_1, .int .i64 a4_2] 46 (0, 0)) (by (with_reducible repeat (first | refine kN ?_ _ | refine kD ?_ | refine kA ?_ _)); exact BK284.out) hb); have n4_ := Aside0.mk (kB (g := gb289) (o := .cells #[.int .i64 ((rd_T39 l0 x57_1).f0), .int .i64 ((rd_T39 l0 x57_1).f1), .int .i64 ((rd_T39 l0 x57_1).f2), .int .i64 ((rd_T39 l0 x57_1).f3)] 39 (0, 0)) (by (with_reducible repeat (first | refine kN ?_ _ | refine kD ?_ | refine kA ?_ _)); exact BK289.out) hb); have n5_ := Aside0.mk (bT (by repeat (first | (with_reducible first | exact HB.out | apply bA | apply bN | apply b1 | refine bS ?_ GE283.out | refine bS ?_ GE284.out | refine bS ?_ GE289.out) | exact HB.out)) hb); clear HO_16; clear BK283; clear BK284; clear BK289; clear HB; have HO_16 := n0_; have HO293 := n1_; have BK283 := n2_; have BK284 := n3_; have BK289 := n4_; have HB := n5_; clear n0_ n1_ n2_ n3_ n4_ n5_; clear hb ho36; obtain ⟨Ao38, co38, eo38⟩ := Kd.R_slice HO293.out; subst eo38) | ((with_reducible refine gate_builtin (b := .append) (xs := #[.tmp 65, .tmp 67]) rfl ?_); at_builtin; refine Kd.R_append_rows k39 (w0 := w) w.heap.size rfl (.tmp 65) (.tmp 67) 22 39 (.agg #[(.int .i64 0), (.int .i64 0), (.int .i64 0), (.int .i64 0)]) 32 rfl Tryz.underlying22 info39 rfl (by decide) (by omega) u16 x16_1 y291 _ _ _ (fun k_ => some k_ ≠ (.slice Ao38 y291.length co38 : Value).ownBlock ∧ k_ ≠ gb289) (fun _ => False) rfl rfl ?aO ?aR (fun _ _ h => h) (fun _ h => h.elim) ?aF ?aB ?aS ?aL ?_; (case aR => repeat (first | exact (Kd.R_reads' HO293.out).2.2 | (with_reducible refine Kd.C_alloc ?_ _) | (with_reducible refine Kd.C_drewN ?_ _) | (with_reducible refine Kd.C_drew ?_))); (case aB => exact (by repeat (first | (with_reducible first | exact HB.out | apply bA | apply bN | apply b1 | refine bS ?_ GE283.out | refine bS ?_ GE284.out | refine bS ?_ GE289.out) | exact HB.out))); (case aF => exact (fun k_ hk => ⟨Kd.fresh' (Kd.R_lt (by (with_reducible repeat (first | apply Kd.R_alloc | apply Kd.R_drewN | apply Kd.R_drew)); exact HO293.out)) k_ hk, Kd.freshB (g := gb289) (o := .cells #[.int .i64 ((rd_T39 l0 x57_1).f0), .int .i64 ((rd_T39 l0 x57_1).f1), .int .i64 ((rd_T39 l0 x57_1).f2), .int .i64 ((rd_T39 l0 x57_1).f3)] 39 (0, 0)) (by (with_reducible repeat (first | refine kN ?_ _ | refine kD ?_ | refine kA ?_ _)); exact BK289.out) k_ hk⟩)); (case aO => exact (by (with_reducible repeat (first | apply Kd.R_alloc | apply Kd.R_drewN | apply Kd.R_drew)); exact Kd.R_mono HO_16.out (fun _ hk => ⟨hk.2, hk.1.2⟩))); (case aS => exact (bZ (by repeat (first | (with_reducible first | exact HB.out | apply bA | apply bN | apply b1 | refine bS ?_ GE283.out | refine bS ?_ GE284.out | refine bS ?_ GE289.out) | exact HB.out)))); (case aL => have := LMc26.out; omega); intro v295 w37 ho hb hg hat; rw [← Ny294.out] at ho; have n0_ := Aside0.mk (blk_grown (g := gb283) (o := .cells #[.int .i64 a2_0, .int .i64 a2_1] 24 (0, 0)) (by (with_reducible repeat (first | refine kN ?_ _ | refine kD ?_ | refine kA ?_ _)); exact BK283.out) hg (Kd.R_ne HO_16.out BK283.out (by decide))); have n1_ := Aside0.mk (blk_grown (g := gb284) (o := .cells #[.int .i64 a4_0, .int .i64 a4_1, .int .i64 a4_2] 46 (0, 0)) (by (with_reducible repeat (first | refine kN ?_ _ | refine kD ?_ | refine kA ?_ _)); exact BK284.out) hg (Kd.R_ne HO_16.out BK284.out (by decide))); have n2_ := Aside0.mk (blk_grown (g := gb289) (o := .cells #[.int .i64 ((rd_T39 l0 x57_1).f0), .int .i64 ((rd_T39 l0 x57_1).f1), .int .i64 ((rd_T39 l0 x57_1).f2), .int .i64 ((rd_T39 l0 x57_1).f3)] 39 (0, 0)) (by (with_reducible repeat (first | refine kN ?_ _ | refine kD ?_ | refine kA ?_ _)); exact BK289.out) hg (Kd.R_away HO_16.out (fun _ hk => hk.1.2))); have n3_ := Aside0.mk (Kd.R_after (ok := (fun k_ => k_ ≠ gb289)) (by (with_reducible repeat (first | apply Kd.R_alloc | apply Kd.R_drewN | apply Kd.R_drew)); exact Kd.R_mono HO293.out (fun _ hk => ⟨hk.2, hk.1.2⟩)) hg hat); have n4_ := Aside0.mk (hb); have n5_ := Aside0.mk (ho); clear BK283; clear BK284; clear BK289; clear HO293; clear HB; clear HO_16; have BK283 := n0_; have BK284 := n1_; have BK289 := n2_; have HO293 := n3_; have HB := n4_; have HO296 := n5_; clear n0_ n1_ n2_ n3_ n4_ n5_; clear ho hb hg hat))
           go_roundg k1
           case measure => have := HK1.out; omega
           case rel => exact ⟨(y294), (wrap64 (x57_1 + 1)), (by first | rfl | (simp; done) | (simp [*]; done)), H', ⟨by have := HK1.out; omega⟩, ⟨by (with_reducible repeat (first | apply Kd.R_alloc | apply Kd.R_drewN | apply Kd.R_drew)); exact Kd.R_mono HO296.out (fun _ hk => trivial)⟩, ⟨by (with_reducible repeat (first | refine kN ?_ _ | refine kD ?_ | refine kA ?_ _)); exact BK283.out⟩, ⟨by (with_reducible repeat (first | refine kN ?_ _ | refine kD ?_ | refine kA ?_ _)); exact BK284.out⟩, ⟨by repeat (first | (with_reducible first | exact HB.out | apply bA | apply bN | apply b1 | refine bS ?_ GE283.out | refine bS ?_ GE284.out | refine bS ?_ GE289.out) | exact HB.out)⟩⟩
          ·rw [if_neg c26] at H
           exact absurd H (by simp)
         ·replace c25 := Bool.eq_false_iff.mpr c25
          subst c25
          have H1 : (cohousinglaw34_SetoffInterest.l0 k1 l0 a1 l3 a5 true t286 x16_1 l0 (l0.length : Int) (wrap64 (x57_1 + 1)) a2_0 a2_1 a4_0 a4_1 a4_2) = some r := by rw [if_neg (show ¬ (false = true) by decide)] at H; exact H
          clear H
          have H := H1
          clear H1
          have H' := Aside0.mk H
          clear H
          have p288 : 0 ≤ (x57_1 : Int) := oT (by first | (with_reducible assumption) | assumption)
          have q288 : x57_1 < (l0.length : Int) := oT (by first | (with_reducible assumption) | assumption)
          obtain ⟨ad288, e288, hx288_0, hx288_1, hx288_2, hx288_3⟩ := at_T39 HR0.out x57_1 p288 q288
          cases e288
          replace hx288_0 := (HB.out.cell (World.block_lt_of_cell? w _ hx288_0)).trans hx288_0
          replace hx288_1 := (HB.out.cell (World.block_lt_of_cell? w _ hx288_1)).trans hx288_1
          replace hx288_2 := (HB.out.cell (World.block_lt_of_cell? w _ hx288_2)).trans hx288_2
          replace hx288_3 := (HB.out.cell (World.block_lt_of_cell? w _ hx288_3)).trans hx288_3
          replace p288 := eq_true p288
          replace q288 := eq_true q288
          go_wp2_with (first | ((with_reducible refine gate_dst (N := 18) rfl ?_); refine box_event ?hg (N := 18) ?hd (cs := #[.int .i64 0, .int .i64 0, .int .i64 0, .int .i64 0]) (t := 39) ?hr ?_; (case hd => rfl); (case hg => rfl); (case hr => first | (go_simp; done) | (go_simp; rfl)); intro gb289 hg w39 hbox hb; have n0_ := Aside0.mk (Kd.R_below (Kd.R_elderB (by (with_reducible repeat (first | apply Kd.R_alloc | apply Kd.R_drewN | apply Kd.R_drew)); exact HO_16.out) gb289 (Nat.le_of_eq hg.symm)) hb); have n1_ := Aside0.mk (kB (g := gb283) (o := .cells #[.int .i64 a2_0, .int .i64 a2_1] 24 (0, 0)) (by (with_reducible repeat (first | refine kN ?_ _ | refine kD ?_ | refine kA ?_ _)); exact BK283.out) hb); have n2_ := Aside0.mk (kB (g := gb284) (o := .cells #[.int .i64 a4_0, .int .i64 a4_1, .int .i64 a4_2] 46 (0, 0)) (by (with_reducible repeat (first | refine kN ?_ _ | refine kD ?_ | refine kA ?_ _)); exact BK284.out) hb); have n3_ := Aside0.mk (bT (by repeat (first | (with_reducible first | exact HB.out | apply bA | apply bN | apply b1 | refine bS ?_ GE283.out | refine bS ?_ GE284.out) | exact HB.out)) hb); have n4_ := Aside0.mk (hbox); have n5_ := Aside0.mk ((by rw [hg]; exact (bZ (by repeat (first | (with_reducible first | exact HB.out | apply bA | apply bN | apply b1 | refine bS ?_ GE283.out | refine bS ?_ GE284.out) | exact HB.out))) : w.heap.size ≤ gb289)); have n6_ := n5_; have n7_ := Aside0.mk ((by rw [hg]; exact Nat.ne_of_lt (blk_lt (g := gb283) (o := .cells #[.int .i64 a2_0, .int .i64 a2_1] 24 (0, 0)) (by (with_reducible repeat (first | refine kN ?_ _ | refine kD ?_ | refine kA ?_ _)); exact BK283.out)) : gb283 ≠ gb289)); have n8_ := Aside0.mk n7_.out.symm; have n9_ := Aside0.mk ((by rw [hg]; exact Nat.ne_of_lt (blk_lt (g := gb284) (o := .cells #[.int .i64 a4_0, .int .i64 a4_1, .int .i64 a4_2] 46 (0, 0)) (by (with_reducible repeat (first | refine kN ?_ _ | refine kD ?_ | refine kA ?_ _)); exact BK284.out)) : gb284 ≠ gb289)); have n10_ := Aside0.mk n9_.out.symm; clear HO_16; clear BK283; clear BK284; clear HB; have HO_16 := n0_; have BK283 := n1_; have BK284 := n2_; have HB := n3_; have BK289 := n4_; have GW289 := n5_; have GE289 := n6_; have NB283_289 := n7_; have NB289_283 := n8_; have NB284_289 := n9_; have NB289_284 := n10_; clear n0_ n1_ n2_ n3_ n4_ n5_ n6_ n7_ n8_ n9_ n10_; clear hb hbox hg; have hnb40 := NB289_283.out; have hnc40 := NB283_289.out; have hnb41 := NB289_284.out; have hnc41 := NB284_289.out; have hcz42_0 : w39.cell? ⟨gb289, 0, none⟩ = some (.int .i64 0) := (kC BK289.out 0).trans rfl; have hcz42_1 : w39.cell? ⟨gb289, 1, none⟩ = some (.int .i64 0) := (kC BK289.out 1).trans rfl; have hcz42_2 : w39.cell? ⟨gb289, 2, none⟩ = some (.int .i64 0) := (kC BK289.out 2).trans rfl; have hcz42_3 : w39.cell? ⟨gb289, 3, none⟩ = some (.int .i64 0) := (kC BK289.out 3).trans rfl; have hfz42_0 := blk_frozen BK289.out 0; have hfz42_1 := blk_frozen BK289.out 1; have hfz42_2 := blk_frozen BK289.out 2; have hfz42_3 := blk_frozen BK289.out 3; have hnb43 := NB283_284.out; have hnc43 := NB284_283.out; have hcz44_0 : w39.cell? ⟨gb283, 0, none⟩ = some (.int .i64 a2_0) := (kC BK283.out 0).trans rfl; have hcz44_1 : w39.cell? ⟨gb283, 1, none⟩ = some (.int .i64 a2_1) := (kC BK283.out 1).trans rfl; have hfz44_0 := blk_frozen BK283.out 0; have hfz44_1 := blk_frozen BK283.out 1) | ((with_reducible refine gate_callee (f := 24) rfl ?_); refine goesL_ (some 64) rfl rfl Tryz.func24 (by kernel_rfl) rfl #[.agg #[.int .i64 ((rd_T39 l0 x57_1).f0), .int .i64 ((rd_T39 l0 x57_1).f1), .int .i64 ((rd_T39 l0 x57_1).f2), .int .i64 ((rd_T39 l0 x57_1).f3)], .int .i64 a2_0, .int .i64 3] rfl (by (try simp only [List.map_toArray, List.map_cons, List.map_nil]); first | done | rfl | (simp only [List.length_drop, List.length_take]; rfl)) ?_; (with_reducible refine (cohousingref34_Late.calls ((rd_T39 l0 x57_1).f0) ((rd_T39 l0 x57_1).f1) ((rd_T39 l0 x57_1).f2) ((rd_T39 l0 x57_1).f3) a2_0 3 false _ A24.out).mono ?_); rintro e w45 ⟨rfl, hb⟩; refine ⟨_, rfl, ?_⟩; have n0_ := Aside0.mk (Kd.R_below (by (with_reducible repeat (first | apply Kd.R_alloc | apply Kd.R_drewN | apply Kd.R_drew)); exact (Kd.R_mono (Kd.R_far (p := ⟨gb289, 3, none⟩) (Kd.R_far (p := ⟨gb289, 2, none⟩) (Kd.R_far (p := ⟨gb289, 1, none⟩) (Kd.R_far (p := ⟨gb289, 0, none⟩) (Kd.R_mono HO_16.out (fun k_ hk => (⟨hk, hk.2⟩ : _ ∧ k_ ≠ gb289))) (fun _ hk => hk.2) (.int .i64 ((rd_T39 l0 x57_1).f0))) (fun _ hk => hk.2) (.int .i64 ((rd_T39 l0 x57_1).f1))) (fun _ hk => hk.2) (.int .i64 ((rd_T39 l0 x57_1).f2))) (fun _ hk => hk.2) (.int .i64 ((rd_T39 l0 x57_1).f3))) (fun _ h_ => h_.1))) hb); have n1_ := Aside0.mk (kB (g := gb283) (o := .cells #[.int .i64 a2_0, .int .i64 a2_1] 24 (0, 0)) (by (with_reducible repeat (first | refine kN ?_ _ | refine kD ?_ | refine kA ?_ _)); refine kF ?_ NB283_289.out _; (with_reducible repeat (first | refine kN ?_ _ | refine kD ?_ | refine kA ?_ _)); refine kF ?_ NB283_289.out _; (with_reducible repeat (first | refine kN ?_ _ | refine kD ?_ | refine kA ?_ _)); refine kF ?_ NB283_289.out _; (with_reducible repeat (first | refine kN ?_ _ | refine kD ?_ | refine kA ?_ _)); refine kF ?_ NB283_289.out _; (with_reducible repeat (first | refine kN ?_ _ | refine kD ?_ | refine kA ?_ _)); exact BK283.out) hb); have n2_ := Aside0.mk (kB (g := gb284) (o := .cells #[.int .i64 a4_0, .int .i64 a4_1, .int .i64 a4_2] 46 (0, 0)) (by (with_reducible repeat (first | refine kN ?_ _ | refine kD ?_ | refine kA ?_ _)); refine kF ?_ NB284_289.out _; (with_reducible repeat (first | refine kN ?_ _ | refine kD ?_ | refine kA ?_ _)); refine kF ?_ NB284_289.out _; (with_reducible repeat (first | refine kN ?_ _ | refine kD ?_ | refine kA ?_ _)); refine kF ?_ NB284_289.out _; (with_reducible repeat (first | refine kN ?_ _ | refine kD ?_ | refine kA ?_ _)); refine kF ?_ NB284_289.out _; (with_reducible repeat (first | refine kN ?_ _ | refine kD ?_ | refine kA ?_ _)); exact BK284.out) hb); have n3_ := Aside0.mk (kB (g := gb289) (o := .cells #[.int .i64 ((rd_T39 l0 x57_1).f0), .int .i64 ((rd_T39 l0 x57_1).f1), .int .i64 ((rd_T39 l0 x57_1).f2), .int .i64 ((rd_T39 l0 x57_1).f3)] 39 (0, 0)) (by (with_reducible repeat (first | refine kN ?_ _ | refine kD ?_ | refine kA ?_ _)); refine blk_put (cs := #[.int .i64 ((rd_T39 l0 x57_1).f0), .int .i64 ((rd_T39 l0 x57_1).f1), .int .i64 ((rd_T39 l0 x57_1).f2), .int .i64 0]) ?_ 3 _ rfl; (with_reducible repeat (first | refine kN ?_ _ | refine kD ?_ | refine kA ?_ _)); refine blk_put (cs := #[.int .i64 ((rd_T39 l0 x57_1).f0), .int .i64 ((rd_T39 l0 x57_1).f1), .int .i64 0, .int .i64 0]) ?_ 2 _ rfl; (with_reducible repeat (first | refine kN ?_ _ | refine kD ?_ | refine kA ?_ _)); refine blk_put (cs := #[.int .i64 ((rd_T39 l0 x57_1).f0), .int .i64 0, .int .i64 0, .int .i64 0]) ?_ 1 _ rfl; (with_reducible repeat (first | refine kN ?_ _ | refine kD ?_ | refine kA ?_ _)); refine blk_put (cs := #[.int .i64 0, .int .i64 0, .int .i64 0, .int .i64 0]) ?_ 0 _ rfl; (with_reducible repeat (first | refine kN ?_ _ | refine kD ?_ | refine kA ?_ _)); exact BK289.out) hb); have n4_ := Aside0.mk (bT (by repeat (first | (with_reducible first | exact HB.out | apply bA | apply bN | apply b1 | refine bS ?_ GE283.out | refine bS ?_ GE284.out | refine bS ?_ GE289.out) | exact HB.out)) hb); clear HO_16; clear BK283; clear BK284; clear BK289; clear HB; have HO_16 := n0_; have BK283 := n1_; have BK284 := n2_; have BK289 := n3_; have HB := n4_; clear n0_ n1_ n2_ n3_ n4_; (try clear hb); (try clear hb2); (try clear hk); (try clear hi)))
          go_roundg k1
          case measure => have := HK1.out; omega
          case rel => exact ⟨(x16_1), (wrap64 (x57_1 + 1)), (by first | rfl | (simp; done) | (simp [*]; done)), H', ⟨by have := HK1.out; omega⟩, ⟨by (with_reducible repeat (first | apply Kd.R_alloc | apply Kd.R_drewN | apply Kd.R_drew)); exact Kd.R_mono HO_16.out (fun _ hk => trivial)⟩, ⟨by (with_reducible repeat (first | refine kN ?_ _ | refine kD ?_ | refine kA ?_ _)); exact BK283.out⟩, ⟨by (with_reducible repeat (first | refine kN ?_ _ | refine kD ?_ | refine kA ?_ _)); exact BK284.out⟩, ⟨by repeat (first | (with_reducible first | exact HB.out | apply bA | apply bN | apply b1 | refine bS ?_ GE283.out | refine bS ?_ GE284.out | refine bS ?_ GE289.out) | exact HB.out)⟩⟩
        ·rw [if_neg c23] at H
         exact absurd H (by simp)
       ·rw [if_neg c22] at H
        exact absurd H (by simp)
      ·rw [if_neg c21] at H
       have c21b0 : decide (x57_1 < (l0.length : Int)) = false := dF c21
       clear c21
       replace H := Option.bind_eq_some_iff.mp H
       obtain ⟨⟨t297, t298⟩, A460, H⟩ := H
       replace H : (if t286 < 0 then (cohousinglaw34_SetoffInterest.j1 k1 l0 a1 l3 a5 true t286 true a2_0 a2_1 a4_0 a4_1 a4_2) else (if t298 = 0 then (cohousinglaw34_SetoffInterest.j1 k1 l0 a1 l3 a5 true t286 (t297 != t286) a2_0 a2_1 a4_0 a4_1 a4_2) else (cohousinglaw34_SetoffInterest.j1 k1 l0 a1 l3 a5 true t286 true a2_0 a2_1 a4_0 a4_1 a4_2))) = some r := H
       have A46 := Aside0.mk A460
       clear A460
       have HC47 := Aside0.mk H
       clear H
       have hnb48 := NB283_284.out
       have hnc48 := NB284_283.out
       have hcz49_0 : wr.cell? ⟨gb283, 0, none⟩ = some (.int .i64 a2_0) := (kC BK283.out 0).trans rfl
       have hcz49_1 : wr.cell? ⟨gb283, 1, none⟩ = some (.int .i64 a2_1) := (kC BK283.out 1).trans rfl
       have hfz49_0 := blk_frozen BK283.out 0
       have hfz49_1 := blk_frozen BK283.out 1
       obtain ⟨Ao50, co50, eo50⟩ := Kd.R_slice HO_16.out
       subst eo50
       go_upto_region 15 with (first | ((with_reducible refine gate_callee (f := 17) rfl ?_); refine goesL_ (some 75) rfl rfl Tryz.func17 (by kernel_rfl) rfl #[.slice Ao50 x16_1.length co50, .int .i64 a1, .agg #[.int .i64 a2_0, .int .i64 a2_1], .slice A3 l3.length c3] rfl (by (try simp only [List.map_toArray, List.map_cons, List.map_nil]); first | done | rfl | (simp only [List.length_drop, List.length_take]; rfl)) ?_; (with_reducible refine (setoff_Interest.calls k1 _ _ x16_1 a1 a2_0 a2_1 _ _ l3 t297 t298 _ ?side1 ?side2 ?side3 ?side4 A46.out).mono ?_); (case side1 => repeat (first | exact (Kd.R_reads' HO_16.out).2.2 | (with_reducible refine Kd.C_alloc ?_ _) | (with_reducible refine Kd.C_drewN ?_ _) | (with_reducible refine Kd.C_drew ?_))); (case side2 => exact (Kd.R_reads' HO_16.out).2.1); (case side3 => repeat (first | exact (Kd.C_below HR3.out HB.out) | (with_reducible refine Kd.C_alloc ?_ _) | (with_reducible refine Kd.C_drewN ?_ _) | (with_reducible refine Kd.C_drew ?_))); (case side4 => exact HC3.out); rintro e w51 ⟨rfl, hb⟩; refine ⟨_, rfl, ?_⟩; have n0_ := Aside0.mk (Kd.R_below (by (with_reducible repeat (first | apply Kd.R_alloc | apply Kd.R_drewN | apply Kd.R_drew)); exact HO_16.out) hb); have n1_ := Aside0.mk (kB (g := gb283) (o := .cells #[.int .i64 a2_0, .int .i64 a2_1] 24 (0, 0)) (by (with_reducible repeat (first | refine kN ?_ _ | refine kD ?_ | refine kA ?_ _)); exact BK283.out) hb); have n2_ := Aside0.mk (kB (g := gb284) (o := .cells #[.int .i64 a4_0, .int .i64 a4_1, .int .i64 a4_2] 46 (0, 0)) (by (with_reducible repeat (first | refine kN ?_ _ | refine kD ?_ | refine kA ?_ _)); exact BK284.out) hb); have n3_ := Aside0.mk (bT (by repeat (first | (with_reducible first | exact HB.out | apply bA | apply bN | apply b1 | refine bS ?_ GE283.out | refine bS ?_ GE284.out) | exact HB.out)) hb); clear HO_16; clear BK283; clear BK284; clear HB; have HO_16 := n0_; have BK283 := n1_; have BK284 := n2_; have HB := n3_; clear n0_ n1_ n2_ n3_; (try clear hb); (try clear hb2); (try clear hk); (try clear hi)))
       (try simp only [Act.put, List.setIfInBounds_toArray, List.set_cons_zero, List.set_cons_succ])
       go_cut [88] (fun v88 wc => ∃ (kq : Nat) (x88_46 : Bool), v88 = .bool x88_46 ∧ Aside0 (cohousinglaw34_SetoffInterest.j1 kq l0 a1 l3 a5 true t286 x88_46 a2_0 a2_1 a4_0 a4_1 a4_2 = some r) ∧ Aside0 (kq ≤ k1) ∧ Aside0 (wc.heap[gb283]? = some (.cells #[.int .i64 a2_0, .int .i64 a2_1] 24 (0, 0))) ∧ Aside0 (wc.heap[gb284]? = some (.cells #[.int .i64 a4_0, .int .i64 a4_1, .int .i64 a4_2] 46 (0, 0))) ∧ Aside0 (Below w.heap.size w wc))
       case first =>
        have H := HC47.out
        clear HC47
        by_cases c52 : t286 < 0
        ·rw [if_pos c52] at H
         have c52b0 : decide (t286 < 0) = true := dT c52
         clear c52
         (first | rw [c52b0] | (simp only [i64_w, i32_w]; rw [c52b0]) | skip)
         have H' := Aside0.mk H
         clear H
         go_wp2
         go_meet
         case rel => exact ⟨_, (true), (by first | rfl | (simp; done) | (simp [*]; done)), H', ⟨by have := HK1.out; first | omega | exact Nat.le_refl _⟩, ⟨by (with_reducible repeat (first | refine kN ?_ _ | refine kD ?_ | refine kA ?_ _)); exact BK283.out⟩, ⟨by (with_reducible repeat (first | refine kN ?_ _ | refine kD ?_ | refine kA ?_ _)); exact BK284.out⟩, ⟨by repeat (first | (with_reducible first | exact HB.out | apply bA | apply bN | apply b1 | refine bS ?_ GE283.out | refine bS ?_ GE284.out) | exact HB.out)⟩⟩
        ·rw [if_neg c52] at H
         have c52b0 : decide (t286 < 0) = false := dF c52
         clear c52
         (first | rw [c52b0] | (simp only [i64_w, i32_w]; rw [c52b0]) | skip)
         by_cases c53 : t298 = 0
         ·rw [if_pos c53] at H
          have c53b0 : (t298 == 0) = true := beq_iff_eq.mpr c53
          have c53b1 : (t298 != 0) = false := bne_eq_false_iff_eq.mpr c53
          clear c53
          have H' := Aside0.mk H
          clear H
          go_wp2
          go_meet
          case rel => exact ⟨_, ((t297 != t286)), (by first | rfl | (simp; done) | (simp [*]; done)), H', ⟨by have := HK1.out; first | omega | exact Nat.le_refl _⟩, ⟨by (with_reducible repeat (first | refine kN ?_ _ | refine kD ?_ | refine kA ?_ _)); exact BK283.out⟩, ⟨by (with_reducible repeat (first | refine kN ?_ _ | refine kD ?_ | refine kA ?_ _)); exact BK284.out⟩, ⟨by repeat (first | (with_reducible first | exact HB.out | apply bA | apply bN | apply b1 | refine bS ?_ GE283.out | refine bS ?_ GE284.out) | exact HB.out)⟩⟩
         ·rw [if_neg c53] at H
          have c53b0 : (t298 == 0) = false := beq_eq_false_iff_ne.mpr c53
          have c53b1 : (t298 != 0) = true := bne_iff_ne.mpr c53
          have H' := Aside0.mk H
          clear H
          go_wp2
          go_meet
          case rel => exact ⟨_, (true), (by first | rfl | (simp; done) | (simp [*]; done)), H', ⟨by have := HK1.out; first | omega | exact Nat.le_refl _⟩, ⟨by (with_reducible repeat (first | refine kN ?_ _ | refine kD ?_ | refine kA ?_ _)); exact BK283.out⟩, ⟨by (with_reducible repeat (first | refine kN ?_ _ | refine kD ?_ | refine kA ?_ _)); exact BK284.out⟩, ⟨by repeat (first | (with_reducible first | exact HB.out | apply bA | apply bN | apply b1 | refine bS ?_ GE283.out | refine bS ?_ GE284.out) | exact HB.out)⟩⟩
       case rest =>
        clear HC47
        try clear c1
        try clear c2
        try clear p2
        try clear q2
        try clear hx2
        try clear c3
        try clear c4
        try clear c5
        try clear p6
        try clear c7
        try clear c8
        try clear c9
        try clear c9b0
        try clear c9b1
        try clear c14
        try clear c14b0
        try clear c14b1
        try clear c17
        try clear c18
        try clear c21
        try clear c21b0
        try clear c22
        try clear c22b0
        try clear c23
        try clear c23b0
        try clear c24
        try clear c25
        try clear c26
        try clear c28
        try clear p28
        try clear q28
        try clear hx28
        try clear c29
        try clear c31
        try clear c40
        try clear c41
        try clear c43
        try clear c48
        try clear c52
        try clear c52b0
        try clear c53
        try clear c53b0
        try clear c53b1
        try clear hcz19_0
        try clear hcz19_1
        try clear hcz30_0
        try clear hcz30_1
        try clear hcz30_2
        try clear hcz30_3
        try clear hcz32_0
        try clear hcz32_1
        try clear hcz34_0
        try clear hcz34_1
        try clear hcz34_2
        try clear hcz34_3
        try clear hcz42_0
        try clear hcz42_1
        try clear hcz42_2
        try clear hcz42_3
        try clear hcz44_0
        try clear hcz44_1
        try clear hcz49_0
        try clear hcz49_1
        try clear hfz19_0
        try clear hfz19_1
        try clear hfz30_0
        try clear hfz30_1
        try clear hfz30_2
        try clear hfz30_3
        try clear hfz32_0
        try clear hfz32_1
        try clear hfz34_0
        try clear hfz34_1
        try clear hfz34_2
        try clear hfz34_3
        try clear hfz42_0
        try clear hfz42_1
        try clear hfz42_2
        try clear hfz42_3
        try clear hfz44_0
        try clear hfz44_1
        try clear hfz49_0
        try clear hfz49_1
        try clear hx288_0
        try clear hx288_1
        try clear hx288_2
        try clear hx288_3
        try clear p2
        try clear p288
        try clear q288
        obtain ⟨kq, x88_46, rfl, HA, HJ46, BK283, BK284, HB⟩ := hcut
        cases kq with
        | zero => exact absurd HA.out (by simp [cohousinglaw34_SetoffInterest.j1])
        | succ kj46 =>
         have H := HA.out
         clear HA
         simp only [cohousinglaw34_SetoffInterest.j1] at H
         by_cases c54 : x88_46 = true
         ·subst c54
          have H1 : (none) = some r := by rw [if_pos rfl] at H; exact H
          clear H
          have H := H1
          clear H1
          exact absurd H (by simp)
         ·replace c54 := Bool.eq_false_iff.mpr c54
          subst c54
          have H1 : ((some (([] : List (S46)) : List (S46))).bind fun y299 => (if y299.length + l3.length < 5864062014805 then ((some (y299 ++ l3 : List (S46))).bind fun y302 => ((some (([(⟨a4_0, (⟨a4_1, a4_2⟩ : S24)⟩ : S46)] : List (S46)) : List (S46))).bind fun y305 => (if y302.length + y305.length < 5864062014805 then ((some (y302 ++ y305 : List (S46))).bind fun y308 => ((setoff_Interest.f kj46 l0 a1 a2_0 a2_1 y308).bind fun bt311 => (if true = true then (if bt311.2 = 1 then (cohousinglaw34_SetoffInterest.j2 kj46 l0 a1 l3 a5 true t286 y308 a2_0 a2_1) else (if bt311.2 = 0 then (if bt311.1 ≤ t286 then (cohousinglaw34_SetoffInterest.j2 kj46 l0 a1 l3 a5 true t286 y308 a2_0 a2_1) else (none)) else (none))) else (none)))) else (none)))) else (none))) = some r := by rw [if_neg (show ¬ (false = true) by decide)] at H; exact H
          clear H
          have H := H1
          clear H1
          obtain ⟨y299, hy299⟩ : ∃ y_ : List (S46), y_ = (([] : List (S46))) := ⟨_, rfl⟩
          replace H : (if y299.length + l3.length < 5864062014805 then ((some (y299 ++ l3 : List (S46))).bind fun y302 => ((some (([(⟨a4_0, (⟨a4_1, a4_2⟩ : S24)⟩ : S46)] : List (S46)) : List (S46))).bind fun y305 => (if y302.length + y305.length < 5864062014805 then ((some (y302 ++ y305 : List (S46))).bind fun y308 => ((setoff_Interest.f kj46 l0 a1 a2_0 a2_1 y308).bind fun bt311 => (if true = true then (if bt311.2 = 1 then (cohousinglaw34_SetoffInterest.j2 kj46 l0 a1 l3 a5 true t286 y308 a2_0 a2_1) else (if bt311.2 = 0 then (if bt311.1 ≤ t286 then (cohousinglaw34_SetoffInterest.j2 kj46 l0 a1 l3 a5 true t286 y308 a2_0 a2_1) else (none)) else (none))) else (none)))) else (none)))) else (none)) = some r := by first | (rw [hy299]; with_reducible exact H) | (have H2_ := (Option.bind_some _ _).symm.trans H; rw [hy299]; with_reducible exact H2_) | (have H2_ := (Option.bind_some _ _).symm.trans H; with_reducible exact H2_) | with_reducible exact H | (rw [hy299]; exact H) | exact H
          have Ny299 := Aside0.mk hy299
          clear hy299
          by_cases c55 : y299.length + l3.length < 5864062014805
          ·rw [if_pos c55] at H
           have LMc55 := Aside0.mk c55
           clear c55
           obtain ⟨y302, hy302⟩ : ∃ y_ : List (S46), y_ = (y299 ++ l3) := ⟨_, rfl⟩
           replace H : ((some (([(⟨a4_0, (⟨a4_1, a4_2⟩ : S24)⟩ : S46)] : List (S46)) : List (S46))).bind fun y305 => (if y302.length + y305.length < 5864062014805 then ((some (y302 ++ y305 : List (S46))).bind fun y308 => ((setoff_Interest.f kj46 l0 a1 a2_0 a2_1 y308).bind fun bt311 => (if true = true then (if bt311.2 = 1 then (cohousinglaw34_SetoffInterest.j2 kj46 l0 a1 l3 a5 true t286 y308 a2_0 a2_1) else (if bt311.2 = 0 then (if bt311.1 ≤ t286 then (cohousinglaw34_SetoffInterest.j2 kj46 l0 a1 l3 a5 true t286 y308 a2_0 a2_1) else (none)) else (none))) else (none)))) else (none))) = some r := by first | (rw [hy302]; with_reducible exact H) | (have H2_ := (Option.bind_some _ _).symm.trans H; rw [hy302]; with_reducible exact H2_) | (have H2_ := (Option.bind_some _ _).symm.trans H; with_reducible exact H2_) | with_reducible exact H | (rw [hy302]; exact H) | exact H
           have Ny302 := Aside0.mk hy302
           clear hy302
           obtain ⟨y305, hy305⟩ : ∃ y_ : List (S46), y_ = (([(⟨a4_0, (⟨a4_1, a4_2⟩ : S24)⟩ : S46)] : List (S46))) := ⟨_, rfl⟩
           replace H : (if y302.length + y305.length < 5864062014805 then ((some (y302 ++ y305 : List (S46))).bind fun y308 => ((setoff_Interest.f kj46 l0 a1 a2_0 a2_1 y308).bind fun bt311 => (if true = true then (if bt311.2 = 1 then (cohousinglaw34_SetoffInterest.j2 kj46 l0 a1 l3 a5 true t286 y308 a2_0 a2_1) else (if bt311.2 = 0 then (if bt311.1 ≤ t286 then (cohousinglaw34_SetoffInterest.j2 kj46 l0 a1 l3 a5 true t286 y308 a2_0 a2_1) else (none)) else (none))) else (none)))) else (none)) = some r := by first | (rw [hy305]; with_reducible exact H) | (have H2_ := (Option.bind_some _ _).symm.trans H; rw [hy305]; with_reducible exact H2_) | (have H2_ := (Option.bind_some _ _).symm.trans H; with_reducible exact H2_) | with_reducible exact H | (rw [hy305]; exact H) | exact H
           have Ny305 := Aside0.mk hy305
           clear hy305
           by_cases c56 : y302.length + y305.length < 5864062014805
           ·rw [if_pos c56] at H
            have LMc56 := Aside0.mk c56
            clear c56
            obtain ⟨y308, hy308⟩ : ∃ y_ : List (S46), y_ = (y302 ++ y305) := ⟨_, rfl⟩
            replace H : ((setoff_Interest.f kj46 l0 a1 a2_0 a2_1 y308).bind fun bt311 => (if true = true then (if bt311.2 = 1 then (cohousinglaw34_SetoffInterest.j2 kj46 l0 a1 l3 a5 true t286 y308 a2_0 a2_1) else (if bt311.2 = 0 then (if bt311.1 ≤ t286 then (cohousinglaw34_SetoffInterest.j2 kj46 l0 a1 l3 a5 true t286 y308 a2_0 a2_1) else (none)) else (none))) else (none))) = some r := by first | (rw [hy308]; with_reducible exact H) | (have H2_ := (Option.bind_some _ _).symm.trans H; rw [hy308]; with_reducible exact H2_) | (have H2_ := (Option.bind_some _ _).symm.trans H; with_reducible exact H2_) | with_reducible exact H | (rw [hy308]; exact H) | exact H
            have Ny308 := Aside0.mk hy308
            clear hy308
            replace H := Option.bind_eq_some_iff.mp H
            obtain ⟨⟨t311, t312⟩, A570, H⟩ := H
            replace H : (if true = true then (if t312 = 1 then (cohousinglaw34_SetoffInterest.j2 kj46 l0 a1 l3 a5 true t286 y308 a2_0 a2_1) else (if t312 = 0 then (if t311 ≤ t286 then (cohousinglaw34_SetoffInterest.j2 kj46 l0 a1 l3 a5 true t286 y308 a2_0 a2_1) else (none)) else (none))) else (none)) = some r := H
            have A57 := Aside0.mk A570
            clear A570
            have HC58 := Aside0.mk H
            clear H
            try go_wp2
            have n0_ := Aside0.mk (kD BK283.out)
            have n1_ := Aside0.mk (kD BK284.out)
            have n2_ := Aside0.mk (b1 HB.out)
            clear BK283
            clear BK284
            clear HB
            have BK283 := n0_
            have BK284 := n1_
            have HB := n2_
            clear n0_ n1_ n2_
            refine start_ (n := 7) (S := fun w' => w'.cell? ⟨gb284, 0, none⟩ = some (.int .i64 a4_0) ∧ w'.cell? ⟨gb284, 1, none⟩ = some (.int .i64 a4_1) ∧ w'.cell? ⟨gb284, 2, none⟩ = some (.int .i64 a4_2)) (ds := []) #[false, false, false, false, false, false, false] (by kernel_rfl) rfl rfl ⟨(kC BK284.out 0).trans rfl, (kC BK284.out 1).trans rfl, (kC BK284.out 2).trans rfl⟩ (fun hHeld => ?_)
            generalize wc.drew = w59 at BK283 BK284 HB hHeld ⊢
            refine pure_ (i := 1) (N := some 90) (v := ?_) (a' := ?_) #[false, true, false, false, false, false, false] rfl rfl (by kernel_rfl) (fun _ _ _ h => h) (Or.inl ⟨by rfl, ?_⟩) ?_ ?_
            rotate_left
            ·intro w'
             go_simp
             with_reducible rfl
            rotate_left
            ·simp only [Act.put, List.setIfInBounds_toArray, List.set_cons_zero, List.set_cons_succ, i64_w, i32_w]
             rfl
            refine take_ (i := 3) (N := some 92) (v := ?_) (a' := ?_) #[false, true, false, true, false, false, false] rfl rfl (by kernel_rfl) (fun _ _ _ h => h) (Or.inl ⟨by rfl, ?_⟩) hHeld ?_ ?_
            rotate_left
            ·rintro w' ⟨s0, s1, s2⟩
             go_simp
             with_reducible rfl
            rotate_left
            ·simp only [Act.put, List.setIfInBounds_toArray, List.set_cons_zero, List.set_cons_succ, i64_w, i32_w]
             rfl
            refine join_ (σ := Value × Value × Value) 2 #[true, true, true, true, true, false, false] (fun s_ => [(89, s_.1), (91, s_.2.1), (93, s_.2.2)]) (fun s_ w' => (w'.cell? ⟨gb284, 0, none⟩ = some (.int .i64 a4_0) ∧ w'.cell? ⟨gb284, 1, none⟩ = some (.int .i64 a4_1) ∧ w'.cell? ⟨gb284, 2, none⟩ = some (.int .i64 a4_2)) ∧ (Kd.R k46 46 w' w.heap.size (fun k_ => some k_ ≠ (s_.2.2 : Value).ownBlock ∧ k_ ≠ gb284) s_.2.1 y302) ∧ (Kd.R k46 46 w' w.heap.size (fun k_ => some k_ ≠ (s_.2.1 : Value).ownBlock ∧ k_ ≠ gb284) s_.2.2 y305) ∧ (w'.heap[gb283]? = some (.cells #[.int .i64 a2_0, .int .i64 a2_1] 24 (0, 0))) ∧ (w'.heap[gb284]? = some (.cells #[.int .i64 a4_0, .int .i64 a4_1, .int .i64 a4_2] 46 (0, 0))) ∧ (Below w.heap.size w w')) ?_ ?_
            rotate_left
            ·intro hCont
             refine two_ (i := 0) (j := 4) (Ni := some 89) (Nj := some 93) #[true, true, false, true, false, false, false] #[false, true, false, true, true, false, false] rfl rfl rfl rfl (by kernel_rfl) (by decide) (by decide) (fun K hK => ?_) (fun K hK => ?_)
             ·skip
              refine Kd.R_lit_step k46 _ 46 ?hg (N := 89) ?hd (xs := ([] : List (S46))) (inner := []) (ok := fun _ => True) (okp := fun _ => True) ?hr ?hp (fun _ hk => hk) trivial (Below.refl _ _) (Nat.le_refl _) (by simp) ?_; (case hd => rfl); (case hg => rfl); (case hr => first | (go_simp; done) | (go_simp; rfl)); (case hp => exact (Reps.none _ _))
              intro v300 w60 ho61 hb hg_ hnew_
              clear hg_ hnew_
              (first | rw [← Ny299.out] at ho61 | (simp only [Int.reduceToNat] at ho61; rw [← Ny299.out] at ho61))
              have n0_ := Aside0.mk (Kd.R_lower (Kd.R_newB ho61 (g := gb284) (o := .cells #[.int .i64 a4_0, .int .i64 a4_1, .int .i64 a4_2] 46 (0, 0)) (by (with_reducible repeat (first | refine kN ?_ _ | refine kD ?_ | refine kA ?_ _)); exact BK284.out)) (bZ (by repeat (first | (with_reducible first | exact HB.out | apply bA | apply bN | apply b1 | refine bS ?_ GE283.out | refine bS ?_ GE284.out) | exact HB.out))))
              have n1_ := Aside0.mk (kB (g := gb283) (o := .cells #[.int .i64 a2_0, .int .i64 a2_1] 24 (0, 0)) (by (with_reducible repeat (first | refine kN ?_ _ | refine kD ?_ | refine kA ?_ _)); exact BK283.out) hb)
              have n2_ := Aside0.mk (kB (g := gb284) (o := .cells #[.int .i64 a4_0, .int .i64 a4_1, .int .i64 a4_2] 46 (0, 0)) (by (with_reducible repeat (first | refine kN ?_ _ | refine kD ?_ | refine kA ?_ _)); exact BK284.out) hb)
              have n3_ := Aside0.mk (bT (by repeat (first | (with_reducible first | exact HB.out | apply bA | apply bN | apply b1 | refine bS ?_ GE283.out | refine bS ?_ GE284.out) | exact HB.out)) hb)
              clear BK283
              clear BK284
              clear HB
              have HO301 := n0_
              have BK283 := n1_
              have BK284 := n2_
              have HB := n3_
              clear n0_ n1_ n2_ n3_
              clear hb ho61
              refine hK.out _ _ ⟨(kC BK284.out 0).trans rfl, (kC BK284.out 1).trans rfl, (kC BK284.out 2).trans rfl⟩ (fun hHeld => ?_)
              clear hK K
              refine norm_ (a' := ?_) ?_ ?_
              rotate_left
              ·show Act.put _ (some 89) _ = _
               simp only [Act.put, List.setIfInBounds_toArray, List.set_cons_zero, List.set_cons_succ, i64_w, i32_w]
               rfl
              refine two_ (i := 2) (j := 4) (Ni := some 91) (Nj := some 93) #[true, true, true, true, false, false, false] #[true, true, false, true, true, false, false] rfl rfl rfl rfl (by kernel_rfl) (by decide) (by decide) (fun K hK => ?_) (fun K hK => ?_)
              ·skip
               refine Kd.R_append_rows_step k46 (w0 := w) w.heap.size (by rfl) (.tmp 89) (.tmp 90) 25 46 (.agg #[(.int .i64 0), (.int .i64 0), (.int .i64 0)]) 24 rfl Tryz.underlying25 info46 rfl (by decide) (by omega) v300 y299 l3 _ _ _ (fun k_ => k_ ≠ gb284) (fun _ => False) rfl rfl ?aO ?aR (fun _ _ h => h) (fun _ h => h.elim) ?aF ?aB ?aS ?aL ?_
               (case aR => repeat (first | exact (Kd.C_below HR3.out HB.out) | (with_reducible refine Kd.C_alloc ?_ _) | (with_reducible refine Kd.C_drewN ?_ _) | (with_reducible refine Kd.C_drew ?_)))
               (case aB => exact (by repeat (first | (with_reducible first | exact HB.out | apply bA | apply bN | apply b1 | refine bS ?_ GE283.out | refine bS ?_ GE284.out) | exact HB.out)))
               (case aF => exact (fun k_ hk => Kd.freshB (g := gb284) (o := .cells #[.int .i64 a4_0, .int .i64 a4_1, .int .i64 a4_2] 46 (0, 0)) (by (with_reducible repeat (first | refine kN ?_ _ | refine kD ?_ | refine kA ?_ _)); exact BK284.out) k_ hk))
               (case aO => exact (by (with_reducible repeat (first | apply Kd.R_alloc | apply Kd.R_drewN | apply Kd.R_drew)); exact Kd.R_mono HO301.out (fun _ hk => hk.2)))
               (case aS => exact (bZ (by repeat (first | (with_reducible first | exact HB.out | apply bA | apply bN | apply b1 | refine bS ?_ GE283.out | refine bS ?_ GE284.out) | exact HB.out))))
               (case aL => have := LMc55.out; omega)
               intro v303 w62 ho hb hg hat
               rw [← Ny302.out] at ho
               have n0_ := Aside0.mk (blk_grown (g := gb283) (o := .cells #[.int .i64 a2_0, .int .i64 a2_1] 24 (0, 0)) (by (with_reducible repeat (first | refine kN ?_ _ | refine kD ?_ | refine kA ?_ _)); exact BK283.out) hg (Kd.R_ne HO301.out BK283.out (by decide)))
               have n1_ := Aside0.mk (blk_grown (g := gb284) (o := .cells #[.int .i64 a4_0, .int .i64 a4_1, .int .i64 a4_2] 46 (0, 0)) (by (with_reducible repeat (first | refine kN ?_ _ | refine kD ?_ | refine kA ?_ _)); exact BK284.out) hg (Kd.R_away HO301.out (fun _ hk => hk.2)))
               have n2_ := Aside0.mk (hb)
               have n3_ := Aside0.mk (ho)
               clear BK283
               clear BK284
               clear HB
               clear HO301
               have BK283 := n0_
               have BK284 := n1_
               have HB := n2_
               have HO304 := n3_
               clear n0_ n1_ n2_ n3_
               clear ho hb hg hat
               refine hK.out _ _ ⟨(kC BK284.out 0).trans rfl, (kC BK284.out 1).trans rfl, (kC BK284.out 2).trans rfl⟩ (fun hHeld => ?_)
               clear hK K
               refine norm_ (a' := ?_) ?_ ?_
               rotate_left
               ·show Act.put _ (some 91) _ = _
                simp only [Act.put, List.setIfInBounds_toArray, List.set_cons_zero, List.set_cons_succ, i64_w, i32_w]
                rfl
               refine one_ (i := 4) (N := some 93) #[true, true, true, true, true, false, false] rfl rfl (by kernel_rfl) (by decide) (fun K hK => ?_)
               refine Kd.R_lit_step k46 _ 46 ?hg (N := 93) ?hd (xs := ([(⟨a4_0, (⟨a4_1, a4_2⟩ : S24)⟩ : S46)] : List (S46))) (inner := [.int .i64 a4_0, .int .i64 a4_1, .int .i64 a4_2]) (ok := fun _ => True) (okp := fun _ => True) ?hr ?hp (fun _ hk => hk) trivial (Below.refl _ _) (Nat.le_refl _) (by simp) ?_; (case hd => rfl); (case hg => rfl); (case hr => first | (go_simp; done) | (go_simp; rfl)); (case hp => exact (Reps.c3 (show Kd.M k46 _ _ _ (⟨a4_0, (⟨a4_1, a4_2⟩ : S24)⟩ : S46) [.int .i64 a4_0, .int .i64 a4_1, .int .i64 a4_2] from (k46_mkM _ _ _ (⟨a4_0, (⟨a4_1, a4_2⟩ : S24)⟩ : S46) )) (Reps.none _ _)))
               intro v306 w63 ho64 hb hg_ hnew_
               clear hg_ hnew_
               (first | rw [← Ny305.out] at ho64 | (simp only [Int.reduceToNat] at ho64; rw [← Ny305.out] at ho64))
               have n0_ := Aside0.mk (Kd.R_elder' (by (with_reducible repeat (first | apply Kd.R_alloc | apply Kd.R_drewN | apply Kd.R_drew)); exact HO304.out) (Kd.R_base ho64) hb)
               have n1_ := Aside0.mk (Kd.R_lower (Kd.R_newB (Kd.R_new' ho64 (Kd.R_lt (by (with_reducible repeat (first | apply Kd.R_alloc | apply Kd.R_drewN | apply Kd.R_drew)); exact HO304.out))) (g := gb284) (o := .cells #[.int .i64 a4_0, .int .i64 a4_1, .int .i64 a4_2] 46 (0, 0)) (by (with_reducible repeat (first | refine kN ?_ _ | refine kD ?_ | refine kA ?_ _)); exact BK284.out)) (bZ (by repeat (first | (with_reducible first | exact HB.out | apply bA | apply bN | apply b1 | refine bS ?_ GE283.out | refine bS ?_ GE284.out) | exact HB.out))))
               have n2_ := Aside0.mk (kB (g := gb283) (o := .cells #[.int .i64 a2_0, .int .i64 a2_1] 24 (0, 0)) (by (with_reducible repeat (first | refine kN ?_ _ | refine kD ?_ | refine kA ?_ _)); exact BK283.out) hb)
               have n3_ := Aside0.mk (kB (g := gb284) (o := .cells #[.int .i64 a4_0, .int .i64 a4_1, .int .i64 a4_2] 46 (0, 0)) (by (with_reducible repeat (first | refine kN ?_ _ | refine kD ?_ | refine kA ?_ _)); exact BK284.out) hb)
               have n4_ := Aside0.mk (bT (by repeat (first | (with_reducible first | exact HB.out | apply bA | apply bN | apply b1 | refine bS ?_ GE283.out | refine bS ?_ GE284.out) | exact HB.out)) hb)
               clear HO304
               clear BK283
               clear BK284
               clear HB
               have HO304 := n0_
               have HO307 := n1_
               have BK283 := n2_
               have BK284 := n3_
               have HB := n4_
               clear n0_ n1_ n2_ n3_ n4_
               clear hb ho64
               refine hK.out _ _ ⟨(kC BK284.out 0).trans rfl, (kC BK284.out 1).trans rfl, (kC BK284.out 2).trans rfl⟩ (fun hHeld => ?_)
               clear hK K
               refine norm_ (a' := ?_) ?_ ?_
               rotate_left
               ·show Act.put _ (some 93) _ = _
                simp only [Act.put, List.setIfInBounds_toArray, List.set_cons_zero, List.set_cons_succ, i64_w, i32_w]
                rfl
               exact norm_ (by simp only [putAll, Act.put, List.setIfInBounds_toArray, List.set_cons_zero, List.set_cons_succ]) (hCont (v300, v303, v306) _ ⟨hHeld, (by (with_reducible repeat (first | apply Kd.R_alloc | apply Kd.R_drewN | apply Kd.R_drew)); exact Kd.R_mono HO304.out (fun _ hk => ⟨hk.2, hk.1⟩)), (by (with_reducible repeat (first | apply Kd.R_alloc | apply Kd.R_drewN | apply Kd.R_drew)); exact Kd.R_mono HO307.out (fun _ hk => ⟨hk.1.2, hk.2⟩)), (by (with_reducible repeat (first | refine kN ?_ _ | refine kD ?_ | refine kA ?_ _)); exact BK283.out), (by (with_reducible repeat (first | refine kN ?_ _ | refine kD ?_ | refine kA ?_ _)); exact BK284.out), (by repeat (first | (with_reducible first | exact HB.out | apply bA | apply bN | apply b1 | refine bS ?_ GE283.out | refine bS ?_ GE284.out) | exact HB.out))⟩)
              ·skip
               refine Kd.R_lit_step k46 _ 46 ?hg (N := 93) ?hd (xs := ([(⟨a4_0, (⟨a4_1, a4_2⟩ : S24)⟩ : S46)] : List (S46))) (inner := [.int .i64 a4_0, .int .i64 a4_1, .int .i64 a4_2]) (ok := fun _ => True) (okp := fun _ => True) ?hr ?hp (fun _ hk => hk) trivial (Below.refl _ _) (Nat.le_refl _) (by simp) ?_; (case hd => rfl); (case hg => rfl); (case hr => first | (go_simp; done) | (go_simp; rfl)); (case hp => exact (Reps.c3 (show Kd.M k46 _ _ _ (⟨a4_0, (⟨a4_1, a4_2⟩ : S24)⟩ : S46) [.int .i64 a4_0, .int .i64 a4_1, .int .i64 a4_2] from (k46_mkM _ _ _ (⟨a4_0, (⟨a4_1, a4_2⟩ : S24)⟩ : S46) )) (Reps.none _ _)))
               intro v306 w62 ho63 hb hg_ hnew_
               clear hg_ hnew_
               (first | rw [← Ny305.out] at ho63 | (simp only [Int.reduceToNat] at ho63; rw [← Ny305.out] at ho63))
               have n0_ := Aside0.mk (Kd.R_elder' (by (with_reducible repeat (first | apply Kd.R_alloc | apply Kd.R_drewN | apply Kd.R_drew)); exact HO301.out) (Kd.R_base ho63) hb)
               have n1_ := Aside0.mk (Kd.R_lower (Kd.R_newB (Kd.R_new' ho63 (Kd.R_lt (by (with_reducible repeat (first | apply Kd.R_alloc | apply Kd.R_drewN | apply Kd.R_drew)); exact HO301.out))) (g := gb284) (o := .cells #[.int .i64 a4_0, .int .i64 a4_1, .int .i64 a4_2] 46 (0, 0)) (by (with_reducible repeat (first | refine kN ?_ _ | refine kD ?_ | refine kA ?_ _)); exact BK284.out)) (bZ (by repeat (first | (with_reducible first | exact HB.out | apply bA | apply bN | apply b1 | refine bS ?_ GE283.out | refine bS ?_ GE284.out) | exact HB.out))))
               have n2_ := Aside0.mk (kB (g := gb283) (o := .cells #[.int .i64 a2_0, .int .i64 a2_1] 24 (0, 0)) (by (with_reducible repeat (first | refine kN ?_ _ | refine kD ?_ | refine kA ?_ _)); exact BK283.out) hb)
               have n3_ := Aside0.mk (kB (g := gb284) (o := .cells #[.int .i64 a4_0, .int .i64 a4_1, .int .i64 a4_2] 46 (0, 0)) (by (with_reducible repeat (first | refine kN ?_ _ | refine kD ?_ | refine kA ?_ _)); exact BK284.out) hb)
               have n4_ := Aside0.mk (bT (by repeat (first | (with_reducible first | exact HB.out | apply bA | apply bN | apply b1 | refine bS ?_ GE283.out | refine bS ?_ GE284.out) | exact HB.out)) hb)
               clear HO301
               clear BK283
               clear BK284
               clear HB
               have HO301 := n0_
               have HO307 := n1_
               have BK283 := n2_
               have BK284 := n3_
               have HB := n4_
               clear n0_ n1_ n2_ n3_ n4_
               clear hb ho63
               refine hK.out _ _ ⟨(kC BK284.out 0).trans rfl, (kC BK284.out 1).trans rfl, (kC BK284.out 2).trans rfl⟩ (fun hHeld => ?_)
               clear hK K
               refine norm_ (a' := ?_) ?_ ?_
               rotate_left
               ·show Act.put _ (some 93) _ = _
                simp only [Act.put, List.setIfInBounds_toArray, List.set_cons_zero, List.set_cons_succ, i64_w, i32_w]
                rfl
               refine one_ (i := 2) (N := some 91) #[true, true, true, true, true, false, false] rfl rfl (by kernel_rfl) (by decide) (fun K hK => ?_)
               refine Kd.R_append_rows_step k46 (w0 := w) w.heap.size (by rfl) (.tmp 89) (.tmp 90) 25 46 (.agg #[(.int .i64 0), (.int .i64 0), (.int .i64 0)]) 24 rfl Tryz.underlying25 info46 rfl (by decide) (by omega) v300 y299 l3 _ _ _ (fun k_ => some k_ ≠ (v306 : Value).ownBlock ∧ k_ ≠ gb284) (fun _ => False) rfl rfl ?aO ?aR (fun _ _ h => h) (fun _ h => h.elim) ?aF ?aB ?aS ?aL ?_
               (case aR => repeat (first | exact (Kd.C_below HR3.out HB.out) | (with_reducible refine Kd.C_alloc ?_ _) | (with_reducible refine Kd.C_drewN ?_ _) | (with_reducible refine Kd.C_drew ?_)))
               (case aB => exact (by repeat (first | (with_reducible first | exact HB.out | apply bA | apply bN | apply b1 | refine bS ?_ GE283.out | refine bS ?_ GE284.out) | exact HB.out)))
               (case aF => exact (fun k_ hk => ⟨Kd.fresh' (Kd.R_lt (by (with_reducible repeat (first | apply Kd.R_alloc | apply Kd.R_drewN | apply Kd.R_drew)); exact HO307.out)) k_ hk, Kd.freshB (g := gb284) (o := .cells #[.int .i64 a4_0, .int .i64 a4_1, .int .i64 a4_2] 46 (0, 0)) (by (with_reducible repeat (first | refine kN ?_ _ | refine kD ?_ | refine kA ?_ _)); exact BK284.out) k_ hk⟩))
               (case aO => exact (by (with_reducible repeat (first | apply Kd.R_alloc | apply Kd.R_drewN | apply Kd.R_drew)); exact Kd.R_mono HO301.out (fun _ hk => ⟨hk.2, hk.1.2⟩)))
               (case aS => exact (bZ (by repeat (first | (with_reducible first | exact HB.out | apply bA | apply bN | apply b1 | refine bS ?_ GE283.out | refine bS ?_ GE284.out) | exact HB.out))))
               (case aL => have := LMc55.out; omega)
               intro v303 w64 ho hb hg hat
               rw [← Ny302.out] at ho
               have n0_ := Aside0.mk (blk_grown (g := gb283) (o := .cells #[.int .i64 a2_0, .int .i64 a2_1] 24 (0, 0)) (by (with_reducible repeat (first | refine kN ?_ _ | refine kD ?_ | refine kA ?_ _)); exact BK283.out) hg (Kd.R_ne HO301.out BK283.out (by decide)))
               have n1_ := Aside0.mk (blk_grown (g := gb284) (o := .cells #[.int .i64 a4_0, .int .i64 a4_1, .int .i64 a4_2] 46 (0, 0)) (by (with_reducible repeat (first | refine kN ?_ _ | refine kD ?_ | refine kA ?_ _)); exact BK284.out) hg (Kd.R_away HO301.out (fun _ hk => hk.1.2)))
               have n2_ := Aside0.mk (Kd.R_after (ok := (fun k_ => k_ ≠ gb284)) (by (with_reducible repeat (first | apply Kd.R_alloc | apply Kd.R_drewN | apply Kd.R_drew)); exact Kd.R_mono HO307.out (fun _ hk => ⟨hk.2, hk.1.2⟩)) hg hat)
               have n3_ := Aside0.mk (hb)
               have n4_ := Aside0.mk (ho)
               clear BK283
               clear BK284
               clear HO307
               clear HB
               clear HO301
               have BK283 := n0_
               have BK284 := n1_
               have HO307 := n2_
               have HB := n3_
               have HO304 := n4_
               clear n0_ n1_ n2_ n3_ n4_
               clear ho hb hg hat
               refine hK.out _ _ ⟨(kC BK284.out 0).trans rfl, (kC BK284.out 1).trans rfl, (kC BK284.out 2).trans rfl⟩ (fun hHeld => ?_)
               clear hK K
               refine norm_ (a' := ?_) ?_ ?_
               rotate_left
               ·show Act.put _ (some 91) _ = _
                simp only [Act.put, List.setIfInBounds_toArray, List.set_cons_zero, List.set_cons_succ, i64_w, i32_w]
                rfl
               exact norm_ (by simp only [putAll, Act.put, List.setIfInBounds_toArray, List.set_cons_zero, List.set_cons_succ]) (hCont (v300, v303, v306) _ ⟨hHeld, (by (with_reducible repeat (first | apply Kd.R_alloc | apply Kd.R_drewN | apply Kd.R_drew)); exact HO304.out), (by (with_reducible repeat (first | apply Kd.R_alloc | apply Kd.R_drewN | apply Kd.R_drew)); exact Kd.R_mono HO307.out (fun _ hk => ⟨hk.2, hk.1⟩)), (by (with_reducible repeat (first | refine kN ?_ _ | refine kD ?_ | refine kA ?_ _)); exact BK283.out), (by (with_reducible repeat (first | refine kN ?_ _ | refine kD ?_ | refine kA ?_ _)); exact BK284.out), (by repeat (first | (with_reducible first | exact HB.out | apply bA | apply bN | apply b1 | refine bS ?_ GE283.out | refine bS ?_ GE284.out) | exact HB.out))⟩)
             ·skip
              refine Kd.R_lit_step k46 _ 46 ?hg (N := 93) ?hd (xs := ([(⟨a4_0, (⟨a4_1, a4_2⟩ : S24)⟩ : S46)] : List (S46))) (inner := [.int .i64 a4_0, .int .i64 a4_1, .int .i64 a4_2]) (ok := fun _ => True) (okp := fun _ => True) ?hr ?hp (fun _ hk => hk) trivial (Below.refl _ _) (Nat.le_refl _) (by simp) ?_; (case hd => rfl); (case hg => rfl); (case hr => first | (go_simp; done) | (go_simp; rfl)); (case hp => exact (Reps.c3 (show Kd.M k46 _ _ _ (⟨a4_0, (⟨a4_1, a4_2⟩ : S24)⟩ : S46) [.int .i64 a4_0, .int .i64 a4_1, .int .i64 a4_2] from (k46_mkM _ _ _ (⟨a4_0, (⟨a4_1, a4_2⟩ : S24)⟩ : S46) )) (Reps.none _ _)))
              intro v306 w60 ho61 hb hg_ hnew_
              clear hg_ hnew_
              (first | rw [← Ny305.out] at ho61 | (simp only [Int.reduceToNat] at ho61; rw [← Ny305.out] at ho61))
              have n0_ := Aside0.mk (Kd.R_lower (Kd.R_newB ho61 (g := gb284) (o := .cells #[.int .i64 a4_0, .int .i64 a4_1, .int .i64 a4_2] 46 (0, 0)) (by (with_reducible repeat (first | refine kN ?_ _ | refine kD ?_ | refine kA ?_ _)); exact BK284.out)) (bZ (by repeat (first | (with_reducible first | exact HB.out | apply bA | apply bN | apply b1 | refine bS ?_ GE283.out | refine bS ?_ GE284.out) | exact HB.out))))
              have n1_ := Aside0.mk (kB (g := gb283) (o := .cells #[.int .i64 a2_0, .int .i64 a2_1] 24 (0, 0)) (by (with_reducible repeat (first | refine kN ?_ _ | refine kD ?_ | refine kA ?_ _)); exact BK283.out) hb)
              have n2_ := Aside0.mk (kB (g := gb284) (o := .cells #[.int .i64 a4_0, .int .i64 a4_1, .int .i64 a4_2] 46 (0, 0)) (by (with_reducible repeat (first | refine kN ?_ _ | refine kD ?_ | refine kA ?_ _)); exact BK284.out) hb)
              have n3_ := Aside0.mk (bT (by repeat (first | (with_reducible first | exact HB.out | apply bA | apply bN | apply b1 | refine bS ?_ GE283.out | refine bS ?_ GE284.out) | exact HB.out)) hb)
              clear BK283
              clear BK284
              clear HB
              have HO307 := n0_
              have BK283 := n1_
              have BK284 := n2_
              have HB := n3_
              clear n0_ n1_ n2_ n3_
              clear hb ho61
              refine hK.out _ _ ⟨(kC BK284.out 0).trans rfl, (kC BK284.out 1).trans rfl, (kC BK284.out 2).trans rfl⟩ (fun hHeld => ?_)
              clear hK K
              refine norm_ (a' := ?_) ?_ ?_
              rotate_left
              ·show Act.put _ (some 93) _ = _
               simp only [Act.put, List.setIfInBounds_toArray, List.set_cons_zero, List.set_cons_succ, i64_w, i32_w]
               rfl
              refine one_ (i := 0) (N := some 89) #[true, true, false, true, true, false, false] rfl rfl (by kernel_rfl) (by decide) (fun K hK => ?_)
              refine Kd.R_lit_step k46 _ 46 ?hg (N := 89) ?hd (xs := ([] : List (S46))) (inner := []) (ok := fun _ => True) (okp := fun _ => True) ?hr ?hp (fun _ hk => hk) trivial (Below.refl _ _) (Nat.le_refl _) (by simp) ?_; (case hd => rfl); (case hg => rfl); (case hr => first | (go_simp; done) | (go_simp; rfl)); (case hp => exact (Reps.none _ _))
              intro v300 w62 ho63 hb hg_ hnew_
              clear hg_ hnew_
              (first | rw [← Ny299.out] at ho63 | (simp only [Int.reduceToNat] at ho63; rw [← Ny299.out] at ho63))
              have n0_ := Aside0.mk (Kd.R_elder' (by (with_reducible repeat (first | apply Kd.R_alloc | apply Kd.R_drewN | apply Kd.R_drew)); exact HO307.out) (Kd.R_base ho63) hb)
              have n1_ := Aside0.mk (Kd.R_lower (Kd.R_newB (Kd.R_new' ho63 (Kd.R_lt (by (with_reducible repeat (first | apply Kd.R_alloc | apply Kd.R_drewN | apply Kd.R_drew)); exact HO307.out))) (g := gb284) (o := .cells #[.int .i64 a4_0, .int .i64 a4_1, .int .i64 a4_2] 46 (0, 0)) (by (with_reducible repeat (first | refine kN ?_ _ | refine kD ?_ | refine kA ?_ _)); exact BK284.out)) (bZ (by repeat (first | (with_reducible first | exact HB.out | apply bA | apply bN | apply b1 | refine bS ?_ GE283.out | refine bS ?_ GE284.out) | exact HB.out))))
              have n2_ := Aside0.mk (kB (g := gb283) (o := .cells #[.int .i64 a2_0, .int .i64 a2_1] 24 (0, 0)) (by (with_reducible repeat (first | refine kN ?_ _ | refine kD ?_ | refine kA ?_ _)); exact BK283.out) hb)
              have n3_ := Aside0.mk (kB (g := gb284) (o := .cells #[.int .i64 a4_0, .int .i64 a4_1, .int .i64 a4_2] 46 (0, 0)) (by (with_reducible repeat (first | refine kN ?_ _ | refine kD ?_ | refine kA ?_ _)); exact BK284.out) hb)
              have n4_ := Aside0.mk (bT (by repeat (first | (with_reducible first | exact HB.out | apply bA | apply bN | apply b1 | refine bS ?_ GE283.out | refine bS ?_ GE284.out) | exact HB.out)) hb)
              clear HO307
              clear BK283
              clear BK284
              clear HB
              have HO307 := n0_
              have HO301 := n1_
              have BK283 := n2_
              have BK284 := n3_
              have HB := n4_
              clear n0_ n1_ n2_ n3_ n4_
              clear hb ho63
              refine hK.out _ _ ⟨(kC BK284.out 0).trans rfl, (kC BK284.out 1).trans rfl, (kC BK284.out 2).trans rfl⟩ (fun hHeld => ?_)
              clear hK K
              refine norm_ (a' := ?_) ?_ ?_
              rotate_left
              ·show Act.put _ (some 89) _ = _
               simp only [Act.put, List.setIfInBounds_toArray, List.set_cons_zero, List.set_cons_succ, i64_w, i32_w]
               rfl
              refine one_ (i := 2) (N := some 91) #[true, true, true, true, true, false, false] rfl rfl (by kernel_rfl) (by decide) (fun K hK => ?_)
              refine Kd.R_append_rows_step k46 (w0 := w) w.heap.size (by rfl) (.tmp 89) (.tmp 90) 25 46 (.agg #[(.int .i64 0), (.int .i64 0), (.int .i64 0)]) 24 rfl Tryz.underlying25 info46 rfl (by decide) (by omega) v300 y299 l3 _ _ _ (fun k_ => some k_ ≠ (v306 : Value).ownBlock ∧ k_ ≠ gb284) (fun _ => False) rfl rfl ?aO ?aR (fun _ _ h => h) (fun _ h => h.elim) ?aF ?aB ?aS ?aL ?_
              (case aR => repeat (first | exact (Kd.C_below HR3.out HB.out) | (with_reducible refine Kd.C_alloc ?_ _) | (with_reducible refine Kd.C_drewN ?_ _) | (with_reducible refine Kd.C_drew ?_)))
              (case aB => exact (by repeat (first | (with_reducible first | exact HB.out | apply bA | apply bN | apply b1 | refine bS ?_ GE283.out | refine bS ?_ GE284.out) | exact HB.out)))
              (case aF => exact (fun k_ hk => ⟨Kd.fresh' (Kd.R_lt (by (with_reducible repeat (first | apply Kd.R_alloc | apply Kd.R_drewN | apply Kd.R_drew)); exact HO307.out)) k_ hk, Kd.freshB (g := gb284) (o := .cells #[.int .i64 a4_0, .int .i64 a4_1, .int .i64 a4_2] 46 (0, 0)) (by (with_reducible repeat (first | refine kN ?_ _ | refine kD ?_ | refine kA ?_ _)); exact BK284.out) k_ hk⟩))
              (case aO => exact (by (with_reducible repeat (first | apply Kd.R_alloc | apply Kd.R_drewN | apply Kd.R_drew)); exact Kd.R_mono HO301.out (fun _ hk => ⟨hk.1.2, hk.2⟩)))
              (case aS => exact (bZ (by repeat (first | (with_reducible first | exact HB.out | apply bA | apply bN | apply b1 | refine bS ?_ GE283.out | refine bS ?_ GE284.out) | exact HB.out))))
              (case aL => have := LMc55.out; omega)
              intro v303 w64 ho hb hg hat
              rw [← Ny302.out] at ho
              have n0_ := Aside0.mk (blk_grown (g := gb283) (o := .cells #[.int .i64 a2_0, .int .i64 a2_1] 24 (0, 0)) (by (with_reducible repeat (first | refine kN ?_ _ | refine kD ?_ | refine kA ?_ _)); exact BK283.out) hg (Kd.R_ne HO301.out BK283.out (by decide)))
              have n1_ := Aside0.mk (blk_grown (g := gb284) (o := .cells #[.int .i64 a4_0, .int .i64 a4_1, .int .i64 a4_2] 46 (0, 0)) (by (with_reducible repeat (first | refine kN ?_ _ | refine kD ?_ | refine kA ?_ _)); exact BK284.out) hg (Kd.R_away HO301.out (fun _ hk => hk.2)))
              have n2_ := Aside0.mk (Kd.R_after (ok := (fun k_ => k_ ≠ gb284)) (by (with_reducible repeat (first | apply Kd.R_alloc | apply Kd.R_drewN | apply Kd.R_drew)); exact Kd.R_mono HO307.out (fun _ hk => ⟨hk.1.2, hk.2⟩)) hg hat)
              have n3_ := Aside0.mk (hb)
              have n4_ := Aside0.mk (ho)
              clear BK283
              clear BK284
              clear HO307
              clear HB
              clear HO301
              have BK283 := n0_
              have BK284 := n1_
              have HO307 := n2_
              have HB := n3_
              have HO304 := n4_
              clear n0_ n1_ n2_ n3_ n4_
              clear ho hb hg hat
              refine hK.out _ _ ⟨(kC BK284.out 0).trans rfl, (kC BK284.out 1).trans rfl, (kC BK284.out 2).trans rfl⟩ (fun hHeld => ?_)
              clear hK K
              refine norm_ (a' := ?_) ?_ ?_
              rotate_left
              ·show Act.put _ (some 91) _ = _
               simp only [Act.put, List.setIfInBounds_toArray, List.set_cons_zero, List.set_cons_succ, i64_w, i32_w]
               rfl
              exact norm_ (by simp only [putAll, Act.put, List.setIfInBounds_toArray, List.set_cons_zero, List.set_cons_succ]) (hCont (v300, v303, v306) _ ⟨hHeld, (by (with_reducible repeat (first | apply Kd.R_alloc | apply Kd.R_drewN | apply Kd.R_drew)); exact HO304.out), (by (with_reducible repeat (first | apply Kd.R_alloc | apply Kd.R_drewN | apply Kd.R_drew)); exact Kd.R_mono HO307.out (fun _ hk => ⟨hk.2, hk.1⟩)), (by (with_reducible repeat (first | refine kN ?_ _ | refine kD ?_ | refine kA ?_ _)); exact BK283.out), (by (with_reducible repeat (first | refine kN ?_ _ | refine kD ?_ | refine kA ?_ _)); exact BK284.out), (by repeat (first | (with_reducible first | exact HB.out | apply bA | apply bN | apply b1 | refine bS ?_ GE283.out | refine bS ?_ GE284.out) | exact HB.out))⟩)
            rintro ⟨v300, v303, v306⟩ w65 ⟨hS_, h0_, h1_, h2_, h3_, h4_⟩
            have n0_ : Aside0 (Kd.R k46 46 w65 w.heap.size (fun k_ => some k_ ≠ (v306 : Value).ownBlock ∧ k_ ≠ gb284) v303 y302) := ⟨h0_⟩
            have n1_ : Aside0 (Kd.R k46 46 w65 w.heap.size (fun k_ => some k_ ≠ (v303 : Value).ownBlock ∧ k_ ≠ gb284) v306 y305) := ⟨h1_⟩
            have n2_ : Aside0 (w65.heap[gb283]? = some (.cells #[.int .i64 a2_0, .int .i64 a2_1] 24 (0, 0))) := ⟨h2_⟩
            have n3_ : Aside0 (w65.heap[gb284]? = some (.cells #[.int .i64 a4_0, .int .i64 a4_1, .int .i64 a4_2] 46 (0, 0))) := ⟨h3_⟩
            have n4_ : Aside0 (Below w.heap.size w w65) := ⟨h4_⟩
            clear BK283
            clear BK284
            clear HB
            clear h0_ h1_ h2_ h3_ h4_
            have HO304 := n0_
            have HO307 := n1_
            have BK283 := n2_
            have BK284 := n3_
            have HB := n4_
            clear n0_ n1_ n2_ n3_ n4_
            have hHeld : w65.cell? ⟨gb284, 0, none⟩ = some (.int .i64 a4_0) ∧ w65.cell? ⟨gb284, 1, none⟩ = some (.int .i64 a4_1) ∧ w65.cell? ⟨gb284, 2, none⟩ = some (.int .i64 a4_2) := hS_
            obtain ⟨Ao67, co67, eo67⟩ := Kd.R_slice HO307.out
            (first | subst eo67 | (injection eo67 with f1_ f2_ f3_; have f4_ := f1_.symm; have f5_ := f3_.symm; clear f1_ f2_ f3_; subst f4_; subst f5_))
            refine norm_ (a' := ?_) ?_ ?_
            rotate_left
            ·simp only [putAll, Act.put, List.setIfInBounds_toArray, List.set_cons_zero, List.set_cons_succ]
             rfl
            refine one_ (i := 5) (N := some 94) #[true, true, true, true, true, true, false] rfl rfl (by kernel_rfl) (by decide) (fun K hK => ?_)
            refine Kd.R_append_rows_step k46 (w0 := w) w.heap.size (by rfl) (.tmp 91) (.tmp 93) 25 46 (.agg #[(.int .i64 0), (.int .i64 0), (.int .i64 0)]) 24 rfl Tryz.underlying25 info46 rfl (by decide) (by omega) v303 y302 y305 _ _ _ (fun k_ => some k_ ≠ (.slice Ao67 y305.length co67 : Value).ownBlock ∧ k_ ≠ gb284) (fun _ => False) rfl rfl ?aO ?aR (fun _ _ h => h) (fun _ h => h.elim) ?aF ?aB ?aS ?aL ?_
            (case aR => repeat (first | exact (Kd.R_reads' HO307.out).2.2 | (with_reducible refine Kd.C_alloc ?_ _) | (with_reducible refine Kd.C_drewN ?_ _) | (with_reducible refine Kd.C_drew ?_)))
            (case aB => exact (by repeat (first | (with_reducible first | exact HB.out | apply bA | apply bN | apply b1 | refine bS ?_ GE283.out | refine bS ?_ GE284.out) | exact HB.out)))
            (case aF => exact (fun k_ hk => ⟨Kd.fresh' (Kd.R_lt (by (with_reducible repeat (first | apply Kd.R_alloc | apply Kd.R_drewN | apply Kd.R_drew)); exact HO307.out)) k_ hk, Kd.freshB (g := gb284) (o := .cells #[.int .i64 a4_0, .int .i64 a4_1, .int .i64 a4_2] 46 (0, 0)) (by (with_reducible repeat (first | refine kN ?_ _ | refine kD ?_ | refine kA ?_ _)); exact BK284.out) k_ hk⟩))
            (case aO => exact (by (with_reducible repeat (first | apply Kd.R_alloc | apply Kd.R_drewN | apply Kd.R_drew)); exact HO304.out))
            (case aS => exact (bZ (by repeat (first | (with_reducible first | exact HB.out | apply bA | apply bN | apply b1 | refine bS ?_ GE283.out | refine bS ?_ GE284.out) | exact HB.out))))
            (case aL => have := LMc56.out; omega)
            intro v309 w66 ho hb hg hat
            rw [← Ny308.out] at ho
            have n0_ := Aside0.mk (blk_grown (g := gb283) (o := .cells #[.int .i64 a2_0, .int .i64 a2_1] 24 (0, 0)) (by (with_reducible repeat (first | refine kN ?_ _ | refine kD ?_ | refine kA ?_ _)); exact BK283.out) hg (Kd.R_ne HO304.out BK283.out (by decide)))
            have n1_ := Aside0.mk (blk_grown (g := gb284) (o := .cells #[.int .i64 a4_0, .int .i64 a4_1, .int .i64 a4_2] 46 (0, 0)) (by (with_reducible repeat (first | refine kN ?_ _ | refine kD ?_ | refine kA ?_ _)); exact BK284.out) hg (Kd.R_away HO304.out (fun _ hk => hk.2)))
            have n2_ := Aside0.mk (Kd.R_after (ok := (fun k_ => k_ ≠ gb284)) (by (with_reducible repeat (first | apply Kd.R_alloc | apply Kd.R_drewN | apply Kd.R_drew)); exact Kd.R_mono HO307.out (fun _ hk => ⟨hk.2, hk.1⟩)) hg hat)
            have n3_ := Aside0.mk (hb)
            have n4_ := Aside0.mk (ho)
            clear BK283
            clear BK284
            clear HO307
            clear HB
            clear HO304
            have BK283 := n0_
            have BK284 := n1_
            have HO307 := n2_
            have HB := n3_
            have HO310 := n4_
            clear n0_ n1_ n2_ n3_ n4_
            clear ho hb hg hat
            refine hK.out _ _ ⟨(kC BK284.out 0).trans rfl, (kC BK284.out 1).trans rfl, (kC BK284.out 2).trans rfl⟩ (fun hHeld => ?_)
            clear hK K
            refine norm_ (a' := ?_) ?_ ?_
            rotate_left
            ·show Act.put _ (some 94) _ = _
             simp only [Act.put, List.setIfInBounds_toArray, List.set_cons_zero, List.set_cons_succ, i64_w, i32_w]
             rfl
            refine pure_ (i := 6) (N := some 21) (v := ?_) (a' := ?_) #[true, true, true, true, true, true, true] rfl rfl (by kernel_rfl) (fun _ _ _ h => h) (Or.inl ⟨by rfl, ?_⟩) ?_ ?_
            rotate_left
            ·intro w'
             go_simp
             with_reducible rfl
            rotate_left
            ·simp only [Act.put, List.setIfInBounds_toArray, List.set_cons_zero, List.set_cons_succ, i64_w, i32_w]
             rfl
            refine done_ (by kernel_rfl) ?_
            have hnb68 := NB283_284.out
            have hnc68 := NB284_283.out
            have hcz69_0 : w66.cell? ⟨gb283, 0, none⟩ = some (.int .i64 a2_0) := (kC BK283.out 0).trans rfl
            have hcz69_1 : w66.cell? ⟨gb283, 1, none⟩ = some (.int .i64 a2_1) := (kC BK283.out 1).trans rfl
            have hfz69_0 := blk_frozen BK283.out 0
            have hfz69_1 := blk_frozen BK283.out 1
            obtain ⟨Ao70, co70, eo70⟩ := Kd.R_slice HO310.out
            subst eo70
            go_upto_region 19 with (first | ((with_reducible refine gate_callee (f := 17) rfl ?_); refine goesL_ (some 100) rfl rfl Tryz.func17 (by kernel_rfl) rfl #[.slice A0 l0.length c0, .int .i64 a1, .agg #[.int .i64 a2_0, .int .i64 a2_1], .slice Ao70 y308.length co70] rfl (by (try simp only [List.map_toArray, List.map_cons, List.map_nil]); first | done | rfl | (simp only [List.length_drop, List.length_take]; rfl)) ?_; (with_reducible refine (setoff_Interest.calls kj46 _ _ l0 a1 a2_0 a2_1 _ _ y308 t311 t312 _ ?side1 ?side2 ?side3 ?side4 A57.out).mono ?_); (case side1 => repeat (first | exact (Kd.C_below HR0.out HB.out) | (with_reducible refine Kd.C_alloc ?_ _) | (with_reducible refine Kd.C_drewN ?_ _) | (with_reducible refine Kd.C_drew ?_))); (case side2 => exact HC0.out); (case side3 => repeat (first | exact (Kd.R_reads' HO310.out).2.2 | (with_reducible refine Kd.C_alloc ?_ _) | (with_reducible refine Kd.C_drewN ?_ _) | (with_reducible refine Kd.C_drew ?_))); (case side4 => exact (Kd.R_reads' HO310.out).2.1); rintro e w71 ⟨rfl, hb⟩; refine ⟨_, rfl, ?_⟩; have n0_ := Aside0.mk (Kd.R_below (by (with_reducible repeat (first | apply Kd.R_alloc | apply Kd.R_drewN | apply Kd.R_drew)); exact HO307.out) hb); have n1_ := Aside0.mk (Kd.R_below (by (with_reducible repeat (first | apply Kd.R_alloc | apply Kd.R_drewN | apply Kd.R_drew)); exact HO310.out) hb); have n2_ := Aside0.mk (kB (g := gb283) (o := .cells #[.int .i64 a2_0, .int .i64 a2_1] 24 (0, 0)) (by (with_reducible repeat (first | refine kN ?_ _ | refine kD ?_ | refine kA ?_ _)); exact BK283.out) hb); have n3_ := Aside0.mk (kB (g := gb284) (o := .cells #[.int .i64 a4_0, .int .i64 a4_1, .int .i64 a4_2] 46 (0, 0)) (by (with_reducible repeat (first | refine kN ?_ _ | refine kD ?_ | refine kA ?_ _)); exact BK284.out) hb); have n4_ := Aside0.mk (bT (by repeat (first | (with_reducible first | exact HB.out | apply bA | apply bN | apply b1 | refine bS ?_ GE283.out | refine bS ?_ GE284.out) | exact HB.out)) hb); clear HO307; clear HO310; clear BK283; clear BK284; clear HB; have HO307 := n0_; have HO310 := n1_; have BK283 := n2_; have BK284 := n3_; have HB := n4_; clear n0_ n1_ n2_ n3_ n4_; (try clear hb); (try clear hb2); (try clear hk); (try clear hi)))
            (try simp only [Act.put, List.setIfInBounds_toArray, List.set_cons_zero, List.set_cons_succ])
            go_cut [13] (fun v13 wc => ∃ (kq : Nat) (x13_57 : Bool), v13 = .bool x13_57 ∧ Aside0 (cohousinglaw34_SetoffInterest.j2 kq l0 a1 l3 a5 x13_57 t286 y308 a2_0 a2_1 = some r) ∧ Aside0 (kq ≤ kj46) ∧ Aside0 (Kd.R k46 46 wc w.heap.size (fun k_ => k_ ≠ gb284) (.slice Ao70 y308.length co70) y308) ∧ Aside0 (wc.heap[gb283]? = some (.cells #[.int .i64 a2_0, .int .i64 a2_1] 24 (0, 0))) ∧ Aside0 (wc.heap[gb284]? = some (.cells #[.int .i64 a4_0, .int .i64 a4_1, .int .i64 a4_2] 46 (0, 0))) ∧ Aside0 (Below w.heap.size w wc))
            case first =>
             have H := HC58.out
             clear HC58
             replace H : (if t312 = 1 then (cohousinglaw34_SetoffInterest.j2 kj46 l0 a1 l3 a5 true t286 y308 a2_0 a2_1) else (if t312 = 0 then (if t311 ≤ t286 then (cohousinglaw34_SetoffInterest.j2 kj46 l0 a1 l3 a5 true t286 y308 a2_0 a2_1) else (none)) else (none))) = some r := by first | (rw [if_pos rfl] at H; exact H) | (rw [if_pos trivial] at H; exact H)
             by_cases c72 : t312 = 1
             ·rw [if_pos c72] at H
              have c72b0 : (t312 == 1) = true := beq_iff_eq.mpr c72
              have c72b1 : (t312 != 1) = false := bne_eq_false_iff_eq.mpr c72
              clear c72
              (first | rw [c72b0] | (simp only [i64_w, i32_w]; rw [c72b0]) | skip)
              have H' := Aside0.mk H
              clear H
              go_wp2
              go_meet
              case rel => exact ⟨_, (true), (by first | rfl | (simp; done) | (simp [*]; done)), H', ⟨by have := HK1.out; have := HJ46.out; first | omega | exact Nat.le_refl _⟩, ⟨by (with_reducible repeat (first | apply Kd.R_alloc | apply Kd.R_drewN | apply Kd.R_drew)); exact Kd.R_mono HO310.out (fun _ hk => hk.2)⟩, ⟨by (with_reducible repeat (first | refine kN ?_ _ | refine kD ?_ | refine kA ?_ _)); exact BK283.out⟩, ⟨by (with_reducible repeat (first | refine kN ?_ _ | refine kD ?_ | refine kA ?_ _)); exact BK284.out⟩, ⟨by repeat (first | (with_reducible first | exact HB.out | apply bA | apply bN | apply b1 | refine bS ?_ GE283.out | refine bS ?_ GE284.out) | exact HB.out)⟩⟩
             ·rw [if_neg c72] at H
              have c72b0 : (t312 == 1) = false := beq_eq_false_iff_ne.mpr c72
              have c72b1 : (t312 != 1) = true := bne_iff_ne.mpr c72
              (first | rw [c72b0] | (simp only [i64_w, i32_w]; rw [c72b0]) | skip)
              by_cases c73 : t312 = 0
              ·rw [if_pos c73] at H
               have c73b0 : (t312 == 0) = true := beq_iff_eq.mpr c73
               have c73b1 : (t312 != 0) = false := bne_eq_false_iff_eq.mpr c73
               clear c73
               by_cases c74 : t311 ≤ t286
               ·rw [if_pos c74] at H
                have c74b0 : decide (t311 ≤ t286) = true := dT c74
                clear c74
                have H' := Aside0.mk H
                clear H
                go_wp2
                go_meet
                case rel => exact ⟨_, (true), (by first | rfl | (simp; done) | (simp [*]; done)), H', ⟨by have := HK1.out; have := HJ46.out; first | omega | exact Nat.le_refl _⟩, ⟨by (with_reducible repeat (first | apply Kd.R_alloc | apply Kd.R_drewN | apply Kd.R_drew)); exact Kd.R_mono HO310.out (fun _ hk => hk.2)⟩, ⟨by (with_reducible repeat (first | refine kN ?_ _ | refine kD ?_ | refine kA ?_ _)); exact BK283.out⟩, ⟨by (with_reducible repeat (first | refine kN ?_ _ | refine kD ?_ | refine kA ?_ _)); exact BK284.out⟩, ⟨by repeat (first | (with_reducible first | exact HB.out | apply bA | apply bN | apply b1 | refine bS ?_ GE283.out | refine bS ?_ GE284.out) | exact HB.out)⟩⟩
               ·rw [if_neg c74] at H
                exact absurd H (by simp)
              ·rw [if_neg c73] at H
               exact absurd H (by simp)
            case rest =>
             clear HC58
             try clear c1
             try clear c2
             try clear p2
             try clear q2
             try clear hx2
             try clear c3
             try clear c4
             try clear c5
             try clear c6
             try clear p6
             try clear c7
             try clear c8
             try clear c9
             try clear c9b0
             try clear c9b1
             try clear c14
             try clear c14b0
             try clear c14b1
             try clear c17
             try clear c18
             try clear c21
             try clear c21b0
             try clear c22
             try clear c22b0
             try clear c23
             try clear c23b0
             try clear c24
             try clear c25
             try clear c26
             try clear c28
             try clear p28
             try clear q28
             try clear hx28
             try clear c29
             try clear c31
             try clear c40
             try clear c41
             try clear c43
             try clear c48
             try clear c52
             try clear c52b0
             try clear c53
             try clear c53b0
             try clear c53b1
             try clear c54
             try clear c55
             try clear c56
             try clear p64
             try clear c68
             try clear c72
             try clear c72b0
             try clear c72b1
             try clear c73
             try clear c73b0
             try clear c73b1
             try clear c74
             try clear c74b0
             try clear hcz19_0
             try clear hcz19_1
             try clear hcz30_0
             try clear hcz30_1
             try clear hcz30_2
             try clear hcz30_3
             try clear hcz32_0
             try clear hcz32_1
             try clear hcz34_0
             try clear hcz34_1
             try clear hcz34_2
             try clear hcz34_3
             try clear hcz42_0
             try clear hcz42_1
             try clear hcz42_2
             try clear hcz42_3
             try clear hcz44_0
             try clear hcz44_1
             try clear hcz49_0
             try clear hcz49_1
             try clear hcz69_0
             try clear hcz69_1
             try clear hfz19_0
             try clear hfz19_1
             try clear hfz30_0
             try clear hfz30_1
             try clear hfz30_2
             try clear hfz30_3
             try clear hfz32_0
             try clear hfz32_1
             try clear hfz34_0
             try clear hfz34_1
             try clear hfz34_2
             try clear hfz34_3
             try clear hfz42_0
             try clear hfz42_1
             try clear hfz42_2
             try clear hfz42_3
             try clear hfz44_0
             try clear hfz44_1
             try clear hfz49_0
             try clear hfz49_1
             try clear hfz69_0
             try clear hfz69_1
             try clear hx288_0
             try clear hx288_1
             try clear hx288_2
             try clear hx288_3
             try clear p2
             try clear p28
             try clear p288
             try clear p6
             try clear q2
             try clear q28
             try clear q288
             obtain ⟨kq, x13_57, rfl, HA, HJ57, HO_21, BK283, BK284, HB⟩ := hcut
             cases kq with
             | zero => exact absurd HA.out (by simp [cohousinglaw34_SetoffInterest.j2])
             | succ kj57 =>
              have H := HA.out
              clear HA
              simp only [cohousinglaw34_SetoffInterest.j2] at H
              obtain ⟨ji75, hji75⟩ : ∃ j_ : Int, (wrap64 ((y308.length : Int) - 1)) = j_ := ⟨_, rfl⟩
              replace H : (if 0 ≤ (ji75) then (if (ji75) < (y308.length : Int) then ((setoff_Interest.f kj57 l0 a1 a2_0 a2_1 (y308.set ((ji75) : Int).toNat (⟨2, (⟨a2_0, a2_1⟩ : S24)⟩ : S46))).bind fun bt314 => (if x13_57 = true then (if bt314.2 = 0 then (if bt314.1 = 0 then ((setoff_Pay.f l0 a5).bind fun bt316 => (if bt316.2.2 = 0 then ((setoff_Interest.f kj57 bt316.1 a1 a2_0 a2_1 l3).bind fun bt321 => (if bt321.2 = 0 then (if bt321.1 ≤ t286 then (some true) else (none)) else (none))) else (if bt316.2.2 = 1 then (some true) else (none)))) else (none)) else (none)) else (none))) else (none)) else (none)) = some r := by first | (rw [hji75] at H; exact H) | (simp only [hji75] at H ⊢; exact H)
              have hji75w : (IntKind.i64.wrap ((y308.length : Int) - 1)) = ji75 := (i64_w _).trans hji75
              by_cases c76 : 0 ≤ (ji75)
              ·rw [if_pos c76] at H
               have c76b0 : decide (0 ≤ (ji75)) = true := dT c76
               clear c76
               by_cases c77 : (ji75) < (y308.length : Int)
               ·rw [if_pos c77] at H
                have c77b0 : decide ((ji75) < (y308.length : Int)) = true := dT c77
                clear c77
                obtain ⟨y313, hy313⟩ : ∃ y_ : List (S46), y_ = (y308.set ((ji75) : Int).toNat (⟨2, (⟨a2_0, a2_1⟩ : S24)⟩ : S46)) := ⟨_, rfl⟩
                replace H : ((setoff_Interest.f kj57 l0 a1 a2_0 a2_1 y313).bind fun bt314 => (if x13_57 = true then (if bt314.2 = 0 then (if bt314.1 = 0 then ((setoff_Pay.f l0 a5).bind fun bt316 => (if bt316.2.2 = 0 then ((setoff_Interest.f kj57 bt316.1 a1 a2_0 a2_1 l3).bind fun bt321 => (if bt321.2 = 0 then (if bt321.1 ≤ t286 then (some true) else (none)) else (none))) else (if bt316.2.2 = 1 then (some true) else (none)))) else (none)) else (none)) else (none))) = some r := by first | (rw [hy313]; with_reducible exact H) | (have H2_ := (Option.bind_some _ _).symm.trans H; rw [hy313]; with_reducible exact H2_) | (have H2_ := (Option.bind_some _ _).symm.trans H; with_reducible exact H2_) | with_reducible exact H | (rw [hy313]; exact H) | exact H
                have Ny313 := Aside0.mk hy313
                clear hy313
                replace H := Option.bind_eq_some_iff.mp H
                obtain ⟨⟨t314, t315⟩, A790, H⟩ := H
                replace H : (if x13_57 = true then (if t315 = 0 then (if t314 = 0 then ((setoff_Pay.f l0 a5).bind fun bt316 => (if bt316.2.2 = 0 then ((setoff_Interest.f kj57 bt316.1 a1 a2_0 a2_1 l3).bind fun bt321 => (if bt321.2 = 0 then (if bt321.1 ≤ t286 then (some true) else (none)) else (none))) else (if bt316.2.2 = 1 then (some true) else (none)))) else (none)) else (none)) else (none)) = some r := H
                have A79 := Aside0.mk A790
                clear A790
                by_cases c80 : x13_57 = true
                ·subst c80
                 have H1 : (if t315 = 0 then (if t314 = 0 then ((setoff_Pay.f l0 a5).bind fun bt316 => (if bt316.2.2 = 0 then ((setoff_Interest.f kj57 bt316.1 a1 a2_0 a2_1 l3).bind fun bt321 => (if bt321.2 = 0 then (if bt321.1 ≤ t286 then (some true) else (none)) else (none))) else (if bt316.2.2 = 1 then (some true) else (none)))) else (none)) else (none)) = some r := by rw [if_pos rfl] at H; exact H
                 clear H
                 have H := H1
                 clear H1
                 by_cases c81 : t315 = 0
                 ·rw [if_pos c81] at H
                  have c81b0 : (t315 == 0) = true := beq_iff_eq.mpr c81
                  have c81b1 : (t315 != 0) = false := bne_eq_false_iff_eq.mpr c81
                  clear c81
                  by_cases c82 : t314 = 0
                  ·rw [if_pos c82] at H
                   have c82b0 : (t314 == 0) = true := beq_iff_eq.mpr c82
                   have c82b1 : (t314 != 0) = false := bne_eq_false_iff_eq.mpr c82
                   clear c82
                   replace H := Option.bind_eq_some_iff.mp H
                   obtain ⟨⟨t316, t317, t318⟩, A830, H⟩ := H
                   replace H : (if t318 = 0 then ((setoff_Interest.f kj57 t316 a1 a2_0 a2_1 l3).bind fun bt321 => (if bt321.2 = 0 then (if bt321.1 ≤ t286 then (some true) else (none)) else (none))) else (if t318 = 1 then (some true) else (none))) = some r := H
                   have A83 := Aside0.mk A830
                   clear A830
                   by_cases c84 : t318 = 0
                   ·rw [if_pos c84] at H
                    have c84b0 : (t318 == 0) = true := beq_iff_eq.mpr c84
                    have c84b1 : (t318 != 0) = false := bne_eq_false_iff_eq.mpr c84
                    clear c84
                    replace H := Option.bind_eq_some_iff.mp H
                    obtain ⟨⟨t321, t322⟩, A850, H⟩ := H
                    replace H : (if t322 = 0 then (if t321 ≤ t286 then (some true) else (none)) else (none)) = some r := H
                    have A85 := Aside0.mk A850
                    clear A850
                    by_cases c86 : t322 = 0
                    ·rw [if_pos c86] at H
                     have c86b0 : (t322 == 0) = true := beq_iff_eq.mpr c86
                     have c86b1 : (t322 != 0) = false := bne_eq_false_iff_eq.mpr c86
                     clear c86
                     by_cases c87 : t321 ≤ t286
                     ·rw [if_pos c87] at H
                      have c87b0 : decide (t321 ≤ t286) = true := dT c87
                      clear c87
                      obtain rfl := Option.some.inj H
                      have hnb88 := NB283_284.out
                      have hnc88 := NB284_283.out
                      have hcz89_0 : wc.cell? ⟨gb283, 0, none⟩ = some (.int .i64 a2_0) := (kC BK283.out 0).trans rfl
                      have hcz89_1 : wc.cell? ⟨gb283, 1, none⟩ = some (.int .i64 a2_1) := (kC BK283.out 1).trans rfl
                      have hfz89_0 := blk_frozen BK283.out 0
                      have hfz89_1 := blk_frozen BK283.out 1
                      have p78 : 0 ≤ ((ji75) : Int) := oT (by first | (with_reducible assumption) | assumption)
                      have q78 : ((ji75) : Int) < ((y308.length : Int) : Int) := oT (by first | (with_reducible assumption) | assumption)
                      obtain ⟨go78, co78, eo78, gb78, gl78, cl78, HG78⟩ := Kd.R_form HO_21.out (by omega)
                      (first | cases eo78 | (injection eo78 with ea_ en_ ec_; (first | subst ea_ | (injection ea_ with ea_; subst ea_)); subst ec_; clear en_))
                      have GB78 := Aside0.mk gb78
                      have GG78 := Aside0.mk HG78
                      clear gb78 gl78 HG78
                      obtain ⟨ce78, hcl78, hM78, hcc78, hfr78⟩ := Kd.R_elem HO_21.out z46 ((ji75) : Int) p78 q78
                      obtain rfl := k46_openM hM78
                      have hx78_0 : wc.cell? ⟨go78, ((ji75) : Int).toNat * 3, none⟩ = some (.int .i64 ((rd_T46 y308 (ji75)).f0)) := hcc78 0 _ rfl
                      have hx78_1 : wc.cell? ⟨go78, ((ji75) : Int).toNat * 3 + 1, none⟩ = some (.int .i64 ((rd_T46 y308 (ji75)).f1.f0)) := hcc78 1 _ rfl
                      have hx78_2 : wc.cell? ⟨go78, ((ji75) : Int).toNat * 3 + 2, none⟩ = some (.int .i64 ((rd_T46 y308 (ji75)).f1.f1)) := hcc78 2 _ rfl
                      have hf78_0 : wc.frozen? ⟨go78, ((ji75) : Int).toNat * 3, none⟩ = false := hfr78 0
                      have hf78_1 : wc.frozen? ⟨go78, ((ji75) : Int).toNat * 3 + 1, none⟩ = false := hfr78 1
                      have hf78_2 : wc.frozen? ⟨go78, ((ji75) : Int).toNat * 3 + 2, none⟩ = false := hfr78 2
                      clear hcl78 hcc78 hfr78 hM78
                      replace p78 := eq_true p78
                      replace q78 := eq_true q78
                      have HX90 := Aside0.mk (show Kd.R k46 46 wc w.heap.size (fun k_ => k_ ≠ gb284) (.slice (some ⟨go78, 0, none⟩) y308.length co70) y308 from (by (with_reducible repeat (first | apply Kd.R_alloc | apply Kd.R_drewN | apply Kd.R_drew)); exact HO_21.out))
                      obtain ⟨ce90, hcl90, hM90, hcc90, hfr90⟩ := Kd.R_elem HX90.out z46 ((ji75) : Int) (oT (by first | (with_reducible assumption) | assumption)) (by have h_ : ((ji75) : Int) < ((y308.length : Int) : Int) := oT (by first | (with_reducible assumption) | assumption); first | exact h_ | (have e_ := (Kd.R_reads' HO_21.out).1; omega) | simpa using h_)
                      obtain rfl := k46_openM hM90
                      have HP90 := Kd.R_seg HX90.out ((ji75) : Int) (oT (by first | (with_reducible assumption) | assumption)) (by have h_ : ((ji75) : Int) < ((y308.length : Int) : Int) := oT (by first | (with_reducible assumption) | assumption); first | exact h_ | (have e_ := (Kd.R_reads' HO_21.out).1; omega) | simpa using h_) (seg := [.int .i64 2, .int .i64 a2_0, .int .i64 a2_1]) (j := 0) hcl90 hcc90 (show 3 ≤ 3 from by decide) (x' := (⟨2, (⟨a2_0, a2_1⟩ : S24)⟩ : S46)) (k46_mkM _ _ _ (⟨2, (⟨a2_0, a2_1⟩ : S24)⟩ : S46) ) (fun _ hk => hk)
                      have hx90_0 := hcc90 0 _ rfl
                      (try simp only [show (k46).sz = 3 from rfl, Nat.mul_one, Nat.add_zero] at hx90_0)
                      have hf90_0 := hfr90 0
                      (try simp only [show (k46).sz = 3 from rfl, Nat.mul_one, Nat.add_zero] at hf90_0)
                      have hx90_1 := hcc90 1 _ rfl
                      (try simp only [show (k46).sz = 3 from rfl, Nat.mul_one, Nat.add_zero] at hx90_1)
                      have hf90_1 := hfr90 1
                      (try simp only [show (k46).sz = 3 from rfl, Nat.mul_one, Nat.add_zero] at hf90_1)
                      have hx90_2 := hcc90 2 _ rfl
                      (try simp only [show (k46).sz = 3 from rfl, Nat.mul_one, Nat.add_zero] at hx90_2)
                      have hf90_2 := hfr90 2
                      (try simp only [show (k46).sz = 3 from rfl, Nat.mul_one, Nat.add_zero] at hf90_2)
                      clear hcl90 hcc90 hfr90 hM90
                      go_wp2_with (first | ((with_reducible refine gate_store (t := 46) (p := 123) rfl ?_); refine store_event (t := 46) (p := 123) (v := ?vo_w91) (w1 := (((wc.setCell ⟨go78, ((ji75) : Int).toNat * 3, none⟩ (.int .i64 2)).setCell ⟨go78, ((ji75) : Int).toNat * 3 + 1, none⟩ (.int .i64 a2_0)).setCell ⟨go78, ((ji75) : Int).toNat * 3 + 2, none⟩ (.int .i64 a2_1))) ?hg ?ho ?hn ?hr ?_; (case ho => rfl); (case hg => rfl); (case hn => rfl); (case hr => first | (go_simp; done) | (go_simp; rfl)); intro w91 hw; have hg : wc.grownBy w91 (some go78) := (by rw [hw]; exact HP90.2); have hp_ : Kd.R k46 46 w91 w.heap.size (fun k_ => k_ ≠ gb284) (.slice (some ⟨go78, 0, none⟩) y308.length co70) y313 := (by rw [hw, Ny313.out]; exact HP90.1); clear HP90; have n0_ := Aside0.mk (hp_); have n1_ := Aside0.mk (blk_grown (g := gb283) (o := .cells #[.int .i64 a2_0, .int .i64 a2_1] 24 (0, 0)) (by (with_reducible repeat (first | refine kN ?_ _ | refine kD ?_ | refine kA ?_ _)); exact BK283.out) hg (Kd.R_ne HO_21.out BK283.out (by decide))); have n2_ := Aside0.mk (blk_grown (g := gb284) (o := .cells #[.int .i64 a4_0, .int .i64 a4_1, .int .i64 a4_2] 46 (0, 0)) (by (with_reducible repeat (first | refine kN ?_ _ | refine kD ?_ | refine kA ?_ _)); exact BK284.out) hg (Kd.R_away HO_21.out (fun _ hk => hk))); have n3_ := Aside0.mk ((by rw [hw]; exact bS (bS (bS (HB.out) GB78.out) GB78.out) GB78.out : Below w.heap.size w w91)); clear HO_21; clear BK283; clear BK284; clear HB; have HO_21 := n0_; have BK283 := n1_; have BK284 := n2_; have HB := n3_; clear n0_ n1_ n2_ n3_; clear hg hw hp_; have hcz92_0 : w91.cell? ⟨gb283, 0, none⟩ = some (.int .i64 a2_0) := (kC BK283.out 0).trans rfl; have hcz92_1 : w91.cell? ⟨gb283, 1, none⟩ = some (.int .i64 a2_1) := (kC BK283.out 1).trans rfl; have hfz92_0 := blk_frozen BK283.out 0; have hfz92_1 := blk_frozen BK283.out 1) | ((with_reducible refine gate_callee (f := 17) rfl ?_); refine goesL_ (some 129) rfl rfl Tryz.func17 (by kernel_rfl) rfl #[.slice A0 l0.length c0, .int .i64 a1, .agg #[.int .i64 a2_0, .int .i64 a2_1], .slice (some ⟨go78, 0, none⟩) y313.length co70] rfl (by (try simp only [List.map_toArray, List.map_cons, List.map_nil]); first | done | (rw [show y313.length = y308.length from (Kd.R_reads' HO_21.out).1.symm] <;> rfl) | rfl | (simp only [List.length_drop, List.length_take]; rfl)) ?_; (with_reducible refine (setoff_Interest.calls kj57 _ _ l0 a1 a2_0 a2_1 _ _ y313 t314 t315 _ ?side1 ?side2 ?side3 ?side4 A79.out).mono ?_); (case side1 => repeat (first | exact (Kd.C_below HR0.out HB.out) | (with_reducible refine Kd.C_alloc ?_ _) | (with_reducible refine Kd.C_drewN ?_ _) | (with_reducible refine Kd.C_drew ?_))); (case side2 => exact HC0.out); (case side3 => repeat (first | exact (Kd.R_reads' HO_21.out).2.2 | (with_reducible refine Kd.C_alloc ?_ _) | (with_reducible refine Kd.C_drewN ?_ _) | (with_reducible refine Kd.C_drew ?_))); (case side4 => rw [show y313.length = y308.length from (Kd.R_reads' HO_21.out).1.symm]; exact (Kd.R_reads' HO_21.out).2.1); rintro e w93 ⟨rfl, hb⟩; refine ⟨_, rfl, ?_⟩; have n0_ := Aside0.mk (Kd.R_below (by (with_reducible repeat (first | apply Kd.R_alloc | apply Kd.R_drewN | apply Kd.R_drew)); exact HO_21.out) hb); have n1_ := Aside0.mk (kB (g := gb283) (o := .cells #[.int .i64 a2_0, .int .i64 a2_1] 24 (0, 0)) (by (with_reducible repeat (first | refine kN ?_ _ | refine kD ?_ | refine kA ?_ _)); exact BK283.out) hb); have n2_ := Aside0.mk (kB (g := gb284) (o := .cells #[.int .i64 a4_0, .int .i64 a4_1, .int .i64 a4_2] 46 (0, 0)) (by (with_reducible repeat (first | refine kN ?_ _ | refine kD ?_ | refine kA ?_ _)); exact BK284.out) hb); have n3_ := Aside0.mk (bT (by repeat (first | (with_reducible first | exact HB.out | apply bA | apply bN | apply b1 | refine bS ?_ GE283.out | refine bS ?_ GE284.out) | exact HB.out)) hb); clear HO_21; clear BK283; clear BK284; clear HB; have HO_21 := n0_; have BK283 := n1_; have BK284 := n2_; have HB := n3_; clear n0_ n1_ n2_ n3_; (try clear hb); (try clear hb2); (try clear hk); (try clear hi)) | ((with_reducible refine gate_callee (f := 10) rfl ?_); refine goesL_ (some 144) rfl rfl Tryz.func10 (by kernel_rfl) rfl #[.slice A0 l0.length c0, .int .i64 a5] rfl (by (try simp only [List.map_toArray, List.map_cons, List.map_nil]); first | done | rfl | (simp only [List.length_drop, List.length_take]; rfl)) ?_; (with_reducible refine (setoff_Pay.calls _ _ l0 a5 t316 t317 t318 _ ?side1 ?side2 A83.out).mono ?_); (case side1 => repeat (first | exact (Kd.C_below HR0.out HB.out) | (with_reducible refine Kd.C_alloc ?_ _) | (with_reducible refine Kd.C_drewN ?_ _) | (with_reducible refine Kd.C_drew ?_))); (case side2 => exact HC0.out); rintro e w94 ⟨v319, rfl, ho0, hb⟩; refine ⟨_, rfl, ?_⟩; have n0_ := Aside0.mk (Kd.R_below (by (with_reducible repeat (first | apply Kd.R_alloc | apply Kd.R_drewN | apply Kd.R_drew)); exact HO_21.out) hb); have n1_ := Aside0.mk (Kd.R_lower ho0 (bZ (by repeat (first | (with_reducible first | exact HB.out | apply bA | apply bN | apply b1 | refine bS ?_ GE283.out | refine bS ?_ GE284.out) | exact HB.out)))); have n2_ := Aside0.mk (kB (g := gb283) (o := .cells #[.int .i64 a2_0, .int .i64 a2_1] 24 (0, 0)) (by (with_reducible repeat (first | refine kN ?_ _ | refine kD ?_ | refine kA ?_ _)); exact BK283.out) hb); have n3_ := Aside0.mk (kB (g := gb284) (o := .cells #[.int .i64 a4_0, .int .i64 a4_1, .int .i64 a4_2] 46 (0, 0)) (by (with_reducible repeat (first | refine kN ?_ _ | refine kD ?_ | refine kA ?_ _)); exact BK284.out) hb); have n4_ := Aside0.mk (bT (by repeat (first | (with_reducible first | exact HB.out | apply bA | apply bN | apply b1 | refine bS ?_ GE283.out | refine bS ?_ GE284.out) | exact HB.out)) hb); clear HO_21; clear BK283; clear BK284; clear HB; have HO_21 := n0_; have HO320 := n1_; have BK283 := n2_; have BK284 := n3_; have HB := n4_; clear n0_ n1_ n2_ n3_ n4_; (try clear hb); (try clear hb2); (try clear hk); (try clear hi); (try clear ho0); have hcz95_0 : w94.cell? ⟨gb283, 0, none⟩ = some (.int .i64 a2_0) := (kC BK283.out 0).trans rfl; have hcz95_1 : w94.cell? ⟨gb283, 1, none⟩ = some (.int .i64 a2_1) := (kC BK283.out 1).trans rfl; have hfz95_0 := blk_frozen BK283.out 0; have hfz95_1 := blk_frozen BK283.out 1; obtain ⟨Ao96, co96, eo96⟩ := Kd.R_slice HO320.out; subst eo96) | ((with_reducible refine gate_callee (f := 17) rfl ?_); refine goesL_ (some 160) rfl rfl Tryz.func17 (by kernel_rfl) rfl #[.slice Ao96 t316.length co96, .int .i64 a1, .agg #[.int .i64 a2_0, .int .i64 a2_1], .slice A3 l3.length c3] rfl (by (try simp only [List.map_toArray, List.map_cons, List.map_nil]); first | done | rfl | (simp only [List.length_drop, List.length_take]; rfl)) ?_; (with_reducible refine (setoff_Interest.calls kj57 _ _ t316 a1 a2_0 a2_1 _ _ l3 t321 t322 _ ?side1 ?side2 ?side3 ?side4 A85.out).mono ?_); (case side1 => repeat (first | exact (Kd.R_reads' HO320.out).2.2 | (with_reducible refine Kd.C_alloc ?_ _) | (with_reducible refine Kd.C_drewN ?_ _) | (with_reducible refine Kd.C_drew ?_))); (case side2 => exact (Kd.R_reads' HO320.out).2.1); (case side3 => repeat (first | exact (Kd.C_below HR3.out HB.out) | (with_reducible refine Kd.C_alloc ?_ _) | (with_reducible refine Kd.C_drewN ?_ _) | (with_reducible refine Kd.C_drew ?_))); (case side4 => exact HC3.out); rintro e w97 ⟨rfl, hb⟩; refine ⟨_, rfl, ?_⟩; have n0_ := Aside0.mk (Kd.R_below (by (with_reducible repeat (first | apply Kd.R_alloc | apply Kd.R_drewN | apply Kd.R_drew)); exact HO_21.out) hb); have n1_ := Aside0.mk (Kd.R_below (by (with_reducible repeat (first | apply Kd.R_alloc | apply Kd.R_drewN | apply Kd.R_drew)); exact HO320.out) hb); have n2_ := Aside0.mk (kB (g := gb283) (o := .cells #[.int .i64 a2_0, .int .i64 a2_1] 24 (0, 0)) (by (with_reducible repeat (first | refine kN ?_ _ | refine kD ?_ | refine kA ?_ _)); exact BK283.out) hb); have n3_ := Aside0.mk (kB (g := gb284) (o := .cells #[.int .i64 a4_0, .int .i64 a4_1, .int .i64 a4_2] 46 (0, 0)) (by (with_reducible repeat (first | refine kN ?_ _ | refine kD ?_ | refine kA ?_ _)); exact BK284.out) hb); have n4_ := Aside0.mk (bT (by repeat (first | (with_reducible first | exact HB.out | apply bA | apply bN | apply b1 | refine bS ?_ GE283.out | refine bS ?_ GE284.out) | exact HB.out)) hb); clear HO_21; clear HO320; clear BK283; clear BK284; clear HB; have HO_21 := n0_; have HO320 := n1_; have BK283 := n2_; have BK284 := n3_; have HB := n4_; clear n0_ n1_ n2_ n3_ n4_; (try clear hb); (try clear hb2); (try clear hk); (try clear hi)))
                      go_ret
                      exact ⟨by first | rfl | (simp [errW_none, errW_some] <;> rfl) | (simp only [← hji75]; first | rfl | (simp [errW_none, errW_some] <;> rfl)) | (simp [*, errW_none, errW_some] <;> rfl), by repeat (first | (with_reducible first | exact HB.out | apply bA | apply bN | apply b1 | refine bS ?_ GE283.out | refine bS ?_ GE284.out) | exact HB.out)⟩
                     ·rw [if_neg c87] at H
                      exact absurd H (by simp)
                    ·rw [if_neg c86] at H
                     exact absurd H (by simp)
                   ·rw [if_neg c84] at H
                    have c84b0 : (t318 == 0) = false := beq_eq_false_iff_ne.mpr c84
                    have c84b1 : (t318 != 0) = true := bne_iff_ne.mpr c84
                    by_cases c98 : t318 = 1
                    ·rw [if_pos c98] at H
                     have c98b0 : (t318 == 1) = true := beq_iff_eq.mpr c98
                     have c98b1 : (t318 != 1) = false := bne_eq_false_iff_eq.mpr c98
                     clear c98
                     obtain rfl := Option.some.inj H
                     have hnb99 := NB283_284.out
                     have hnc99 := NB284_283.out
                     have hcz100_0 : wc.cell? ⟨gb283, 0, none⟩ = some (.int .i64 a2_0) := (kC BK283.out 0).trans rfl
                     have hcz100_1 : wc.cell? ⟨gb283, 1, none⟩ = some (.int .i64 a2_1) := (kC BK283.out 1).trans rfl
                     have hfz100_0 := blk_frozen BK283.out 0
                     have hfz100_1 := blk_frozen BK283.out 1
                     have p78 : 0 ≤ ((ji75) : Int) := oT (by first | (with_reducible assumption) | assumption)
                     have q78 : ((ji75) : Int) < ((y308.length : Int) : Int) := oT (by first | (with_reducible assumption) | assumption)
                     obtain ⟨go78, co78, eo78, gb78, gl78, cl78, HG78⟩ := Kd.R_form HO_21.out (by omega)
                     (first | cases eo78 | (injection eo78 with ea_ en_ ec_; (first | subst ea_ | (injection ea_ with ea_; subst ea_)); subst ec_; clear en_))
                     have GB78 := Aside0.mk gb78
                     have GG78 := Aside0.mk HG78
                     clear gb78 gl78 HG78
                     obtain ⟨ce78, hcl78, hM78, hcc78, hfr78⟩ := Kd.R_elem HO_21.out z46 ((ji75) : Int) p78 q78
                     obtain rfl := k46_openM hM78
                     have hx78_0 : wc.cell? ⟨go78, ((ji75) : Int).toNat * 3, none⟩ = some (.int .i64 ((rd_T46 y308 (ji75)).f0)) := hcc78 0 _ rfl
                     have hx78_1 : wc.cell? ⟨go78, ((ji75) : Int).toNat * 3 + 1, none⟩ = some (.int .i64 ((rd_T46 y308 (ji75)).f1.f0)) := hcc78 1 _ rfl
                     have hx78_2 : wc.cell? ⟨go78, ((ji75) : Int).toNat * 3 + 2, none⟩ = some (.int .i64 ((rd_T46 y308 (ji75)).f1.f1)) := hcc78 2 _ rfl
                     have hf78_0 : wc.frozen? ⟨go78, ((ji75) : Int).toNat * 3, none⟩ = false := hfr78 0
                     have hf78_1 : wc.frozen? ⟨go78, ((ji75) : Int).toNat * 3 + 1, none⟩ = false := hfr78 1
                     have hf78_2 : wc.frozen? ⟨go78, ((ji75) : Int).toNat * 3 + 2, none⟩ = false := hfr78 2
                     clear hcl78 hcc78 hfr78 hM78
                     replace p78 := eq_true p78
                     replace q78 := eq_true q78
                     have HX101 := Aside0.mk (show Kd.R k46 46 wc w.heap.size (fun k_ => k_ ≠ gb284) (.slice (some ⟨go78, 0, none⟩) y308.length co70) y308 from (by (with_reducible repeat (first | apply Kd.R_alloc | apply Kd.R_drewN | apply Kd.R_drew)); exact HO_21.out))
                     obtain ⟨ce101, hcl101, hM101, hcc101, hfr101⟩ := Kd.R_elem HX101.out z46 ((ji75) : Int) (oT (by first | (with_reducible assumption) | assumption)) (by have h_ : ((ji75) : Int) < ((y308.length : Int) : Int) := oT (by first | (with_reducible assumption) | assumption); first | exact h_ | (have e_ := (Kd.R_reads' HO_21.out).1; omega) | simpa using h_)
                     obtain rfl := k46_openM hM101
                     have HP101 := Kd.R_seg HX101.out ((ji75) : Int) (oT (by first | (with_reducible assumption) | assumption)) (by have h_ : ((ji75) : Int) < ((y308.length : Int) : Int) := oT (by first | (with_reducible assumption) | assumption); first | exact h_ | (have e_ := (Kd.R_reads' HO_21.out).1; omega) | simpa using h_) (seg := [.int .i64 2, .int .i64 a2_0, .int .i64 a2_1]) (j := 0) hcl101 hcc101 (show 3 ≤ 3 from by decide) (x' := (⟨2, (⟨a2_0, a2_1⟩ : S24)⟩ : S46)) (k46_mkM _ _ _ (⟨2, (⟨a2_0, a2_1⟩ : S24)⟩ : S46) ) (fun _ hk => hk)
                     have hx101_0 := hcc101 0 _ rfl
                     (try simp only [show (k46).sz = 3 from rfl, Nat.mul_one, Nat.add_zero] at hx101_0)
                     have hf101_0 := hfr101 0
                     (try simp only [show (k46).sz = 3 from rfl, Nat.mul_one, Nat.add_zero] at hf101_0)
                     have hx101_1 := hcc101 1 _ rfl
                     (try simp only [show (k46).sz = 3 from rfl, Nat.mul_one, Nat.add_zero] at hx101_1)
                     have hf101_1 := hfr101 1
                     (try simp only [show (k46).sz = 3 from rfl, Nat.mul_one, Nat.add_zero] at hf101_1)
                     have hx101_2 := hcc101 2 _ rfl
                     (try simp only [show (k46).sz = 3 from rfl, Nat.mul_one, Nat.add_zero] at hx101_2)
                     have hf101_2 := hfr101 2
                     (try simp only [show (k46).sz = 3 from rfl, Nat.mul_one, Nat.add_zero] at hf101_2)
                     clear hcl101 hcc101 hfr101 hM101
                     go_wp2_with (first | ((with_reducible refine gate_store (t := 46) (p := 123) rfl ?_); refine store_event (t := 46) (p := 123) (v := ?vo_w102) (w1 := (((wc.setCell ⟨go78, ((ji75) : Int).toNat * 3, none⟩ (.int .i64 2)).setCell ⟨go78, ((ji75) : Int).toNat * 3 + 1, none⟩ (.int .i64 a2_0)).setCell ⟨go78, ((ji75) : Int).toNat * 3 + 2, none⟩ (.int .i64 a2_1))) ?hg ?ho ?hn ?hr ?_; (case ho => rfl); (case hg => rfl); (case hn => rfl); (case hr => first | (go_simp; done) | (go_simp; rfl)); intro w102 hw; have hg : wc.grownBy w102 (some go78) := (by rw [hw]; exact HP101.2); have hp_ : Kd.R k46 46 w102 w.heap.size (fun k_ => k_ ≠ gb284) (.slice (some ⟨go78, 0, none⟩) y308.length co70) y313 := (by rw [hw, Ny313.out]; exact HP101.1); clear HP101; have n0_ := Aside0.mk (hp_); have n1_ := Aside0.mk (blk_grown (g := gb283) (o := .cells #[.int .i64 a2_0, .int .i64 a2_1] 24 (0, 0)) (by (with_reducible repeat (first | refine kN ?_ _ | refine kD ?_ | refine kA ?_ _)); exact BK283.out) hg (Kd.R_ne HO_21.out BK283.out (by decide))); have n2_ := Aside0.mk (blk_grown (g := gb284) (o := .cells #[.int .i64 a4_0, .int .i64 a4_1, .int .i64 a4_2] 46 (0, 0)) (by (with_reducible repeat (first | refine kN ?_ _ | refine kD ?_ | refine kA ?_ _)); exact BK284.out) hg (Kd.R_away HO_21.out (fun _ hk => hk))); have n3_ := Aside0.mk ((by rw [hw]; exact bS (bS (bS (HB.out) GB78.out) GB78.out) GB78.out : Below w.heap.size w w102)); clear HO_21; clear BK283; clear BK284; clear HB; have HO_21 := n0_; have BK283 := n1_; have BK284 := n2_; have HB := n3_; clear n0_ n1_ n2_ n3_; clear hg hw hp_; have hcz103_0 : w102.cell? ⟨gb283, 0, none⟩ = some (.int .i64 a2_0) := (kC BK283.out 0).trans rfl; have hcz103_1 : w102.cell? ⟨gb283, 1, none⟩ = some (.int .i64 a2_1) := (kC BK283.out 1).trans rfl; have hfz103_0 := blk_frozen BK283.out 0; have hfz103_1 := blk_frozen BK283.out 1) | ((with_reducible refine gate_callee (f := 17) rfl ?_); refine goesL_ (some 129) rfl rfl Tryz.func17 (by kernel_rfl) rfl #[.slice A0 l0.length c0, .int .i64 a1, .agg #[.int .i64 a2_0, .int .i64 a2_1], .slice (some ⟨go78, 0, none⟩) y313.length co70] rfl (by (try simp only [List.map_toArray, List.map_cons, List.map_nil]); first | done | (rw [show y313.length = y308.length from (Kd.R_reads' HO_21.out).1.symm] <;> rfl) | rfl | (simp only [List.length_drop, List.length_take]; rfl)) ?_; (with_reducible refine (setoff_Interest.calls kj57 _ _ l0 a1 a2_0 a2_1 _ _ y313 t314 t315 _ ?side1 ?side2 ?side3 ?side4 A79.out).mono ?_); (case side1 => repeat (first | exact (Kd.C_below HR0.out HB.out) | (with_reducible refine Kd.C_alloc ?_ _) | (with_reducible refine Kd.C_drewN ?_ _) | (with_reducible refine Kd.C_drew ?_))); (case side2 => exact HC0.out); (case side3 => repeat (first | exact (Kd.R_reads' HO_21.out).2.2 | (with_reducible refine Kd.C_alloc ?_ _) | (with_reducible refine Kd.C_drewN ?_ _) | (with_reducible refine Kd.C_drew ?_))); (case side4 => rw [show y313.length = y308.length from (Kd.R_reads' HO_21.out).1.symm]; exact (Kd.R_reads' HO_21.out).2.1); rintro e w104 ⟨rfl, hb⟩; refine ⟨_, rfl, ?_⟩; have n0_ := Aside0.mk (Kd.R_below (by (with_reducible repeat (first | apply Kd.R_alloc | apply Kd.R_drewN | apply Kd.R_drew)); exact HO_21.out) hb); have n1_ := Aside0.mk (kB (g := gb283) (o := .cells #[.int .i64 a2_0, .int .i64 a2_1] 24 (0, 0)) (by (with_reducible repeat (first | refine kN ?_ _ | refine kD ?_ | refine kA ?_ _)); exact BK283.out) hb); have n2_ := Aside0.mk (kB (g := gb284) (o := .cells #[.int .i64 a4_0, .int .i64 a4_1, .int .i64 a4_2] 46 (0, 0)) (by (with_reducible repeat (first | refine kN ?_ _ | refine kD ?_ | refine kA ?_ _)); exact BK284.out) hb); have n3_ := Aside0.mk (bT (by repeat (first | (with_reducible first | exact HB.out | apply bA | apply bN | apply b1 | refine bS ?_ GE283.out | refine bS ?_ GE284.out) | exact HB.out)) hb); clear HO_21; clear BK283; clear BK284; clear HB; have HO_21 := n0_; have BK283 := n1_; have BK284 := n2_; have HB := n3_; clear n0_ n1_ n2_ n3_; (try clear hb); (try clear hb2); (try clear hk); (try clear hi)) | ((with_reducible refine gate_callee (f := 10) rfl ?_); refine goesL_ (some 144) rfl rfl Tryz.func10 (by kernel_rfl) rfl #[.slice A0 l0.length c0, .int .i64 a5] rfl (by (try simp only [List.map_toArray, List.map_cons, List.map_nil]); first | done | rfl | (simp only [List.length_drop, List.length_take]; rfl)) ?_; (with_reducible refine (setoff_Pay.calls _ _ l0 a5 t316 t317 t318 _ ?side1 ?side2 A83.out).mono ?_); (case side1 => repeat (first | exact (Kd.C_below HR0.out HB.out) | (with_reducible refine Kd.C_alloc ?_ _) | (with_reducible refine Kd.C_drewN ?_ _) | (with_reducible refine Kd.C_drew ?_))); (case side2 => exact HC0.out); rintro e w105 ⟨v319, rfl, ho0, hb⟩; refine ⟨_, rfl, ?_⟩; have n0_ := Aside0.mk (Kd.R_below (by (with_reducible repeat (first | apply Kd.R_alloc | apply Kd.R_drewN | apply Kd.R_drew)); exact HO_21.out) hb); have n1_ := Aside0.mk (Kd.R_lower ho0 (bZ (by repeat (first | (with_reducible first | exact HB.out | apply bA | apply bN | apply b1 | refine bS ?_ GE283.out | refine bS ?_ GE284.out) | exact HB.out)))); have n2_ := Aside0.mk (kB (g := gb283) (o := .cells #[.int .i64 a2_0, .int .i64 a2_1] 24 (0, 0)) (by (with_reducible repeat (first | refine kN ?_ _ | refine kD ?_ | refine kA ?_ _)); exact BK283.out) hb); have n3_ := Aside0.mk (kB (g := gb284) (o := .cells #[.int .i64 a4_0, .int .i64 a4_1, .int .i64 a4_2] 46 (0, 0)) (by (with_reducible repeat (first | refine kN ?_ _ | refine kD ?_ | refine kA ?_ _)); exact BK284.out) hb); have n4_ := Aside0.mk (bT (by repeat (first | (with_reducible first | exact HB.out | apply bA | apply bN | apply b1 | refine bS ?_ GE283.out | refine bS ?_ GE284.out) | exact HB.out)) hb); clear HO_21; clear BK283; clear BK284; clear HB; have HO_21 := n0_; have HO320 := n1_; have BK283 := n2_; have BK284 := n3_; have HB := n4_; clear n0_ n1_ n2_ n3_ n4_; (try clear hb); (try clear hb2); (try clear hk); (try clear hi); (try clear ho0)))
                     go_ret
                     exact ⟨by first | rfl | (simp [errW_none, errW_some] <;> rfl) | (simp only [← hji75]; first | rfl | (simp [errW_none, errW_some] <;> rfl)) | (simp [*, errW_none, errW_some] <;> rfl), by repeat (first | (with_reducible first | exact HB.out | apply bA | apply bN | apply b1 | refine bS ?_ GE283.out | refine bS ?_ GE284.out) | exact HB.out)⟩
                    ·rw [if_neg c98] at H
                     exact absurd H (by simp)
                  ·rw [if_neg c82] at H
                   exact absurd H (by simp)
                 ·rw [if_neg c81] at H
                  exact absurd H (by simp)
                ·replace c80 := Bool.eq_false_iff.mpr c80
                 subst c80
                 have H1 : (none) = some r := by rw [if_neg (show ¬ (false = true) by decide)] at H; exact H
                 clear H
                 have H := H1
                 clear H1
                 exact absurd H (by simp)
               ·rw [if_neg c77] at H
                exact absurd H (by simp)
              ·rw [if_neg c76] at H
               exact absurd H (by simp)
           ·rw [if_neg c56] at H
            exact absurd H (by simp)
          ·rw [if_neg c55] at H
           exact absurd H (by simp)
   ·rw [if_neg c14] at H
    have c14b0 : (t287 == 0) = false := beq_eq_false_iff_ne.mpr c14
    have c14b1 : (t287 != 0) = true := bne_iff_ne.mpr c14
    by_cases c106 : t286 = 0
    ·rw [if_pos c106] at H
     have c106b0 : (t286 == 0) = true := beq_iff_eq.mpr c106
     have c106b1 : (t286 != 0) = false := bne_eq_false_iff_eq.mpr c106
     clear c106
     by_cases c107 : t287 = 1
     ·rw [if_pos c107] at H
      have c107b0 : (t287 == 1) = true := beq_iff_eq.mpr c107
      have c107b1 : (t287 != 1) = false := bne_eq_false_iff_eq.mpr c107
      clear c107
      obtain rfl := Option.some.inj H
      go_enter Tryz.func7, Tryz.ntmps7
      go_wp2_with (first | ((with_reducible refine gate_dst (N := 8) rfl ?_); refine box_event ?hg (N := 8) ?hd (cs := #[.int .i64 a2_0, .int .i64 a2_1]) (t := 24) ?hr ?_; (case hd => rfl); (case hg => rfl); (case hr => first | (go_simp; done) | (go_simp; rfl)); intro gb283 hg w108 hbox hb; have n0_ := Aside0.mk (bT (by repeat (first | (with_reducible first | exact HB.out | apply bA | apply bN | apply b1) | exact HB.out)) hb); have n1_ := Aside0.mk (hbox); have n2_ := Aside0.mk ((by rw [hg]; exact (bZ (by repeat (first | (with_reducible first | exact HB.out | apply bA | apply bN | apply b1) | exact HB.out))) : w.heap.size ≤ gb283)); have n3_ := n2_; clear HB; have HB := n0_; have BK283 := n1_; have GW283 := n2_; have GE283 := n3_; clear n0_ n1_ n2_ n3_; clear hb hbox hg) | ((with_reducible refine gate_dst (N := 10) rfl ?_); refine box_event ?hg (N := 10) ?hd (cs := #[.int .i64 a4_0, .int .i64 a4_1, .int .i64 a4_2]) (t := 46) ?hr ?_; (case hd => rfl); (case hg => rfl); (case hr => first | (go_simp; done) | (go_simp; rfl)); intro gb284 hg w109 hbox hb; have n0_ := Aside0.mk (kB (g := gb283) (o := .cells #[.int .i64 a2_0, .int .i64 a2_1] 24 (0, 0)) (by (with_reducible repeat (first | refine kN ?_ _ | refine kD ?_ | refine kA ?_ _)); exact BK283.out) hb); have n1_ := Aside0.mk (bT (by repeat (first | (with_reducible first | exact HB.out | apply bA | apply bN | apply b1 | refine bS ?_ GE283.out) | exact HB.out)) hb); have n2_ := Aside0.mk (hbox); have n3_ := Aside0.mk ((by rw [hg]; exact (bZ (by repeat (first | (with_reducible first | exact HB.out | apply bA | apply bN | apply b1 | refine bS ?_ GE283.out) | exact HB.out))) : w.heap.size ≤ gb284)); have n4_ := n3_; have n5_ := Aside0.mk ((by rw [hg]; exact Nat.ne_of_lt (blk_lt (g := gb283) (o := .cells #[.int .i64 a2_0, .int .i64 a2_1] 24 (0, 0)) (by (with_reducible repeat (first | refine kN ?_ _ | refine kD ?_ | refine kA ?_ _)); exact BK283.out)) : gb283 ≠ gb284)); have n6_ := Aside0.mk n5_.out.symm; clear BK283; clear HB; have BK283 := n0_; have HB := n1_; have BK284 := n2_; have GW284 := n3_; have GE284 := n4_; have NB283_284 := n5_; have NB284_283 := n6_; clear n0_ n1_ n2_ n3_ n4_ n5_ n6_; clear hb hbox hg) | ((with_reducible refine gate_callee (f := 9) rfl ?_); refine goesL_ (some 27) rfl rfl Tryz.func9 (by kernel_rfl) rfl #[] rfl (by (try simp only [List.map_toArray, List.map_cons, List.map_nil]); first | done | rfl | (simp only [List.length_drop, List.length_take]; rfl)) ?_; (with_reducible refine (cohousinglaw34_head.calls k  true _ ?side1 A7.out).mono ?_); (case side1 => exact GL.below HG.out (by repeat (first | (with_reducible first | exact HB.out | apply bA | apply bN | apply b1 | refine bS ?_ GE283.out | refine bS ?_ GE284.out) | exact HB.out))); rintro e w110 ⟨rfl, hb⟩; refine ⟨_, rfl, ?_⟩; have n0_ := Aside0.mk (kB (g := gb283) (o := .cells #[.int .i64 a2_0, .int .i64 a2_1] 24 (0, 0)) (by (with_reducible repeat (first | refine kN ?_ _ | refine kD ?_ | refine kA ?_ _)); exact BK283.out) hb); have n1_ := Aside0.mk (kB (g := gb284) (o := .cells #[.int .i64 a4_0, .int .i64 a4_1, .int .i64 a4_2] 46 (0, 0)) (by (with_reducible repeat (first | refine kN ?_ _ | refine kD ?_ | refine kA ?_ _)); exact BK284.out) hb); have n2_ := Aside0.mk (bT (by repeat (first | (with_reducible first | exact HB.out | apply bA | apply bN | apply b1 | refine bS ?_ GE283.out | refine bS ?_ GE284.out) | exact HB.out)) hb); clear BK283; clear BK284; clear HB; have BK283 := n0_; have BK284 := n1_; have HB := n2_; clear n0_ n1_ n2_; (try clear hb); (try clear hb2); (try clear hk); (try clear hi); have hnb111 := NB283_284.out; have hnc111 := NB284_283.out; have hcz112_0 : w110.cell? ⟨gb283, 0, none⟩ = some (.int .i64 a2_0) := (kC BK283.out 0).trans rfl; have hcz112_1 : w110.cell? ⟨gb283, 1, none⟩ = some (.int .i64 a2_1) := (kC BK283.out 1).trans rfl; have hfz112_0 := blk_frozen BK283.out 0; have hfz112_1 := blk_frozen BK283.out 1) | ((with_reducible refine gate_callee (f := 17) rfl ?_); refine goesL_ (some 37) rfl rfl Tryz.func17 (by kernel_rfl) rfl #[.slice A0 l0.length c0, .int .i64 a1, .agg #[.int .i64 a2_0, .int .i64 a2_1], .slice A3 l3.length c3] rfl (by (try simp only [List.map_toArray, List.map_cons, List.map_nil]); first | done | rfl | (simp only [List.length_drop, List.length_take]; rfl)) ?_; (with_reducible refine (setoff_Interest.calls k _ _ l0 a1 a2_0 a2_1 _ _ l3 t286 t287 _ ?side1 ?side2 ?side3 ?side4 A13.out).mono ?_); (case side1 => repeat (first | exact (Kd.C_below HR0.out HB.out) | (with_reducible refine Kd.C_alloc ?_ _) | (with_reducible refine Kd.C_drewN ?_ _) | (with_reducible refine Kd.C_drew ?_))); (case side2 => exact HC0.out); (case side3 => repeat (first | exact (Kd.C_below HR3.out HB.out) | (with_reducible refine Kd.C_alloc ?_ _) | (with_reducible refine Kd.C_drewN ?_ _) | (with_reducible refine Kd.C_drew ?_))); (case side4 => exact HC3.out); rintro e w113 ⟨rfl, hb⟩; refine ⟨_, rfl, ?_⟩; have n0_ := Aside0.mk (kB (g := gb283) (o := .cells #[.int .i64 a2_0, .int .i64 a2_1] 24 (0, 0)) (by (with_reducible repeat (first | refine kN ?_ _ | refine kD ?_ | refine kA ?_ _)); exact BK283.out) hb); have n1_ := Aside0.mk (kB (g := gb284) (o := .cells #[.int .i64 a4_0, .int .i64 a4_1, .int .i64 a4_2] 46 (0, 0)) (by (with_reducible repeat (first | refine kN ?_ _ | refine kD ?_ | refine kA ?_ _)); exact BK284.out) hb); have n2_ := Aside0.mk (bT (by repeat (first | (with_reducible first | exact HB.out | apply bA | apply bN | apply b1 | refine bS ?_ GE283.out | refine bS ?_ GE284.out) | exact HB.out)) hb); clear BK283; clear BK284; clear HB; have BK283 := n0_; have BK284 := n1_; have HB := n2_; clear n0_ n1_ n2_; (try clear hb); (try clear hb2); (try clear hk); (try clear hi)))
      go_ret
      exact ⟨by first | rfl | (simp [errW_none, errW_some] <;> rfl) | (simp [*, errW_none, errW_some] <;> rfl), by repeat (first | (with_reducible first | exact HB.out | apply bA | apply bN | apply b1 | refine bS ?_ GE283.out | refine bS ?_ GE284.out) | exact HB.out)⟩
     ·rw [if_neg c107] at H
      have c107b0 : (t287 == 1) = false := beq_eq_false_iff_ne.mpr c107
      have c107b1 : (t287 != 1) = true := bne_iff_ne.mpr c107
      by_cases c114 : t287 = 3
      ·rw [if_pos c114] at H
       have c114b0 : (t287 == 3) = true := beq_iff_eq.mpr c114
       have c114b1 : (t287 != 3) = false := bne_eq_false_iff_eq.mpr c114
       clear c114
       obtain rfl := Option.some.inj H
       go_enter Tryz.func7, Tryz.ntmps7
       go_wp2_with (first | ((with_reducible refine gate_dst (N := 8) rfl ?_); refine box_event ?hg (N := 8) ?hd (cs := #[.int .i64 a2_0, .int .i64 a2_1]) (t := 24) ?hr ?_; (case hd => rfl); (case hg => rfl); (case hr => first | (go_simp; done) | (go_simp; rfl)); intro gb283 hg w115 hbox hb; have n0_ := Aside0.mk (bT (by repeat (first | (with_reducible first | exact HB.out | apply bA | apply bN | apply b1) | exact HB.out)) hb); have n1_ := Aside0.mk (hbox); have n2_ := Aside0.mk ((by rw [hg]; exact (bZ (by repeat (first | (with_reducible first | exact HB.out | apply bA | apply bN | apply b1) | exact HB.out))) : w.heap.size ≤ gb283)); have n3_ := n2_; clear HB; have HB := n0_; have BK283 := n1_; have GW283 := n2_; have GE283 := n3_; clear n0_ n1_ n2_ n3_; clear hb hbox hg) | ((with_reducible refine gate_dst (N := 10) rfl ?_); refine box_event ?hg (N := 10) ?hd (cs := #[.int .i64 a4_0, .int .i64 a4_1, .int .i64 a4_2]) (t := 46) ?hr ?_; (case hd => rfl); (case hg => rfl); (case hr => first | (go_simp; done) | (go_simp; rfl)); intro gb284 hg w116 hbox hb; have n0_ := Aside0.mk (kB (g := gb283) (o := .cells #[.int .i64 a2_0, .int .i64 a2_1] 24 (0, 0)) (by (with_reducible repeat (first | refine kN ?_ _ | refine kD ?_ | refine kA ?_ _)); exact BK283.out) hb); have n1_ := Aside0.mk (bT (by repeat (first | (with_reducible first | exact HB.out | apply bA | apply bN | apply b1 | refine bS ?_ GE283.out) | exact HB.out)) hb); have n2_ := Aside0.mk (hbox); have n3_ := Aside0.mk ((by rw [hg]; exact (bZ (by repeat (first | (with_reducible first | exact HB.out | apply bA | apply bN | apply b1 | refine bS ?_ GE283.out) | exact HB.out))) : w.heap.size ≤ gb284)); have n4_ := n3_; have n5_ := Aside0.mk ((by rw [hg]; exact Nat.ne_of_lt (blk_lt (g := gb283) (o := .cells #[.int .i64 a2_0, .int .i64 a2_1] 24 (0, 0)) (by (with_reducible repeat (first | refine kN ?_ _ | refine kD ?_ | refine kA ?_ _)); exact BK283.out)) : gb283 ≠ gb284)); have n6_ := Aside0.mk n5_.out.symm; clear BK283; clear HB; have BK283 := n0_; have HB := n1_; have BK284 := n2_; have GW284 := n3_; have GE284 := n4_; have NB283_284 := n5_; have NB284_283 := n6_; clear n0_ n1_ n2_ n3_ n4_ n5_ n6_; clear hb hbox hg) | ((with_reducible refine gate_callee (f := 9) rfl ?_); refine goesL_ (some 27) rfl rfl Tryz.func9 (by kernel_rfl) rfl #[] rfl (by (try simp only [List.map_toArray, List.map_cons, List.map_nil]); first | done | rfl | (simp only [List.length_drop, List.length_take]; rfl)) ?_; (with_reducible refine (cohousinglaw34_head.calls k  true _ ?side1 A7.out).mono ?_); (case side1 => exact GL.below HG.out (by repeat (first | (with_reducible first | exact HB.out | apply bA | apply bN | apply b1 | refine bS ?_ GE283.out | refine bS ?_ GE284.out) | exact HB.out))); rintro e w117 ⟨rfl, hb⟩; refine ⟨_, rfl, ?_⟩; have n0_ := Aside0.mk (kB (g := gb283) (o := .cells #[.int .i64 a2_0, .int .i64 a2_1] 24 (0, 0)) (by (with_reducible repeat (first | refine kN ?_ _ | refine kD ?_ | refine kA ?_ _)); exact BK283.out) hb); have n1_ := Aside0.mk (kB (g := gb284) (o := .cells #[.int .i64 a4_0, .int .i64 a4_1, .int .i64 a4_2] 46 (0, 0)) (by (with_reducible repeat (first | refine kN ?_ _ | refine kD ?_ | refine kA ?_ _)); exact BK284.out) hb); have n2_ := Aside0.mk (bT (by repeat (first | (with_reducible first | exact HB.out | apply bA | apply bN | apply b1 | refine bS ?_ GE283.out | refine bS ?_ GE284.out) | exact HB.out)) hb); clear BK283; clear BK284; clear HB; have BK283 := n0_; have BK284 := n1_; have HB := n2_; clear n0_ n1_ n2_; (try clear hb); (try clear hb2); (try clear hk); (try clear hi); have hnb118 := NB283_284.out; have hnc118 := NB284_283.out; have hcz119_0 : w117.cell? ⟨gb283, 0, none⟩ = some (.int .i64 a2_0) := (kC BK283.out 0).trans rfl; have hcz119_1 : w117.cell? ⟨gb283, 1, none⟩ = some (.int .i64 a2_1) := (kC BK283.out 1).trans rfl; have hfz119_0 := blk_frozen BK283.out 0; have hfz119_1 := blk_frozen BK283.out 1) | ((with_reducible refine gate_callee (f := 17) rfl ?_); refine goesL_ (some 37) rfl rfl Tryz.func17 (by kernel_rfl) rfl #[.slice A0 l0.length c0, .int .i64 a1, .agg #[.int .i64 a2_0, .int .i64 a2_1], .slice A3 l3.length c3] rfl (by (try simp only [List.map_toArray, List.map_cons, List.map_nil]); first | done | rfl | (simp only [List.length_drop, List.length_take]; rfl)) ?_; (with_reducible refine (setoff_Interest.calls k _ _ l0 a1 a2_0 a2_1 _ _ l3 t286 t287 _ ?side1 ?side2 ?side3 ?side4 A13.out).mono ?_); (case side1 => repeat (first | exact (Kd.C_below HR0.out HB.out) | (with_reducible refine Kd.C_alloc ?_ _) | (with_reducible refine Kd.C_drewN ?_ _) | (with_reducible refine Kd.C_drew ?_))); (case side2 => exact HC0.out); (case side3 => repeat (first | exact (Kd.C_below HR3.out HB.out) | (with_reducible refine Kd.C_alloc ?_ _) | (with_reducible refine Kd.C_drewN ?_ _) | (with_reducible refine Kd.C_drew ?_))); (case side4 => exact HC3.out); rintro e w120 ⟨rfl, hb⟩; refine ⟨_, rfl, ?_⟩; have n0_ := Aside0.mk (kB (g := gb283) (o := .cells #[.int .i64 a2_0, .int .i64 a2_1] 24 (0, 0)) (by (with_reducible repeat (first | refine kN ?_ _ | refine kD ?_ | refine kA ?_ _)); exact BK283.out) hb); have n1_ := Aside0.mk (kB (g := gb284) (o := .cells #[.int .i64 a4_0, .int .i64 a4_1, .int .i64 a4_2] 46 (0, 0)) (by (with_reducible repeat (first | refine kN ?_ _ | refine kD ?_ | refine kA ?_ _)); exact BK284.out) hb); have n2_ := Aside0.mk (bT (by repeat (first | (with_reducible first | exact HB.out | apply bA | apply bN | apply b1 | refine bS ?_ GE283.out | refine bS ?_ GE284.out) | exact HB.out)) hb); clear BK283; clear BK284; clear HB; have BK283 := n0_; have BK284 := n1_; have HB := n2_; clear n0_ n1_ n2_; (try clear hb); (try clear hb2); (try clear hk); (try clear hi)))
       go_ret
       exact ⟨by first | rfl | (simp [errW_none, errW_some] <;> rfl) | (simp [*, errW_none, errW_some] <;> rfl), by repeat (first | (with_reducible first | exact HB.out | apply bA | apply bN | apply b1 | refine bS ?_ GE283.out | refine bS ?_ GE284.out) | exact HB.out)⟩
      ·rw [if_neg c114] at H
       exact absurd H (by simp)
    ·rw [if_neg c106] at H
     exact absurd H (by simp)
 ·replace c8 := Bool.eq_false_iff.mpr c8
  subst c8
  have H1 : (none) = some r := by rw [if_neg (show ¬ (false = true) by decide)] at H; exact H
  clear H
  have H := H1
  clear H1
  exact absurd H (by simp)

end Go.Proofs.YtnkgnjklkocojaaGreatDoor.X
