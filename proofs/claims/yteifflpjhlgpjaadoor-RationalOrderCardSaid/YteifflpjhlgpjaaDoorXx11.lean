-- Written by a program of mine (wip/tools/xprint.py) over the kit's print.py: printed functions and hand-proved ones side by side.
import Derived.Test.YteifflpjhlgpjaaDoorXx0
import Derived.Test.YteifflpjhlgpjaaDoorXx1
import Derived.Test.YteifflpjhlgpjaaDoorXx2
import Derived.Test.YteifflpjhlgpjaaDoorXx4
import Derived.Test.YteifflpjhlgpjaaDoorXx5
import Derived.Test.YteifflpjhlgpjaaDoorXx6
namespace Go.Proofs.YteifflpjhlgpjaaDoor.X
open Go.RowKit Go.Proofs.YteifflpjhlgpjaaDoorW.PrintWords Go.Proofs.YteifflpjhlgpjaaDoorW.PrintLast Go.Proofs.YteifflpjhlgpjaaDoorW.PrintMore
attribute [local go_sem] max2_int min2_int max_two min_two max_three min_three max_four min_four   -- for this text's walks alone
set_option linter.unusedVariables false
set_option linter.unusedSimpArgs false

attribute [local go_sem high] eqA24
/-! ### cohousinglaw01_RationalOrder: function 8 -/
mutual
def cohousinglaw01_RationalOrder.j0 : Nat → Bool → Int → Int → Int → Bool → Int → Int → Int → Int → Int → Int → Option (Bool)
 | 0, _, _, _, _, _, _, _, _, _, _, _ => none
 | k + 1, x7, x8, x10, x12, x91, x397000, x397001, x398000, x398001, x399000, x399001 => if x91 = true then (none) else (if x8 ≤ 0 then (if x10 ≤ 0 then (if x12 > 0 then (cohousinglaw01_RationalOrder.j1 k x7 x8 true x397000 x397001 x398000 x398001 x399000 x399001) else (if x8 < 0 then (cohousinglaw01_RationalOrder.j1 k x7 x8 (x12 == 0) x397000 x397001 x398000 x398001 x399000 x399001) else (cohousinglaw01_RationalOrder.j1 k x7 x8 false x397000 x397001 x398000 x398001 x399000 x399001))) else (if x8 < 0 then (cohousinglaw01_RationalOrder.j1 k x7 x8 false x397000 x397001 x398000 x398001 x399000 x399001) else (cohousinglaw01_RationalOrder.j1 k x7 x8 false x397000 x397001 x398000 x398001 x399000 x399001))) else (if x8 < 0 then (if x10 ≤ 0 then (cohousinglaw01_RationalOrder.j1 k x7 x8 (x12 == 0) x397000 x397001 x398000 x398001 x399000 x399001) else (cohousinglaw01_RationalOrder.j1 k x7 x8 false x397000 x397001 x398000 x398001 x399000 x399001)) else (cohousinglaw01_RationalOrder.j1 k x7 x8 false x397000 x397001 x398000 x398001 x399000 x399001)))
def cohousinglaw01_RationalOrder.j1 : Nat → Bool → Int → Bool → Int → Int → Int → Int → Int → Int → Option (Bool)
 | 0, _, _, _, _, _, _, _, _, _ => none
 | k + 1, x7, x8, x113, x397000, x397001, x398000, x398001, x399000, x399001 => if x113 = true then (none) else ((rational_Sub.f x397000 x397001 x398000 x398001).bind fun bt412 => (if bt412.2.2 = 0 then (if ((decide (bt412.1 < 0)) != (decide (x8 < 0))) = true then (cohousinglaw01_RationalOrder.j2 k x7 x8 true x397000 x397001 x398000 x398001 x399000 x399001) else (cohousinglaw01_RationalOrder.j2 k x7 x8 ((decide (bt412.1 > 0)) != (decide (x8 > 0))) x397000 x397001 x398000 x398001 x399000 x399001)) else (cohousinglaw01_RationalOrder.j2 k x7 x8 false x397000 x397001 x398000 x398001 x399000 x399001)))
def cohousinglaw01_RationalOrder.j2 : Nat → Bool → Int → Bool → Int → Int → Int → Int → Int → Int → Option (Bool)
 | 0, _, _, _, _, _, _, _, _, _ => none
 | k + 1, x7, x8, x137, x397000, x397001, x398000, x398001, x399000, x399001 => if x137 = true then (none) else ((rational_Add.f x397000 x397001 x399000 x399001).bind fun bt416 => ((rational_Add.f x398000 x398001 x399000 x399001).bind fun bt420 => (if bt416.2.2 = 0 then (if bt420.2.2 = 0 then ((rational_Compare.f k bt416.1 bt416.2.1 bt420.1 bt420.2.1).bind fun bt424 => (if x7 = true then (if bt424.2 = 0 then (if bt424.1 = x8 then (some true) else (none)) else (none)) else (none))) else (if x7 = true then (some true) else (none))) else (if x7 = true then (some true) else (none)))))
end
def cohousinglaw01_RationalOrder.f (k : Nat) (a0_0 : Int) (a0_1 : Int) (a1_0 : Int) (a1_1 : Int) (a2_0 : Int) (a2_1 : Int) : Option (Bool) := (cohousinglaw01_head.f k).bind fun t399 => ((cohousinglaw01_numbers.f k (([(⟨a0_0, a0_1⟩ : S24), (⟨a1_0, a1_1⟩ : S24), (⟨a2_0, a2_1⟩ : S24)] : List (S24)))).bind fun t403 => (if t403 = true then ((rational_Compare.f k a0_0 a0_1 a1_0 a1_1).bind fun bt404 => ((rational_Compare.f k a1_0 a1_1 a2_0 a2_1).bind fun bt406 => ((rational_Compare.f k a0_0 a0_1 a2_0 a2_1).bind fun bt408 => ((rational_Compare.f k a1_0 a1_1 a0_0 a0_1).bind fun bt410 => (if bt404.2 = 0 then (if bt406.2 = 0 then (if bt408.2 = 0 then (if bt410.2 = 0 then (if bt404.1 < (-1) then (cohousinglaw01_RationalOrder.j0 k t399 bt404.1 bt406.1 bt408.1 true a0_0 a0_1 a1_0 a1_1 a2_0 a2_1) else (if bt404.1 > 1 then (cohousinglaw01_RationalOrder.j0 k t399 bt404.1 bt406.1 bt408.1 true a0_0 a0_1 a1_0 a1_1 a2_0 a2_1) else (if bt410.1 = (wrap64 (-bt404.1)) then (cohousinglaw01_RationalOrder.j0 k t399 bt404.1 bt406.1 bt408.1 ((bt404.1 == 0) != (a0_0 == a1_0 && (a0_1 == a1_1))) a0_0 a0_1 a1_0 a1_1 a2_0 a2_1) else (cohousinglaw01_RationalOrder.j0 k t399 bt404.1 bt406.1 bt408.1 true a0_0 a0_1 a1_0 a1_1 a2_0 a2_1)))) else (cohousinglaw01_RationalOrder.j0 k t399 bt404.1 bt406.1 bt408.1 true a0_0 a0_1 a1_0 a1_1 a2_0 a2_1)) else (cohousinglaw01_RationalOrder.j0 k t399 bt404.1 bt406.1 bt408.1 true a0_0 a0_1 a1_0 a1_1 a2_0 a2_1)) else (cohousinglaw01_RationalOrder.j0 k t399 bt404.1 bt406.1 bt408.1 true a0_0 a0_1 a1_0 a1_1 a2_0 a2_1)) else (cohousinglaw01_RationalOrder.j0 k t399 bt404.1 bt406.1 bt408.1 true a0_0 a0_1 a1_0 a1_1 a2_0 a2_1)))))) else (if t399 = true then (some true) else (none))))
theorem cohousinglaw01_RationalOrder.mono_l : ∀ k, (∀ y0 y1 y2 y3 y4 y5 y6 y7 y8 y9 y10, LeO (cohousinglaw01_RationalOrder.j0 k y0 y1 y2 y3 y4 y5 y6 y7 y8 y9 y10) (cohousinglaw01_RationalOrder.j0 (k + 1) y0 y1 y2 y3 y4 y5 y6 y7 y8 y9 y10)) ∧ (∀ y0 y1 y2 y3 y4 y5 y6 y7 y8, LeO (cohousinglaw01_RationalOrder.j1 k y0 y1 y2 y3 y4 y5 y6 y7 y8) (cohousinglaw01_RationalOrder.j1 (k + 1) y0 y1 y2 y3 y4 y5 y6 y7 y8)) ∧ (∀ y0 y1 y2 y3 y4 y5 y6 y7 y8, LeO (cohousinglaw01_RationalOrder.j2 k y0 y1 y2 y3 y4 y5 y6 y7 y8) (cohousinglaw01_RationalOrder.j2 (k + 1) y0 y1 y2 y3 y4 y5 y6 y7 y8))
 | 0 => ⟨fun _ _ _ _ _ _ _ _ _ _ _ r h => by simp [cohousinglaw01_RationalOrder.j0] at h, fun _ _ _ _ _ _ _ _ _ r h => by simp [cohousinglaw01_RationalOrder.j1] at h, fun _ _ _ _ _ _ _ _ _ r h => by simp [cohousinglaw01_RationalOrder.j2] at h⟩
 | k + 1 => by
  obtain ⟨ih0, ih1, ih2⟩ := cohousinglaw01_RationalOrder.mono_l k
  refine ⟨?_, ?_, ?_⟩
  ·intro y0 y1 y2 y3 y4 y5 y6 y7 y8 y9 y10
   unfold cohousinglaw01_RationalOrder.j0
   repeat' first
   | (with_reducible exact ih0 _ _ _ _ _ _ _ _ _ _ _)
   | (with_reducible exact ih1 _ _ _ _ _ _ _ _ _)
   | (with_reducible exact ih2 _ _ _ _ _ _ _ _ _)
   | (with_reducible exact cohousinglaw01_head.mono _)
   | (with_reducible exact cohousinglaw01_numbers.mono _ _)
   | (with_reducible exact rational_Compare.mono _ _ _ _ _)
   | (with_reducible exact LeO.refl _)
   | (with_reducible exact LeO.none _)
   | (with_reducible refine LeO.ite ?_ ?_)
   | (with_reducible refine LeO.bind ?_ (fun _ => ?_))
   | exact ih0 _ _ _ _ _ _ _ _ _ _ _
   | exact ih1 _ _ _ _ _ _ _ _ _
   | exact ih2 _ _ _ _ _ _ _ _ _
   | exact cohousinglaw01_head.mono _
   | exact cohousinglaw01_numbers.mono _ _
   | exact rational_Compare.mono _ _ _ _ _
   | exact LeO.none _
   | refine LeO.ite ?_ ?_
   | refine LeO.bind ?_ (fun _ => ?_)
  ·intro y0 y1 y2 y3 y4 y5 y6 y7 y8
   unfold cohousinglaw01_RationalOrder.j1
   repeat' first
   | (with_reducible exact ih0 _ _ _ _ _ _ _ _ _ _ _)
   | (with_reducible exact ih1 _ _ _ _ _ _ _ _ _)
   | (with_reducible exact ih2 _ _ _ _ _ _ _ _ _)
   | (with_reducible exact cohousinglaw01_head.mono _)
   | (with_reducible exact cohousinglaw01_numbers.mono _ _)
   | (with_reducible exact rational_Compare.mono _ _ _ _ _)
   | (with_reducible exact LeO.refl _)
   | (with_reducible exact LeO.none _)
   | (with_reducible refine LeO.ite ?_ ?_)
   | (with_reducible refine LeO.bind ?_ (fun _ => ?_))
   | exact ih0 _ _ _ _ _ _ _ _ _ _ _
   | exact ih1 _ _ _ _ _ _ _ _ _
   | exact ih2 _ _ _ _ _ _ _ _ _
   | exact cohousinglaw01_head.mono _
   | exact cohousinglaw01_numbers.mono _ _
   | exact rational_Compare.mono _ _ _ _ _
   | exact LeO.none _
   | refine LeO.ite ?_ ?_
   | refine LeO.bind ?_ (fun _ => ?_)
  ·intro y0 y1 y2 y3 y4 y5 y6 y7 y8
   unfold cohousinglaw01_RationalOrder.j2
   repeat' first
   | (with_reducible exact ih0 _ _ _ _ _ _ _ _ _ _ _)
   | (with_reducible exact ih1 _ _ _ _ _ _ _ _ _)
   | (with_reducible exact ih2 _ _ _ _ _ _ _ _ _)
   | (with_reducible exact cohousinglaw01_head.mono _)
   | (with_reducible exact cohousinglaw01_numbers.mono _ _)
   | (with_reducible exact rational_Compare.mono _ _ _ _ _)
   | (with_reducible exact LeO.refl _)
   | (with_reducible exact LeO.none _)
   | (with_reducible refine LeO.ite ?_ ?_)
   | (with_reducible refine LeO.bind ?_ (fun _ => ?_))
   | exact ih0 _ _ _ _ _ _ _ _ _ _ _
   | exact ih1 _ _ _ _ _ _ _ _ _
   | exact ih2 _ _ _ _ _ _ _ _ _
   | exact cohousinglaw01_head.mono _
   | exact cohousinglaw01_numbers.mono _ _
   | exact rational_Compare.mono _ _ _ _ _
   | exact LeO.none _
   | refine LeO.ite ?_ ?_
   | refine LeO.bind ?_ (fun _ => ?_)
theorem cohousinglaw01_RationalOrder.mono : ∀ a0 a1 a2 a3 a4 a5 k, LeO (cohousinglaw01_RationalOrder.f k a0 a1 a2 a3 a4 a5) (cohousinglaw01_RationalOrder.f (k + 1) a0 a1 a2 a3 a4 a5) := by
 intro a0 a1 a2 a3 a4 a5 k
 obtain ⟨ih0, ih1, ih2⟩ := cohousinglaw01_RationalOrder.mono_l k
 unfold cohousinglaw01_RationalOrder.f
 repeat' first
   | (with_reducible exact ih0 _ _ _ _ _ _ _ _ _ _ _)
   | (with_reducible exact ih1 _ _ _ _ _ _ _ _ _)
   | (with_reducible exact ih2 _ _ _ _ _ _ _ _ _)
   | (with_reducible exact cohousinglaw01_head.mono _)
   | (with_reducible exact cohousinglaw01_numbers.mono _ _)
   | (with_reducible exact rational_Compare.mono _ _ _ _ _)
   | (with_reducible exact LeO.refl _)
   | (with_reducible exact LeO.none _)
   | (with_reducible refine LeO.ite ?_ ?_)
   | (with_reducible refine LeO.bind ?_ (fun _ => ?_))
   | exact ih0 _ _ _ _ _ _ _ _ _ _ _
   | exact ih1 _ _ _ _ _ _ _ _ _
   | exact ih2 _ _ _ _ _ _ _ _ _
   | exact cohousinglaw01_head.mono _
   | exact cohousinglaw01_numbers.mono _ _
   | exact rational_Compare.mono _ _ _ _ _
   | exact LeO.none _
   | refine LeO.ite ?_ ?_
   | refine LeO.bind ?_ (fun _ => ?_)
set_option maxHeartbeats 8000000 in
set_option maxRecDepth 100000 in
theorem cohousinglaw01_RationalOrder.calls (k : Nat) (a0_0 : Int) (a0_1 : Int) (a1_0 : Int) (a1_1 : Int) (a2_0 : Int) (a2_1 : Int) (r : Bool) (w : World) (hG : GL w) (h : cohousinglaw01_RationalOrder.f k a0_0 a0_1 a1_0 a1_1 a2_0 a2_1 = some r) :
  Calls Tryd.prog 8 #[.agg #[.int .i64 a0_0, .int .i64 a0_1], .agg #[.int .i64 a1_0, .int .i64 a1_1], .agg #[.int .i64 a2_0, .int .i64 a2_1]] w fun e w' => e = .returned (.bool r) ∧ Below w.heap.size w w' := by
 have hu24 := Tryd.underlying24
 have HG := Aside0.mk hG
 clear hG
 have HB := Aside0.mk (Below.refl w.heap.size w)
 have H : ((cohousinglaw01_head.f k).bind fun t399 => ((cohousinglaw01_numbers.f k (([(⟨a0_0, a0_1⟩ : S24), (⟨a1_0, a1_1⟩ : S24), (⟨a2_0, a2_1⟩ : S24)] : List (S24)))).bind fun t403 => (if t403 = true then ((rational_Compare.f k a0_0 a0_1 a1_0 a1_1).bind fun bt404 => ((rational_Compare.f k a1_0 a1_1 a2_0 a2_1).bind fun bt406 => ((rational_Compare.f k a0_0 a0_1 a2_0 a2_1).bind fun bt408 => ((rational_Compare.f k a1_0 a1_1 a0_0 a0_1).bind fun bt410 => (if bt404.2 = 0 then (if bt406.2 = 0 then (if bt408.2 = 0 then (if bt410.2 = 0 then (if bt404.1 < (-1) then (cohousinglaw01_RationalOrder.j0 k t399 bt404.1 bt406.1 bt408.1 true a0_0 a0_1 a1_0 a1_1 a2_0 a2_1) else (if bt404.1 > 1 then (cohousinglaw01_RationalOrder.j0 k t399 bt404.1 bt406.1 bt408.1 true a0_0 a0_1 a1_0 a1_1 a2_0 a2_1) else (if bt410.1 = (wrap64 (-bt404.1)) then (cohousinglaw01_RationalOrder.j0 k t399 bt404.1 bt406.1 bt408.1 ((bt404.1 == 0) != (a0_0 == a1_0 && (a0_1 == a1_1))) a0_0 a0_1 a1_0 a1_1 a2_0 a2_1) else (cohousinglaw01_RationalOrder.j0 k t399 bt404.1 bt406.1 bt408.1 true a0_0 a0_1 a1_0 a1_1 a2_0 a2_1)))) else (cohousinglaw01_RationalOrder.j0 k t399 bt404.1 bt406.1 bt408.1 true a0_0 a0_1 a1_0 a1_1 a2_0 a2_1)) else (cohousinglaw01_RationalOrder.j0 k t399 bt404.1 bt406.1 bt408.1 true a0_0 a0_1 a1_0 a1_1 a2_0 a2_1)) else (cohousinglaw01_RationalOrder.j0 k t399 bt404.1 bt406.1 bt408.1 true a0_0 a0_1 a1_0 a1_1 a2_0 a2_1)) else (cohousinglaw01_RationalOrder.j0 k t399 bt404.1 bt406.1 bt408.1 true a0_0 a0_1 a1_0 a1_1 a2_0 a2_1)))))) else (if t399 = true then (some true) else (none))))) = some r := h
 clear h
 replace H := Option.bind_eq_some_iff.mp H
 obtain ⟨t399, A40, H⟩ := H
 replace H : ((cohousinglaw01_numbers.f k (([(⟨a0_0, a0_1⟩ : S24), (⟨a1_0, a1_1⟩ : S24), (⟨a2_0, a2_1⟩ : S24)] : List (S24)))).bind fun t403 => (if t403 = true then ((rational_Compare.f k a0_0 a0_1 a1_0 a1_1).bind fun bt404 => ((rational_Compare.f k a1_0 a1_1 a2_0 a2_1).bind fun bt406 => ((rational_Compare.f k a0_0 a0_1 a2_0 a2_1).bind fun bt408 => ((rational_Compare.f k a1_0 a1_1 a0_0 a0_1).bind fun bt410 => (if bt404.2 = 0 then (if bt406.2 = 0 then (if bt408.2 = 0 then (if bt410.2 = 0 then (if bt404.1 < (-1) then (cohousinglaw01_RationalOrder.j0 k t399 bt404.1 bt406.1 bt408.1 true a0_0 a0_1 a1_0 a1_1 a2_0 a2_1) else (if bt404.1 > 1 then (cohousinglaw01_RationalOrder.j0 k t399 bt404.1 bt406.1 bt408.1 true a0_0 a0_1 a1_0 a1_1 a2_0 a2_1) else (if bt410.1 = (wrap64 (-bt404.1)) then (cohousinglaw01_RationalOrder.j0 k t399 bt404.1 bt406.1 bt408.1 ((bt404.1 == 0) != (a0_0 == a1_0 && (a0_1 == a1_1))) a0_0 a0_1 a1_0 a1_1 a2_0 a2_1) else (cohousinglaw01_RationalOrder.j0 k t399 bt404.1 bt406.1 bt408.1 true a0_0 a0_1 a1_0 a1_1 a2_0 a2_1)))) else (cohousinglaw01_RationalOrder.j0 k t399 bt404.1 bt406.1 bt408.1 true a0_0 a0_1 a1_0 a1_1 a2_0 a2_1)) else (cohousinglaw01_RationalOrder.j0 k t399 bt404.1 bt406.1 bt408.1 true a0_0 a0_1 a1_0 a1_1 a2_0 a2_1)) else (cohousinglaw01_RationalOrder.j0 k t399 bt404.1 bt406.1 bt408.1 true a0_0 a0_1 a1_0 a1_1 a2_0 a2_1)) else (cohousinglaw01_RationalOrder.j0 k t399 bt404.1 bt406.1 bt408.1 true a0_0 a0_1 a1_0 a1_1 a2_0 a2_1)))))) else (if t399 = true then (some true) else (none)))) = some r := H
 have A4 := Aside0.mk A40
 clear A40
 obtain ⟨y400, hy400⟩ : ∃ y_ : List (S24), y_ = (([(⟨a0_0, a0_1⟩ : S24), (⟨a1_0, a1_1⟩ : S24), (⟨a2_0, a2_1⟩ : S24)] : List (S24))) := ⟨_, rfl⟩
 replace H : ((cohousinglaw01_numbers.f k y400).bind fun t403 => (if t403 = true then ((rational_Compare.f k a0_0 a0_1 a1_0 a1_1).bind fun bt404 => ((rational_Compare.f k a1_0 a1_1 a2_0 a2_1).bind fun bt406 => ((rational_Compare.f k a0_0 a0_1 a2_0 a2_1).bind fun bt408 => ((rational_Compare.f k a1_0 a1_1 a0_0 a0_1).bind fun bt410 => (if bt404.2 = 0 then (if bt406.2 = 0 then (if bt408.2 = 0 then (if bt410.2 = 0 then (if bt404.1 < (-1) then (cohousinglaw01_RationalOrder.j0 k t399 bt404.1 bt406.1 bt408.1 true a0_0 a0_1 a1_0 a1_1 a2_0 a2_1) else (if bt404.1 > 1 then (cohousinglaw01_RationalOrder.j0 k t399 bt404.1 bt406.1 bt408.1 true a0_0 a0_1 a1_0 a1_1 a2_0 a2_1) else (if bt410.1 = (wrap64 (-bt404.1)) then (cohousinglaw01_RationalOrder.j0 k t399 bt404.1 bt406.1 bt408.1 ((bt404.1 == 0) != (a0_0 == a1_0 && (a0_1 == a1_1))) a0_0 a0_1 a1_0 a1_1 a2_0 a2_1) else (cohousinglaw01_RationalOrder.j0 k t399 bt404.1 bt406.1 bt408.1 true a0_0 a0_1 a1_0 a1_1 a2_0 a2_1)))) else (cohousinglaw01_RationalOrder.j0 k t399 bt404.1 bt406.1 bt408.1 true a0_0 a0_1 a1_0 a1_1 a2_0 a2_1)) else (cohousinglaw01_RationalOrder.j0 k t399 bt404.1 bt406.1 bt408.1 true a0_0 a0_1 a1_0 a1_1 a2_0 a2_1)) else (cohousinglaw01_RationalOrder.j0 k t399 bt404.1 bt406.1 bt408.1 true a0_0 a0_1 a1_0 a1_1 a2_0 a2_1)) else (cohousinglaw01_RationalOrder.j0 k t399 bt404.1 bt406.1 bt408.1 true a0_0 a0_1 a1_0 a1_1 a2_0 a2_1)))))) else (if t399 = true then (some true) else (none)))) = some r := by first | (rw [hy400]; with_reducible exact H) | (have H2_ := (Option.bind_some _ _).symm.trans H; rw [hy400]; with_reducible exact H2_) | (have H2_ := (Option.bind_some _ _).symm.trans H; with_reducible exact H2_) | with_reducible exact H | (rw [hy400]; exact H) | exact H
 have Ny400 := Aside0.mk hy400
 clear hy400
 replace H := Option.bind_eq_some_iff.mp H
 obtain ⟨t403, A50, H⟩ := H
 replace H : (if t403 = true then ((rational_Compare.f k a0_0 a0_1 a1_0 a1_1).bind fun bt404 => ((rational_Compare.f k a1_0 a1_1 a2_0 a2_1).bind fun bt406 => ((rational_Compare.f k a0_0 a0_1 a2_0 a2_1).bind fun bt408 => ((rational_Compare.f k a1_0 a1_1 a0_0 a0_1).bind fun bt410 => (if bt404.2 = 0 then (if bt406.2 = 0 then (if bt408.2 = 0 then (if bt410.2 = 0 then (if bt404.1 < (-1) then (cohousinglaw01_RationalOrder.j0 k t399 bt404.1 bt406.1 bt408.1 true a0_0 a0_1 a1_0 a1_1 a2_0 a2_1) else (if bt404.1 > 1 then (cohousinglaw01_RationalOrder.j0 k t399 bt404.1 bt406.1 bt408.1 true a0_0 a0_1 a1_0 a1_1 a2_0 a2_1) else (if bt410.1 = (wrap64 (-bt404.1)) then (cohousinglaw01_RationalOrder.j0 k t399 bt404.1 bt406.1 bt408.1 ((bt404.1 == 0) != (a0_0 == a1_0 && (a0_1 == a1_1))) a0_0 a0_1 a1_0 a1_1 a2_0 a2_1) else (cohousinglaw01_RationalOrder.j0 k t399 bt404.1 bt406.1 bt408.1 true a0_0 a0_1 a1_0 a1_1 a2_0 a2_1)))) else (cohousinglaw01_RationalOrder.j0 k t399 bt404.1 bt406.1 bt408.1 true a0_0 a0_1 a1_0 a1_1 a2_0 a2_1)) else (cohousinglaw01_RationalOrder.j0 k t399 bt404.1 bt406.1 bt408.1 true a0_0 a0_1 a1_0 a1_1 a2_0 a2_1)) else (cohousinglaw01_RationalOrder.j0 k t399 bt404.1 bt406.1 bt408.1 true a0_0 a0_1 a1_0 a1_1 a2_0 a2_1)) else (cohousinglaw01_RationalOrder.j0 k t399 bt404.1 bt406.1 bt408.1 true a0_0 a0_1 a1_0 a1_1 a2_0 a2_1)))))) else (if t399 = true then (some true) else (none))) = some r := H
 have A5 := Aside0.mk A50
 clear A50
 by_cases c6 : t403 = true
 ·subst c6
  have H1 : ((rational_Compare.f k a0_0 a0_1 a1_0 a1_1).bind fun bt404 => ((rational_Compare.f k a1_0 a1_1 a2_0 a2_1).bind fun bt406 => ((rational_Compare.f k a0_0 a0_1 a2_0 a2_1).bind fun bt408 => ((rational_Compare.f k a1_0 a1_1 a0_0 a0_1).bind fun bt410 => (if bt404.2 = 0 then (if bt406.2 = 0 then (if bt408.2 = 0 then (if bt410.2 = 0 then (if bt404.1 < (-1) then (cohousinglaw01_RationalOrder.j0 k t399 bt404.1 bt406.1 bt408.1 true a0_0 a0_1 a1_0 a1_1 a2_0 a2_1) else (if bt404.1 > 1 then (cohousinglaw01_RationalOrder.j0 k t399 bt404.1 bt406.1 bt408.1 true a0_0 a0_1 a1_0 a1_1 a2_0 a2_1) else (if bt410.1 = (wrap64 (-bt404.1)) then (cohousinglaw01_RationalOrder.j0 k t399 bt404.1 bt406.1 bt408.1 ((bt404.1 == 0) != (a0_0 == a1_0 && (a0_1 == a1_1))) a0_0 a0_1 a1_0 a1_1 a2_0 a2_1) else (cohousinglaw01_RationalOrder.j0 k t399 bt404.1 bt406.1 bt408.1 true a0_0 a0_1 a1_0 a1_1 a2_0 a2_1)))) else (cohousinglaw01_RationalOrder.j0 k t399 bt404.1 bt406.1 bt408.1 true a0_0 a0_1 a1_0 a1_1 a2_0 a2_1)) else (cohousinglaw01_RationalOrder.j0 k t399 bt404.1 bt406.1 bt408.1 true a0_0 a0_1 a1_0 a1_1 a2_0 a2_1)) else (cohousinglaw01_RationalOrder.j0 k t399 bt404.1 bt406.1 bt408.1 true a0_0 a0_1 a1_0 a1_1 a2_0 a2_1)) else (cohousinglaw01_RationalOrder.j0 k t399 bt404.1 bt406.1 bt408.1 true a0_0 a0_1 a1_0 a1_1 a2_0 a2_1)))))) = some r := by rw [if_pos rfl] at H; exact H
  clear H
  have H := H1
  clear H1
  replace H := Option.bind_eq_some_iff.mp H
  obtain ⟨⟨t404, t405⟩, A70, H⟩ := H
  replace H : ((rational_Compare.f k a1_0 a1_1 a2_0 a2_1).bind fun bt406 => ((rational_Compare.f k a0_0 a0_1 a2_0 a2_1).bind fun bt408 => ((rational_Compare.f k a1_0 a1_1 a0_0 a0_1).bind fun bt410 => (if t405 = 0 then (if bt406.2 = 0 then (if bt408.2 = 0 then (if bt410.2 = 0 then (if t404 < (-1) then (cohousinglaw01_RationalOrder.j0 k t399 t404 bt406.1 bt408.1 true a0_0 a0_1 a1_0 a1_1 a2_0 a2_1) else (if t404 > 1 then (cohousinglaw01_RationalOrder.j0 k t399 t404 bt406.1 bt408.1 true a0_0 a0_1 a1_0 a1_1 a2_0 a2_1) else (if bt410.1 = (wrap64 (-t404)) then (cohousinglaw01_RationalOrder.j0 k t399 t404 bt406.1 bt408.1 ((t404 == 0) != (a0_0 == a1_0 && (a0_1 == a1_1))) a0_0 a0_1 a1_0 a1_1 a2_0 a2_1) else (cohousinglaw01_RationalOrder.j0 k t399 t404 bt406.1 bt408.1 true a0_0 a0_1 a1_0 a1_1 a2_0 a2_1)))) else (cohousinglaw01_RationalOrder.j0 k t399 t404 bt406.1 bt408.1 true a0_0 a0_1 a1_0 a1_1 a2_0 a2_1)) else (cohousinglaw01_RationalOrder.j0 k t399 t404 bt406.1 bt408.1 true a0_0 a0_1 a1_0 a1_1 a2_0 a2_1)) else (cohousinglaw01_RationalOrder.j0 k t399 t404 bt406.1 bt408.1 true a0_0 a0_1 a1_0 a1_1 a2_0 a2_1)) else (cohousinglaw01_RationalOrder.j0 k t399 t404 bt406.1 bt408.1 true a0_0 a0_1 a1_0 a1_1 a2_0 a2_1))))) = some r := H
  have A7 := Aside0.mk A70
  clear A70
  replace H := Option.bind_eq_some_iff.mp H
  obtain ⟨⟨t406, t407⟩, A80, H⟩ := H
  replace H : ((rational_Compare.f k a0_0 a0_1 a2_0 a2_1).bind fun bt408 => ((rational_Compare.f k a1_0 a1_1 a0_0 a0_1).bind fun bt410 => (if t405 = 0 then (if t407 = 0 then (if bt408.2 = 0 then (if bt410.2 = 0 then (if t404 < (-1) then (cohousinglaw01_RationalOrder.j0 k t399 t404 t406 bt408.1 true a0_0 a0_1 a1_0 a1_1 a2_0 a2_1) else (if t404 > 1 then (cohousinglaw01_RationalOrder.j0 k t399 t404 t406 bt408.1 true a0_0 a0_1 a1_0 a1_1 a2_0 a2_1) else (if bt410.1 = (wrap64 (-t404)) then (cohousinglaw01_RationalOrder.j0 k t399 t404 t406 bt408.1 ((t404 == 0) != (a0_0 == a1_0 && (a0_1 == a1_1))) a0_0 a0_1 a1_0 a1_1 a2_0 a2_1) else (cohousinglaw01_RationalOrder.j0 k t399 t404 t406 bt408.1 true a0_0 a0_1 a1_0 a1_1 a2_0 a2_1)))) else (cohousinglaw01_RationalOrder.j0 k t399 t404 t406 bt408.1 true a0_0 a0_1 a1_0 a1_1 a2_0 a2_1)) else (cohousinglaw01_RationalOrder.j0 k t399 t404 t406 bt408.1 true a0_0 a0_1 a1_0 a1_1 a2_0 a2_1)) else (cohousinglaw01_RationalOrder.j0 k t399 t404 t406 bt408.1 true a0_0 a0_1 a1_0 a1_1 a2_0 a2_1)) else (cohousinglaw01_RationalOrder.j0 k t399 t404 t406 bt408.1 true a0_0 a0_1 a1_0 a1_1 a2_0 a2_1)))) = some r := H
  have A8 := Aside0.mk A80
  clear A80
  replace H := Option.bind_eq_some_iff.mp H
  obtain ⟨⟨t408, t409⟩, A90, H⟩ := H
  replace H : ((rational_Compare.f k a1_0 a1_1 a0_0 a0_1).bind fun bt410 => (if t405 = 0 then (if t407 = 0 then (if t409 = 0 then (if bt410.2 = 0 then (if t404 < (-1) then (cohousinglaw01_RationalOrder.j0 k t399 t404 t406 t408 true a0_0 a0_1 a1_0 a1_1 a2_0 a2_1) else (if t404 > 1 then (cohousinglaw01_RationalOrder.j0 k t399 t404 t406 t408 true a0_0 a0_1 a1_0 a1_1 a2_0 a2_1) else (if bt410.1 = (wrap64 (-t404)) then (cohousinglaw01_RationalOrder.j0 k t399 t404 t406 t408 ((t404 == 0) != (a0_0 == a1_0 && (a0_1 == a1_1))) a0_0 a0_1 a1_0 a1_1 a2_0 a2_1) else (cohousinglaw01_RationalOrder.j0 k t399 t404 t406 t408 true a0_0 a0_1 a1_0 a1_1 a2_0 a2_1)))) else (cohousinglaw01_RationalOrder.j0 k t399 t404 t406 t408 true a0_0 a0_1 a1_0 a1_1 a2_0 a2_1)) else (cohousinglaw01_RationalOrder.j0 k t399 t404 t406 t408 true a0_0 a0_1 a1_0 a1_1 a2_0 a2_1)) else (cohousinglaw01_RationalOrder.j0 k t399 t404 t406 t408 true a0_0 a0_1 a1_0 a1_1 a2_0 a2_1)) else (cohousinglaw01_RationalOrder.j0 k t399 t404 t406 t408 true a0_0 a0_1 a1_0 a1_1 a2_0 a2_1))) = some r := H
  have A9 := Aside0.mk A90
  clear A90
  replace H := Option.bind_eq_some_iff.mp H
  obtain ⟨⟨t410, t411⟩, A100, H⟩ := H
  replace H : (if t405 = 0 then (if t407 = 0 then (if t409 = 0 then (if t411 = 0 then (if t404 < (-1) then (cohousinglaw01_RationalOrder.j0 k t399 t404 t406 t408 true a0_0 a0_1 a1_0 a1_1 a2_0 a2_1) else (if t404 > 1 then (cohousinglaw01_RationalOrder.j0 k t399 t404 t406 t408 true a0_0 a0_1 a1_0 a1_1 a2_0 a2_1) else (if t410 = (wrap64 (-t404)) then (cohousinglaw01_RationalOrder.j0 k t399 t404 t406 t408 ((t404 == 0) != (a0_0 == a1_0 && (a0_1 == a1_1))) a0_0 a0_1 a1_0 a1_1 a2_0 a2_1) else (cohousinglaw01_RationalOrder.j0 k t399 t404 t406 t408 true a0_0 a0_1 a1_0 a1_1 a2_0 a2_1)))) else (cohousinglaw01_RationalOrder.j0 k t399 t404 t406 t408 true a0_0 a0_1 a1_0 a1_1 a2_0 a2_1)) else (cohousinglaw01_RationalOrder.j0 k t399 t404 t406 t408 true a0_0 a0_1 a1_0 a1_1 a2_0 a2_1)) else (cohousinglaw01_RationalOrder.j0 k t399 t404 t406 t408 true a0_0 a0_1 a1_0 a1_1 a2_0 a2_1)) else (cohousinglaw01_RationalOrder.j0 k t399 t404 t406 t408 true a0_0 a0_1 a1_0 a1_1 a2_0 a2_1)) = some r := H
  have A10 := Aside0.mk A100
  clear A100
  have HC11 := Aside0.mk H
  clear H
  go_enter Tryd.func8, Tryd.ntmps8
  go_upto_region 8 with (first | ((with_reducible refine gate_dst (N := 3) rfl ?_); refine box_event ?hg (N := 3) ?hd (cs := #[.int .i64 a0_0, .int .i64 a0_1]) (t := 24) ?hr ?_; (case hd => rfl); (case hg => rfl); (case hr => first | (go_simp; done) | (go_simp; rfl)); intro gb396 hg w12 hbox hb; have n0_ := Aside0.mk (bT (by repeat (first | (with_reducible first | exact HB.out | apply bA | apply bN | apply b1) | exact HB.out)) hb); have n1_ := Aside0.mk (hbox); have n2_ := Aside0.mk ((by rw [hg]; exact (bZ (by repeat (first | (with_reducible first | exact HB.out | apply bA | apply bN | apply b1) | exact HB.out))) : w.heap.size ≤ gb396)); have n3_ := Aside0.mk ((by rw [hg]; exact (bZ (by repeat (first | (with_reducible first | exact HB.out | apply bA | apply bN | apply b1) | exact HB.out))) : w.heap.size ≤ gb396)); clear HB; have HB := n0_; have BK396 := n1_; have GW396 := n2_; have GE396 := n3_; clear n0_ n1_ n2_ n3_; clear hb hbox hg) | ((with_reducible refine gate_dst (N := 4) rfl ?_); refine box_event ?hg (N := 4) ?hd (cs := #[.int .i64 a1_0, .int .i64 a1_1]) (t := 24) ?hr ?_; (case hd => rfl); (case hg => rfl); (case hr => first | (go_simp; done) | (go_simp; rfl)); intro gb397 hg w13 hbox hb; have n0_ := Aside0.mk (kB (g := gb396) (o := .cells #[.int .i64 a0_0, .int .i64 a0_1] 24 (0, 0)) (by (with_reducible repeat (first | refine kN ?_ _ | refine kD ?_ | refine kA ?_ _)); exact BK396.out) hb); have n1_ := Aside0.mk (bT (by repeat (first | (with_reducible first | exact HB.out | apply bA | apply bN | apply b1 | refine bS ?_ GE396.out) | exact HB.out)) hb); have n2_ := Aside0.mk (hbox); have n3_ := Aside0.mk ((by rw [hg]; exact (bZ (by repeat (first | (with_reducible first | exact HB.out | apply bA | apply bN | apply b1 | refine bS ?_ GE396.out) | exact HB.out))) : w.heap.size ≤ gb397)); have n4_ := Aside0.mk ((by rw [hg]; exact (bZ (by repeat (first | (with_reducible first | exact HB.out | apply bA | apply bN | apply b1 | refine bS ?_ GE396.out) | exact HB.out))) : w.heap.size ≤ gb397)); have n5_ := Aside0.mk ((by rw [hg]; exact Nat.ne_of_lt (blk_lt (g := gb396) (o := .cells #[.int .i64 a0_0, .int .i64 a0_1] 24 (0, 0)) (by (with_reducible repeat (first | refine kN ?_ _ | refine kD ?_ | refine kA ?_ _)); exact BK396.out)) : gb396 ≠ gb397)); have n6_ := Aside0.mk ((by rw [hg]; exact Nat.ne_of_gt (blk_lt (g := gb396) (o := .cells #[.int .i64 a0_0, .int .i64 a0_1] 24 (0, 0)) (by (with_reducible repeat (first | refine kN ?_ _ | refine kD ?_ | refine kA ?_ _)); exact BK396.out)) : gb397 ≠ gb396)); clear BK396; clear HB; have BK396 := n0_; have HB := n1_; have BK397 := n2_; have GW397 := n3_; have GE397 := n4_; have NB396_397 := n5_; have NB397_396 := n6_; clear n0_ n1_ n2_ n3_ n4_ n5_ n6_; clear hb hbox hg) | ((with_reducible refine gate_dst (N := 5) rfl ?_); refine box_event ?hg (N := 5) ?hd (cs := #[.int .i64 a2_0, .int .i64 a2_1]) (t := 24) ?hr ?_; (case hd => rfl); (case hg => rfl); (case hr => first | (go_simp; done) | (go_simp; rfl)); intro gb398 hg w14 hbox hb; have n0_ := Aside0.mk (kB (g := gb396) (o := .cells #[.int .i64 a0_0, .int .i64 a0_1] 24 (0, 0)) (by (with_reducible repeat (first | refine kN ?_ _ | refine kD ?_ | refine kA ?_ _)); exact BK396.out) hb); have n1_ := Aside0.mk (kB (g := gb397) (o := .cells #[.int .i64 a1_0, .int .i64 a1_1] 24 (0, 0)) (by (with_reducible repeat (first | refine kN ?_ _ | refine kD ?_ | refine kA ?_ _)); exact BK397.out) hb); have n2_ := Aside0.mk (bT (by repeat (first | (with_reducible first | exact HB.out | apply bA | apply bN | apply b1 | refine bS ?_ GE396.out | refine bS ?_ GE397.out) | exact HB.out)) hb); have n3_ := Aside0.mk (hbox); have n4_ := Aside0.mk ((by rw [hg]; exact (bZ (by repeat (first | (with_reducible first | exact HB.out | apply bA | apply bN | apply b1 | refine bS ?_ GE396.out | refine bS ?_ GE397.out) | exact HB.out))) : w.heap.size ≤ gb398)); have n5_ := Aside0.mk ((by rw [hg]; exact (bZ (by repeat (first | (with_reducible first | exact HB.out | apply bA | apply bN | apply b1 | refine bS ?_ GE396.out | refine bS ?_ GE397.out) | exact HB.out))) : w.heap.size ≤ gb398)); have n6_ := Aside0.mk ((by rw [hg]; exact Nat.ne_of_lt (blk_lt (g := gb396) (o := .cells #[.int .i64 a0_0, .int .i64 a0_1] 24 (0, 0)) (by (with_reducible repeat (first | refine kN ?_ _ | refine kD ?_ | refine kA ?_ _)); exact BK396.out)) : gb396 ≠ gb398)); have n7_ := Aside0.mk ((by rw [hg]; exact Nat.ne_of_gt (blk_lt (g := gb396) (o := .cells #[.int .i64 a0_0, .int .i64 a0_1] 24 (0, 0)) (by (with_reducible repeat (first | refine kN ?_ _ | refine kD ?_ | refine kA ?_ _)); exact BK396.out)) : gb398 ≠ gb396)); have n8_ := Aside0.mk ((by rw [hg]; exact Nat.ne_of_lt (blk_lt (g := gb397) (o := .cells #[.int .i64 a1_0, .int .i64 a1_1] 24 (0, 0)) (by (with_reducible repeat (first | refine kN ?_ _ | refine kD ?_ | refine kA ?_ _)); exact BK397.out)) : gb397 ≠ gb398)); have n9_ := Aside0.mk ((by rw [hg]; exact Nat.ne_of_gt (blk_lt (g := gb397) (o := .cells #[.int .i64 a1_0, .int .i64 a1_1] 24 (0, 0)) (by (with_reducible repeat (first | refine kN ?_ _ | refine kD ?_ | refine kA ?_ _)); exact BK397.out)) : gb398 ≠ gb397)); clear BK396; clear BK397; clear HB; have BK396 := n0_; have BK397 := n1_; have HB := n2_; have BK398 := n3_; have GW398 := n4_; have GE398 := n5_; have NB396_398 := n6_; have NB398_396 := n7_; have NB397_398 := n8_; have NB398_397 := n9_; clear n0_ n1_ n2_ n3_ n4_ n5_ n6_ n7_ n8_ n9_; clear hb hbox hg) | ((with_reducible refine gate_callee (f := 10) rfl ?_); refine goesL_ (some 24) rfl rfl Tryd.func10 (by kernel_rfl) rfl #[] rfl (by (try simp only [List.map_toArray, List.map_cons, List.map_nil]); first | done | rfl | (simp only [List.length_drop, List.length_take]; rfl)) ?_; (with_reducible refine (cohousinglaw01_head.calls k  t399 _ ?side1 A4.out).mono ?_); (case side1 => exact GL.below HG.out (by repeat (first | (with_reducible first | exact HB.out | apply bA | apply bN | apply b1 | refine bS ?_ GE396.out | refine bS ?_ GE397.out | refine bS ?_ GE398.out) | exact HB.out))); rintro e w15 ⟨rfl, hb⟩; refine ⟨_, rfl, ?_⟩; have n0_ := Aside0.mk (kB (g := gb396) (o := .cells #[.int .i64 a0_0, .int .i64 a0_1] 24 (0, 0)) (by (with_reducible repeat (first | refine kN ?_ _ | refine kD ?_ | refine kA ?_ _)); exact BK396.out) hb); have n1_ := Aside0.mk (kB (g := gb397) (o := .cells #[.int .i64 a1_0, .int .i64 a1_1] 24 (0, 0)) (by (with_reducible repeat (first | refine kN ?_ _ | refine kD ?_ | refine kA ?_ _)); exact BK397.out) hb); have n2_ := Aside0.mk (kB (g := gb398) (o := .cells #[.int .i64 a2_0, .int .i64 a2_1] 24 (0, 0)) (by (with_reducible repeat (first | refine kN ?_ _ | refine kD ?_ | refine kA ?_ _)); exact BK398.out) hb); have n3_ := Aside0.mk (bT (by repeat (first | (with_reducible first | exact HB.out | apply bA | apply bN | apply b1 | refine bS ?_ GE396.out | refine bS ?_ GE397.out | refine bS ?_ GE398.out) | exact HB.out)) hb); clear BK396; clear BK397; clear BK398; clear HB; have BK396 := n0_; have BK397 := n1_; have BK398 := n2_; have HB := n3_; clear n0_ n1_ n2_ n3_; (try clear hb); (try clear hb2); (try clear hk); (try clear hi); have hnb16 := NB396_397.out; have hnc16 := NB397_396.out; have hnb17 := NB396_398.out; have hnc17 := NB398_396.out; have hcz18_0 : w15.cell? ⟨gb396, 0, none⟩ = some (.int .i64 a0_0) := (kC BK396.out 0).trans rfl; have hcz18_1 : w15.cell? ⟨gb396, 1, none⟩ = some (.int .i64 a0_1) := (kC BK396.out 1).trans rfl; have hfz18_0 := blk_frozen BK396.out 0; have hfz18_1 := blk_frozen BK396.out 1; have hnb19 := NB397_398.out; have hnc19 := NB398_397.out; have hcz20_0 : w15.cell? ⟨gb397, 0, none⟩ = some (.int .i64 a1_0) := (kC BK397.out 0).trans rfl; have hcz20_1 : w15.cell? ⟨gb397, 1, none⟩ = some (.int .i64 a1_1) := (kC BK397.out 1).trans rfl; have hfz20_0 := blk_frozen BK397.out 0; have hfz20_1 := blk_frozen BK397.out 1; have hcz21_0 : w15.cell? ⟨gb398, 0, none⟩ = some (.int .i64 a2_0) := (kC BK398.out 0).trans rfl; have hcz21_1 : w15.cell? ⟨gb398, 1, none⟩ = some (.int .i64 a2_1) := (kC BK398.out 1).trans rfl; have hfz21_0 := blk_frozen BK398.out 0; have hfz21_1 := blk_frozen BK398.out 1) | ((with_reducible refine gate_dst (N := 28) rfl ?_); refine Kd.R_lit k24 _ 24 ?hg (N := 28) ?hd (xs := ([(⟨a0_0, a0_1⟩ : S24), (⟨a1_0, a1_1⟩ : S24), (⟨a2_0, a2_1⟩ : S24)] : List (S24))) (inner := [.int .i64 a0_0, .int .i64 a0_1, .int .i64 a1_0, .int .i64 a1_1, .int .i64 a2_0, .int .i64 a2_1]) (ok := fun _ => True) (okp := fun _ => True) ?hr ?hp (fun _ hk => hk) trivial (Below.refl _ _) (Nat.le_refl _) (by simp) ?_; (case hd => rfl); (case hg => rfl); (case hr => first | (go_simp; done) | (go_simp; rfl)); (case hp => exact (Reps.c2 (show Kd.M k24 _ _ _ (⟨a0_0, a0_1⟩ : S24) [.int .i64 a0_0, .int .i64 a0_1] from (k24_mkM _ _ _ (⟨a0_0, a0_1⟩ : S24) )) (Reps.c2 (show Kd.M k24 _ _ _ (⟨a1_0, a1_1⟩ : S24) [.int .i64 a1_0, .int .i64 a1_1] from (k24_mkM _ _ _ (⟨a1_0, a1_1⟩ : S24) )) (Reps.c2 (show Kd.M k24 _ _ _ (⟨a2_0, a2_1⟩ : S24) [.int .i64 a2_0, .int .i64 a2_1] from (k24_mkM _ _ _ (⟨a2_0, a2_1⟩ : S24) )) (Reps.none _ _))))); intro v401 w22 ho23 hb hg_ hnew_; clear hg_ hnew_; (first | rw [← Ny400.out] at ho23 | (simp only [Int.reduceToNat] at ho23; rw [← Ny400.out] at ho23)); have n0_ := Aside0.mk (Kd.R_lower (Kd.R_newB (Kd.R_newB (Kd.R_newB ho23 (g := gb396) (o := .cells #[.int .i64 a0_0, .int .i64 a0_1] 24 (0, 0)) (by (with_reducible repeat (first | refine kN ?_ _ | refine kD ?_ | refine kA ?_ _)); exact BK396.out)) (g := gb397) (o := .cells #[.int .i64 a1_0, .int .i64 a1_1] 24 (0, 0)) (by (with_reducible repeat (first | refine kN ?_ _ | refine kD ?_ | refine kA ?_ _)); exact BK397.out)) (g := gb398) (o := .cells #[.int .i64 a2_0, .int .i64 a2_1] 24 (0, 0)) (by (with_reducible repeat (first | refine kN ?_ _ | refine kD ?_ | refine kA ?_ _)); exact BK398.out)) (bZ (by repeat (first | (with_reducible first | exact HB.out | apply bA | apply bN | apply b1 | refine bS ?_ GE396.out | refine bS ?_ GE397.out | refine bS ?_ GE398.out) | exact HB.out)))); have n1_ := Aside0.mk (kB (g := gb396) (o := .cells #[.int .i64 a0_0, .int .i64 a0_1] 24 (0, 0)) (by (with_reducible repeat (first | refine kN ?_ _ | refine kD ?_ | refine kA ?_ _)); exact BK396.out) hb); have n2_ := Aside0.mk (kB (g := gb397) (o := .cells #[.int .i64 a1_0, .int .i64 a1_1] 24 (0, 0)) (by (with_reducible repeat (first | refine kN ?_ _ | refine kD ?_ | refine kA ?_ _)); exact BK397.out) hb); have n3_ := Aside0.mk (kB (g := gb398) (o := .cells #[.int .i64 a2_0, .int .i64 a2_1] 24 (0, 0)) (by (with_reducible repeat (first | refine kN ?_ _ | refine kD ?_ | refine kA ?_ _)); exact BK398.out) hb); have n4_ := Aside0.mk (bT (by repeat (first | (with_reducible first | exact HB.out | apply bA | apply bN | apply b1 | refine bS ?_ GE396.out | refine bS ?_ GE397.out | refine bS ?_ GE398.out) | exact HB.out)) hb); clear BK396; clear BK397; clear BK398; clear HB; have HO402 := n0_; have BK396 := n1_; have BK397 := n2_; have BK398 := n3_; have HB := n4_; clear n0_ n1_ n2_ n3_ n4_; clear hb ho23; obtain ⟨Ao24, co24, eo24⟩ := Kd.R_slice HO402.out; subst eo24) | ((with_reducible refine gate_callee (f := 14) rfl ?_); refine goesL_ (some 29) rfl rfl Tryd.func14 (by kernel_rfl) rfl #[.slice Ao24 y400.length co24] rfl (by (try simp only [List.map_toArray, List.map_cons, List.map_nil]); first | done | rfl | (simp only [List.length_drop, List.length_take]; rfl)) ?_; (with_reducible refine (cohousinglaw01_numbers.calls k _ _ y400 true _ ?side1 ?side2 A5.out).mono ?_); (case side1 => repeat (first | exact (Kd.R_reads' HO402.out).2.2 | (with_reducible refine Kd.C_alloc ?_ _) | (with_reducible refine Kd.C_drewN ?_ _) | (with_reducible refine Kd.C_drew ?_))); (case side2 => exact (Kd.R_reads' HO402.out).2.1); rintro e w25 ⟨rfl, hb⟩; refine ⟨_, rfl, ?_⟩; have n0_ := Aside0.mk (Kd.R_below (by (with_reducible repeat (first | apply Kd.R_alloc | apply Kd.R_drewN | apply Kd.R_drew)); exact HO402.out) hb); have n1_ := Aside0.mk (kB (g := gb396) (o := .cells #[.int .i64 a0_0, .int .i64 a0_1] 24 (0, 0)) (by (with_reducible repeat (first | refine kN ?_ _ | refine kD ?_ | refine kA ?_ _)); exact BK396.out) hb); have n2_ := Aside0.mk (kB (g := gb397) (o := .cells #[.int .i64 a1_0, .int .i64 a1_1] 24 (0, 0)) (by (with_reducible repeat (first | refine kN ?_ _ | refine kD ?_ | refine kA ?_ _)); exact BK397.out) hb); have n3_ := Aside0.mk (kB (g := gb398) (o := .cells #[.int .i64 a2_0, .int .i64 a2_1] 24 (0, 0)) (by (with_reducible repeat (first | refine kN ?_ _ | refine kD ?_ | refine kA ?_ _)); exact BK398.out) hb); have n4_ := Aside0.mk (bT (by repeat (first | (with_reducible first | exact HB.out | apply bA | apply bN | apply b1 | refine bS ?_ GE396.out | refine bS ?_ GE397.out | refine bS ?_ GE398.out) | exact HB.out)) hb); clear HO402; clear BK396; clear BK397; clear BK398; clear HB; have HO402 := n0_; have BK396 := n1_; have BK397 := n2_; have BK398 := n3_; have HB := n4_; clear n0_ n1_ n2_ n3_ n4_; (try clear hb); (try clear hb2); (try clear hk); (try clear hi); have hcz26_0 : w25.cell? ⟨gb396, 0, none⟩ = some (.int .i64 a0_0) := (kC BK396.out 0).trans rfl; have hcz26_1 : w25.cell? ⟨gb396, 1, none⟩ = some (.int .i64 a0_1) := (kC BK396.out 1).trans rfl; have hfz26_0 := blk_frozen BK396.out 0; have hfz26_1 := blk_frozen BK396.out 1; have hcz27_0 : w25.cell? ⟨gb397, 0, none⟩ = some (.int .i64 a1_0) := (kC BK397.out 0).trans rfl; have hcz27_1 : w25.cell? ⟨gb397, 1, none⟩ = some (.int .i64 a1_1) := (kC BK397.out 1).trans rfl; have hfz27_0 := blk_frozen BK397.out 0; have hfz27_1 := blk_frozen BK397.out 1) | ((with_reducible refine gate_callee (f := 27) rfl ?_); refine goesL_ (some 35) rfl rfl Tryd.func27 (by kernel_rfl) rfl #[.agg #[.int .i64 a0_0, .int .i64 a0_1], .agg #[.int .i64 a1_0, .int .i64 a1_1]] rfl (by (try simp only [List.map_toArray, List.map_cons, List.map_nil]); first | done | rfl | (simp only [List.length_drop, List.length_take]; rfl)) ?_; (with_reducible refine (rational_Compare.calls k a0_0 a0_1 a1_0 a1_1 t404 t405 _ A7.out).mono ?_); rintro e w28 ⟨rfl, hb⟩; refine ⟨_, rfl, ?_⟩; have n0_ := Aside0.mk (Kd.R_below (by (with_reducible repeat (first | apply Kd.R_alloc | apply Kd.R_drewN | apply Kd.R_drew)); exact HO402.out) hb); have n1_ := Aside0.mk (kB (g := gb396) (o := .cells #[.int .i64 a0_0, .int .i64 a0_1] 24 (0, 0)) (by (with_reducible repeat (first | refine kN ?_ _ | refine kD ?_ | refine kA ?_ _)); exact BK396.out) hb); have n2_ := Aside0.mk (kB (g := gb397) (o := .cells #[.int .i64 a1_0, .int .i64 a1_1] 24 (0, 0)) (by (with_reducible repeat (first | refine kN ?_ _ | refine kD ?_ | refine kA ?_ _)); exact BK397.out) hb); have n3_ := Aside0.mk (kB (g := gb398) (o := .cells #[.int .i64 a2_0, .int .i64 a2_1] 24 (0, 0)) (by (with_reducible repeat (first | refine kN ?_ _ | refine kD ?_ | refine kA ?_ _)); exact BK398.out) hb); have n4_ := Aside0.mk (bT (by repeat (first | (with_reducible first | exact HB.out | apply bA | apply bN | apply b1 | refine bS ?_ GE396.out | refine bS ?_ GE397.out | refine bS ?_ GE398.out) | exact HB.out)) hb); clear HO402; clear BK396; clear BK397; clear BK398; clear HB; have HO402 := n0_; have BK396 := n1_; have BK397 := n2_; have BK398 := n3_; have HB := n4_; clear n0_ n1_ n2_ n3_ n4_; (try clear hb); (try clear hb2); (try clear hk); (try clear hi); have hcz29_0 : w28.cell? ⟨gb397, 0, none⟩ = some (.int .i64 a1_0) := (kC BK397.out 0).trans rfl; have hcz29_1 : w28.cell? ⟨gb397, 1, none⟩ = some (.int .i64 a1_1) := (kC BK397.out 1).trans rfl; have hfz29_0 := blk_frozen BK397.out 0; have hfz29_1 := blk_frozen BK397.out 1; have hcz30_0 : w28.cell? ⟨gb398, 0, none⟩ = some (.int .i64 a2_0) := (kC BK398.out 0).trans rfl; have hcz30_1 : w28.cell? ⟨gb398, 1, none⟩ = some (.int .i64 a2_1) := (kC BK398.out 1).trans rfl; have hfz30_0 := blk_frozen BK398.out 0; have hfz30_1 := blk_frozen BK398.out 1) | ((with_reducible refine gate_callee (f := 27) rfl ?_); refine goesL_ (some 41) rfl rfl Tryd.func27 (by kernel_rfl) rfl #[.agg #[.int .i64 a1_0, .int .i64 a1_1], .agg #[.int .i64 a2_0, .int .i64 a2_1]] rfl (by (try simp only [List.map_toArray, List.map_cons, List.map_nil]); first | done | rfl | (simp only [List.length_drop, List.length_take]; rfl)) ?_; (with_reducible refine (rational_Compare.calls k a1_0 a1_1 a2_0 a2_1 t406 t407 _ A8.out).mono ?_); rintro e w31 ⟨rfl, hb⟩; refine ⟨_, rfl, ?_⟩; have n0_ := Aside0.mk (Kd.R_below (by (with_reducible repeat (first | apply Kd.R_alloc | apply Kd.R_drewN | apply Kd.R_drew)); exact HO402.out) hb); have n1_ := Aside0.mk (kB (g := gb396) (o := .cells #[.int .i64 a0_0, .int .i64 a0_1] 24 (0, 0)) (by (with_reducible repeat (first | refine kN ?_ _ | refine kD ?_ | refine kA ?_ _)); exact BK396.out) hb); have n2_ := Aside0.mk (kB (g := gb397) (o := .cells #[.int .i64 a1_0, .int .i64 a1_1] 24 (0, 0)) (by (with_reducible repeat (first | refine kN ?_ _ | refine kD ?_ | refine kA ?_ _)); exact BK397.out) hb); have n3_ := Aside0.mk (kB (g := gb398) (o := .cells #[.int .i64 a2_0, .int .i64 a2_1] 24 (0, 0)) (by (with_reducible repeat (first | refine kN ?_ _ | refine kD ?_ | refine kA ?_ _)); exact BK398.out) hb); have n4_ := Aside0.mk (bT (by repeat (first | (with_reducible first | exact HB.out | apply bA | apply bN | apply b1 | refine bS ?_ GE396.out | refine bS ?_ GE397.out | refine bS ?_ GE398.out) | exact HB.out)) hb); clear HO402; clear BK396; clear BK397; clear BK398; clear HB; have HO402 := n0_; have BK396 := n1_; have BK397 := n2_; have BK398 := n3_; have HB := n4_; clear n0_ n1_ n2_ n3_ n4_; (try clear hb); (try clear hb2); (try clear hk); (try clear hi); have hcz32_0 : w31.cell? ⟨gb396, 0, none⟩ = some (.int .i64 a0_0) := (kC BK396.out 0).trans rfl; have hcz32_1 : w31.cell? ⟨gb396, 1, none⟩ = some (.int .i64 a0_1) := (kC BK396.out 1).trans rfl; have hfz32_0 := blk_frozen BK396.out 0; have hfz32_1 := blk_frozen BK396.out 1; have hcz33_0 : w31.cell? ⟨gb398, 0, none⟩ = some (.int .i64 a2_0) := (kC BK398.out 0).trans rfl; have hcz33_1 : w31.cell? ⟨gb398, 1, none⟩ = some (.int .i64 a2_1) := (kC BK398.out 1).trans rfl; have hfz33_0 := blk_frozen BK398.out 0; have hfz33_1 := blk_frozen BK398.out 1) | ((with_reducible refine gate_callee (f := 27) rfl ?_); refine goesL_ (some 47) rfl rfl Tryd.func27 (by kernel_rfl) rfl #[.agg #[.int .i64 a0_0, .int .i64 a0_1], .agg #[.int .i64 a2_0, .int .i64 a2_1]] rfl (by (try simp only [List.map_toArray, List.map_cons, List.map_nil]); first | done | rfl | (simp only [List.length_drop, List.length_take]; rfl)) ?_; (with_reducible refine (rational_Compare.calls k a0_0 a0_1 a2_0 a2_1 t408 t409 _ A9.out).mono ?_); rintro e w34 ⟨rfl, hb⟩; refine ⟨_, rfl, ?_⟩; have n0_ := Aside0.mk (Kd.R_below (by (with_reducible repeat (first | apply Kd.R_alloc | apply Kd.R_drewN | apply Kd.R_drew)); exact HO402.out) hb); have n1_ := Aside0.mk (kB (g := gb396) (o := .cells #[.int .i64 a0_0, .int .i64 a0_1] 24 (0, 0)) (by (with_reducible repeat (first | refine kN ?_ _ | refine kD ?_ | refine kA ?_ _)); exact BK396.out) hb); have n2_ := Aside0.mk (kB (g := gb397) (o := .cells #[.int .i64 a1_0, .int .i64 a1_1] 24 (0, 0)) (by (with_reducible repeat (first | refine kN ?_ _ | refine kD ?_ | refine kA ?_ _)); exact BK397.out) hb); have n3_ := Aside0.mk (kB (g := gb398) (o := .cells #[.int .i64 a2_0, .int .i64 a2_1] 24 (0, 0)) (by (with_reducible repeat (first | refine kN ?_ _ | refine kD ?_ | refine kA ?_ _)); exact BK398.out) hb); have n4_ := Aside0.mk (bT (by repeat (first | (with_reducible first | exact HB.out | apply bA | apply bN | apply b1 | refine bS ?_ GE396.out | refine bS ?_ GE397.out | refine bS ?_ GE398.out) | exact HB.out)) hb); clear HO402; clear BK396; clear BK397; clear BK398; clear HB; have HO402 := n0_; have BK396 := n1_; have BK397 := n2_; have BK398 := n3_; have HB := n4_; clear n0_ n1_ n2_ n3_ n4_; (try clear hb); (try clear hb2); (try clear hk); (try clear hi); have hcz35_0 : w34.cell? ⟨gb397, 0, none⟩ = some (.int .i64 a1_0) := (kC BK397.out 0).trans rfl; have hcz35_1 : w34.cell? ⟨gb397, 1, none⟩ = some (.int .i64 a1_1) := (kC BK397.out 1).trans rfl; have hfz35_0 := blk_frozen BK397.out 0; have hfz35_1 := blk_frozen BK397.out 1; have hcz36_0 : w34.cell? ⟨gb396, 0, none⟩ = some (.int .i64 a0_0) := (kC BK396.out 0).trans rfl; have hcz36_1 : w34.cell? ⟨gb396, 1, none⟩ = some (.int .i64 a0_1) := (kC BK396.out 1).trans rfl; have hfz36_0 := blk_frozen BK396.out 0; have hfz36_1 := blk_frozen BK396.out 1) | ((with_reducible refine gate_callee (f := 27) rfl ?_); refine goesL_ (some 53) rfl rfl Tryd.func27 (by kernel_rfl) rfl #[.agg #[.int .i64 a1_0, .int .i64 a1_1], .agg #[.int .i64 a0_0, .int .i64 a0_1]] rfl (by (try simp only [List.map_toArray, List.map_cons, List.map_nil]); first | done | rfl | (simp only [List.length_drop, List.length_take]; rfl)) ?_; (with_reducible refine (rational_Compare.calls k a1_0 a1_1 a0_0 a0_1 t410 t411 _ A10.out).mono ?_); rintro e w37 ⟨rfl, hb⟩; refine ⟨_, rfl, ?_⟩; have n0_ := Aside0.mk (Kd.R_below (by (with_reducible repeat (first | apply Kd.R_alloc | apply Kd.R_drewN | apply Kd.R_drew)); exact HO402.out) hb); have n1_ := Aside0.mk (kB (g := gb396) (o := .cells #[.int .i64 a0_0, .int .i64 a0_1] 24 (0, 0)) (by (with_reducible repeat (first | refine kN ?_ _ | refine kD ?_ | refine kA ?_ _)); exact BK396.out) hb); have n2_ := Aside0.mk (kB (g := gb397) (o := .cells #[.int .i64 a1_0, .int .i64 a1_1] 24 (0, 0)) (by (with_reducible repeat (first | refine kN ?_ _ | refine kD ?_ | refine kA ?_ _)); exact BK397.out) hb); have n3_ := Aside0.mk (kB (g := gb398) (o := .cells #[.int .i64 a2_0, .int .i64 a2_1] 24 (0, 0)) (by (with_reducible repeat (first | refine kN ?_ _ | refine kD ?_ | refine kA ?_ _)); exact BK398.out) hb); have n4_ := Aside0.mk (bT (by repeat (first | (with_reducible first | exact HB.out | apply bA | apply bN | apply b1 | refine bS ?_ GE396.out | refine bS ?_ GE397.out | refine bS ?_ GE398.out) | exact HB.out)) hb); clear HO402; clear BK396; clear BK397; clear BK398; clear HB; have HO402 := n0_; have BK396 := n1_; have BK397 := n2_; have BK398 := n3_; have HB := n4_; clear n0_ n1_ n2_ n3_ n4_; (try clear hb); (try clear hb2); (try clear hk); (try clear hi)))
  (try simp only [Act.put, List.setIfInBounds_toArray, List.set_cons_zero, List.set_cons_succ])
  go_cut [91] (fun v91 wc => ∃ (kq : Nat) (x91_10 : Bool), v91 = .bool x91_10 ∧ Aside0 (cohousinglaw01_RationalOrder.j0 kq t399 t404 t406 t408 x91_10 a0_0 a0_1 a1_0 a1_1 a2_0 a2_1 = some r) ∧ Aside0 (kq ≤ k) ∧ Aside0 (wc.heap[gb396]? = some (.cells #[.int .i64 a0_0, .int .i64 a0_1] 24 (0, 0))) ∧ Aside0 (wc.heap[gb397]? = some (.cells #[.int .i64 a1_0, .int .i64 a1_1] 24 (0, 0))) ∧ Aside0 (wc.heap[gb398]? = some (.cells #[.int .i64 a2_0, .int .i64 a2_1] 24 (0, 0))) ∧ Aside0 (Below w.heap.size w wc))
  case first =>
   have H := HC11.out
   clear HC11
   by_cases c38 : t405 = 0
   ·rw [if_pos c38] at H
    have c38b0 : (t405 == 0) = true := beq_iff_eq.mpr c38
    have c38b1 : (t405 != 0) = false := bne_eq_false_iff_eq.mpr c38
    clear c38
    (first | rw [c38b0] | (simp only [i64_w, i32_w]; rw [c38b0]) | skip)
    by_cases c39 : t407 = 0
    ·rw [if_pos c39] at H
     have c39b0 : (t407 == 0) = true := beq_iff_eq.mpr c39
     have c39b1 : (t407 != 0) = false := bne_eq_false_iff_eq.mpr c39
     clear c39
     by_cases c40 : t409 = 0
     ·rw [if_pos c40] at H
      have c40b0 : (t409 == 0) = true := beq_iff_eq.mpr c40
      have c40b1 : (t409 != 0) = false := bne_eq_false_iff_eq.mpr c40
      clear c40
      by_cases c41 : t411 = 0
      ·rw [if_pos c41] at H
       have c41b0 : (t411 == 0) = true := beq_iff_eq.mpr c41
       have c41b1 : (t411 != 0) = false := bne_eq_false_iff_eq.mpr c41
       clear c41
       by_cases c42 : t404 < (-1)
       ·rw [if_pos c42] at H
        have c42b0 : decide (t404 < (-1)) = true := dT c42
        clear c42
        have H' := Aside0.mk H
        clear H
        go_wp2
        go_meet
        case rel => exact ⟨_, (true), (by first | rfl | (simp; done) | (simp [*]; done)), H', ⟨by first | omega | exact Nat.le_refl _⟩, ⟨by (with_reducible repeat (first | refine kN ?_ _ | refine kD ?_ | refine kA ?_ _)); exact BK396.out⟩, ⟨by (with_reducible repeat (first | refine kN ?_ _ | refine kD ?_ | refine kA ?_ _)); exact BK397.out⟩, ⟨by (with_reducible repeat (first | refine kN ?_ _ | refine kD ?_ | refine kA ?_ _)); exact BK398.out⟩, ⟨by repeat (first | (with_reducible first | exact HB.out | apply bA | apply bN | apply b1 | refine bS ?_ GE396.out | refine bS ?_ GE397.out | refine bS ?_ GE398.out) | exact HB.out)⟩⟩
       ·rw [if_neg c42] at H
        have c42b0 : decide (t404 < (-1)) = false := dF c42
        clear c42
        by_cases c43 : t404 > 1
        ·rw [if_pos c43] at H
         have c43b0 : decide (1 < t404) = true := dT c43
         clear c43
         have H' := Aside0.mk H
         clear H
         go_wp2
         go_meet
         case rel => exact ⟨_, (true), (by first | rfl | (simp; done) | (simp [*]; done)), H', ⟨by first | omega | exact Nat.le_refl _⟩, ⟨by (with_reducible repeat (first | refine kN ?_ _ | refine kD ?_ | refine kA ?_ _)); exact BK396.out⟩, ⟨by (with_reducible repeat (first | refine kN ?_ _ | refine kD ?_ | refine kA ?_ _)); exact BK397.out⟩, ⟨by (with_reducible repeat (first | refine kN ?_ _ | refine kD ?_ | refine kA ?_ _)); exact BK398.out⟩, ⟨by repeat (first | (with_reducible first | exact HB.out | apply bA | apply bN | apply b1 | refine bS ?_ GE396.out | refine bS ?_ GE397.out | refine bS ?_ GE398.out) | exact HB.out)⟩⟩
        ·rw [if_neg c43] at H
         have c43b0 : decide (1 < t404) = false := dF c43
         clear c43
         by_cases c44 : t410 = (wrap64 (-t404))
         ·rw [if_pos c44] at H
          have c44b0 : (t410 == (wrap64 (-t404))) = true := beq_iff_eq.mpr c44
          have c44b1 : (t410 != (wrap64 (-t404))) = false := bne_eq_false_iff_eq.mpr c44
          clear c44
          have H' := Aside0.mk H
          clear H
          have hnb45 := NB396_397.out
          have hnc45 := NB397_396.out
          have hnb46 := NB396_398.out
          have hnc46 := NB398_396.out
          have hcz47_0 : w37.cell? ⟨gb396, 0, none⟩ = some (.int .i64 a0_0) := (kC BK396.out 0).trans rfl
          have hcz47_1 : w37.cell? ⟨gb396, 1, none⟩ = some (.int .i64 a0_1) := (kC BK396.out 1).trans rfl
          have hfz47_0 := blk_frozen BK396.out 0
          have hfz47_1 := blk_frozen BK396.out 1
          have hnb48 := NB397_398.out
          have hnc48 := NB398_397.out
          have hcz49_0 : w37.cell? ⟨gb397, 0, none⟩ = some (.int .i64 a1_0) := (kC BK397.out 0).trans rfl
          have hcz49_1 : w37.cell? ⟨gb397, 1, none⟩ = some (.int .i64 a1_1) := (kC BK397.out 1).trans rfl
          have hfz49_0 := blk_frozen BK397.out 0
          have hfz49_1 := blk_frozen BK397.out 1
          go_wp2
          go_meet
          case rel => exact ⟨_, (((t404 == 0) != (a0_0 == a1_0 && (a0_1 == a1_1)))), (by first | rfl | (simp; done) | (simp [*]; done)), H', ⟨by first | omega | exact Nat.le_refl _⟩, ⟨by (with_reducible repeat (first | refine kN ?_ _ | refine kD ?_ | refine kA ?_ _)); exact BK396.out⟩, ⟨by (with_reducible repeat (first | refine kN ?_ _ | refine kD ?_ | refine kA ?_ _)); exact BK397.out⟩, ⟨by (with_reducible repeat (first | refine kN ?_ _ | refine kD ?_ | refine kA ?_ _)); exact BK398.out⟩, ⟨by repeat (first | (with_reducible first | exact HB.out | apply bA | apply bN | apply b1 | refine bS ?_ GE396.out | refine bS ?_ GE397.out | refine bS ?_ GE398.out) | exact HB.out)⟩⟩
         ·rw [if_neg c44] at H
          have c44b0 : (t410 == (wrap64 (-t404))) = false := beq_eq_false_iff_ne.mpr c44
          have c44b1 : (t410 != (wrap64 (-t404))) = true := bne_iff_ne.mpr c44
          have H' := Aside0.mk H
          clear H
          go_wp2
          go_meet
          case rel => exact ⟨_, (true), (by first | rfl | (simp; done) | (simp [*]; done)), H', ⟨by first | omega | exact Nat.le_refl _⟩, ⟨by (with_reducible repeat (first | refine kN ?_ _ | refine kD ?_ | refine kA ?_ _)); exact BK396.out⟩, ⟨by (with_reducible repeat (first | refine kN ?_ _ | refine kD ?_ | refine kA ?_ _)); exact BK397.out⟩, ⟨by (with_reducible repeat (first | refine kN ?_ _ | refine kD ?_ | refine kA ?_ _)); exact BK398.out⟩, ⟨by repeat (first | (with_reducible first | exact HB.out | apply bA | apply bN | apply b1 | refine bS ?_ GE396.out | refine bS ?_ GE397.out | refine bS ?_ GE398.out) | exact HB.out)⟩⟩
      ·rw [if_neg c41] at H
       have c41b0 : (t411 == 0) = false := beq_eq_false_iff_ne.mpr c41
       have c41b1 : (t411 != 0) = true := bne_iff_ne.mpr c41
       have H' := Aside0.mk H
       clear H
       go_wp2
       go_meet
       case rel => exact ⟨_, (true), (by first | rfl | (simp; done) | (simp [*]; done)), H', ⟨by first | omega | exact Nat.le_refl _⟩, ⟨by (with_reducible repeat (first | refine kN ?_ _ | refine kD ?_ | refine kA ?_ _)); exact BK396.out⟩, ⟨by (with_reducible repeat (first | refine kN ?_ _ | refine kD ?_ | refine kA ?_ _)); exact BK397.out⟩, ⟨by (with_reducible repeat (first | refine kN ?_ _ | refine kD ?_ | refine kA ?_ _)); exact BK398.out⟩, ⟨by repeat (first | (with_reducible first | exact HB.out | apply bA | apply bN | apply b1 | refine bS ?_ GE396.out | refine bS ?_ GE397.out | refine bS ?_ GE398.out) | exact HB.out)⟩⟩
     ·rw [if_neg c40] at H
      have c40b0 : (t409 == 0) = false := beq_eq_false_iff_ne.mpr c40
      have c40b1 : (t409 != 0) = true := bne_iff_ne.mpr c40
      have H' := Aside0.mk H
      clear H
      go_wp2
      go_meet
      case rel => exact ⟨_, (true), (by first | rfl | (simp; done) | (simp [*]; done)), H', ⟨by first | omega | exact Nat.le_refl _⟩, ⟨by (with_reducible repeat (first | refine kN ?_ _ | refine kD ?_ | refine kA ?_ _)); exact BK396.out⟩, ⟨by (with_reducible repeat (first | refine kN ?_ _ | refine kD ?_ | refine kA ?_ _)); exact BK397.out⟩, ⟨by (with_reducible repeat (first | refine kN ?_ _ | refine kD ?_ | refine kA ?_ _)); exact BK398.out⟩, ⟨by repeat (first | (with_reducible first | exact HB.out | apply bA | apply bN | apply b1 | refine bS ?_ GE396.out | refine bS ?_ GE397.out | refine bS ?_ GE398.out) | exact HB.out)⟩⟩
    ·rw [if_neg c39] at H
     have c39b0 : (t407 == 0) = false := beq_eq_false_iff_ne.mpr c39
     have c39b1 : (t407 != 0) = true := bne_iff_ne.mpr c39
     have H' := Aside0.mk H
     clear H
     go_wp2
     go_meet
     case rel => exact ⟨_, (true), (by first | rfl | (simp; done) | (simp [*]; done)), H', ⟨by first | omega | exact Nat.le_refl _⟩, ⟨by (with_reducible repeat (first | refine kN ?_ _ | refine kD ?_ | refine kA ?_ _)); exact BK396.out⟩, ⟨by (with_reducible repeat (first | refine kN ?_ _ | refine kD ?_ | refine kA ?_ _)); exact BK397.out⟩, ⟨by (with_reducible repeat (first | refine kN ?_ _ | refine kD ?_ | refine kA ?_ _)); exact BK398.out⟩, ⟨by repeat (first | (with_reducible first | exact HB.out | apply bA | apply bN | apply b1 | refine bS ?_ GE396.out | refine bS ?_ GE397.out | refine bS ?_ GE398.out) | exact HB.out)⟩⟩
   ·rw [if_neg c38] at H
    have c38b0 : (t405 == 0) = false := beq_eq_false_iff_ne.mpr c38
    have c38b1 : (t405 != 0) = true := bne_iff_ne.mpr c38
    (first | rw [c38b0] | (simp only [i64_w, i32_w]; rw [c38b0]) | skip)
    have H' := Aside0.mk H
    clear H
    go_wp2
    go_meet
    case rel => exact ⟨_, (true), (by first | rfl | (simp; done) | (simp [*]; done)), H', ⟨by first | omega | exact Nat.le_refl _⟩, ⟨by (with_reducible repeat (first | refine kN ?_ _ | refine kD ?_ | refine kA ?_ _)); exact BK396.out⟩, ⟨by (with_reducible repeat (first | refine kN ?_ _ | refine kD ?_ | refine kA ?_ _)); exact BK397.out⟩, ⟨by (with_reducible repeat (first | refine kN ?_ _ | refine kD ?_ | refine kA ?_ _)); exact BK398.out⟩, ⟨by repeat (first | (with_reducible first | exact HB.out | apply bA | apply bN | apply b1 | refine bS ?_ GE396.out | refine bS ?_ GE397.out | refine bS ?_ GE398.out) | exact HB.out)⟩⟩
  case rest =>
   clear HC11
   try clear c1
   try clear c2
   try clear p2
   try clear c3
   try clear c4
   try clear c6
   try clear p6
   try clear c8
   try clear c10
   try clear c14
   try clear c16
   try clear c17
   try clear c19
   try clear c27
   try clear c38
   try clear c38b0
   try clear c38b1
   try clear c39
   try clear c39b0
   try clear c39b1
   try clear c40
   try clear c40b0
   try clear c40b1
   try clear c41
   try clear c41b0
   try clear c41b1
   try clear c42
   try clear c42b0
   try clear c43
   try clear c43b0
   try clear c44
   try clear c44b0
   try clear c44b1
   try clear c45
   try clear c46
   try clear c48
   try clear hcz18_0
   try clear hcz18_1
   try clear hcz20_0
   try clear hcz20_1
   try clear hcz21_0
   try clear hcz21_1
   try clear hcz26_0
   try clear hcz26_1
   try clear hcz27_0
   try clear hcz27_1
   try clear hcz29_0
   try clear hcz29_1
   try clear hcz30_0
   try clear hcz30_1
   try clear hcz32_0
   try clear hcz32_1
   try clear hcz33_0
   try clear hcz33_1
   try clear hcz35_0
   try clear hcz35_1
   try clear hcz36_0
   try clear hcz36_1
   try clear hcz47_0
   try clear hcz47_1
   try clear hcz49_0
   try clear hcz49_1
   try clear hfz18_0
   try clear hfz18_1
   try clear hfz20_0
   try clear hfz20_1
   try clear hfz21_0
   try clear hfz21_1
   try clear hfz26_0
   try clear hfz26_1
   try clear hfz27_0
   try clear hfz27_1
   try clear hfz29_0
   try clear hfz29_1
   try clear hfz30_0
   try clear hfz30_1
   try clear hfz32_0
   try clear hfz32_1
   try clear hfz33_0
   try clear hfz33_1
   try clear hfz35_0
   try clear hfz35_1
   try clear hfz36_0
   try clear hfz36_1
   try clear hfz47_0
   try clear hfz47_1
   try clear hfz49_0
   try clear hfz49_1
   obtain ⟨kq, x91_10, rfl, HA, HJ10, BK396, BK397, BK398, HB⟩ := hcut
   cases kq with
   | zero => exact absurd HA.out (by simp [cohousinglaw01_RationalOrder.j0])
   | succ kj10 =>
    have H := HA.out
    clear HA
    simp only [cohousinglaw01_RationalOrder.j0] at H
    by_cases c50 : x91_10 = true
    ·subst c50
     have H1 : (none) = some r := by rw [if_pos rfl] at H; exact H
     clear H
     have H := H1
     clear H1
     exact absurd H (by simp)
    ·replace c50 := Bool.eq_false_iff.mpr c50
     subst c50
     have H1 : (if t404 ≤ 0 then (if t406 ≤ 0 then (if t408 > 0 then (cohousinglaw01_RationalOrder.j1 kj10 t399 t404 true a0_0 a0_1 a1_0 a1_1 a2_0 a2_1) else (if t404 < 0 then (cohousinglaw01_RationalOrder.j1 kj10 t399 t404 (t408 == 0) a0_0 a0_1 a1_0 a1_1 a2_0 a2_1) else (cohousinglaw01_RationalOrder.j1 kj10 t399 t404 false a0_0 a0_1 a1_0 a1_1 a2_0 a2_1))) else (if t404 < 0 then (cohousinglaw01_RationalOrder.j1 kj10 t399 t404 false a0_0 a0_1 a1_0 a1_1 a2_0 a2_1) else (cohousinglaw01_RationalOrder.j1 kj10 t399 t404 false a0_0 a0_1 a1_0 a1_1 a2_0 a2_1))) else (if t404 < 0 then (if t406 ≤ 0 then (cohousinglaw01_RationalOrder.j1 kj10 t399 t404 (t408 == 0) a0_0 a0_1 a1_0 a1_1 a2_0 a2_1) else (cohousinglaw01_RationalOrder.j1 kj10 t399 t404 false a0_0 a0_1 a1_0 a1_1 a2_0 a2_1)) else (cohousinglaw01_RationalOrder.j1 kj10 t399 t404 false a0_0 a0_1 a1_0 a1_1 a2_0 a2_1))) = some r := by rw [if_neg (show ¬ (false = true) by decide)] at H; exact H
     clear H
     have H := H1
     clear H1
     have HC51 := Aside0.mk H
     clear H
     go_upto_region 10 with (fail)
     go_cut [113] (fun v113 wc => ∃ (kq : Nat) (x113_50 : Bool), v113 = .bool x113_50 ∧ Aside0 (cohousinglaw01_RationalOrder.j1 kq t399 t404 x113_50 a0_0 a0_1 a1_0 a1_1 a2_0 a2_1 = some r) ∧ Aside0 (kq ≤ kj10) ∧ Aside0 (wc.heap[gb396]? = some (.cells #[.int .i64 a0_0, .int .i64 a0_1] 24 (0, 0))) ∧ Aside0 (wc.heap[gb397]? = some (.cells #[.int .i64 a1_0, .int .i64 a1_1] 24 (0, 0))) ∧ Aside0 (wc.heap[gb398]? = some (.cells #[.int .i64 a2_0, .int .i64 a2_1] 24 (0, 0))) ∧ Aside0 (Below w.heap.size w wc))
     case first =>
      have H := HC51.out
      clear HC51
      by_cases c52 : t404 ≤ 0
      ·rw [if_pos c52] at H
       have c52b0 : decide (t404 ≤ 0) = true := dT c52
       clear c52
       (first | rw [c52b0] | (simp only [i64_w, i32_w]; rw [c52b0]) | skip)
       by_cases c53 : t406 ≤ 0
       ·rw [if_pos c53] at H
        have c53b0 : decide (t406 ≤ 0) = true := dT c53
        clear c53
        by_cases c54 : t408 > 0
        ·rw [if_pos c54] at H
         have c54b0 : decide (0 < t408) = true := dT c54
         clear c54
         have H' := Aside0.mk H
         clear H
         go_wp2
         go_meet
         case rel => exact ⟨_, (true), (by first | rfl | (simp; done) | (simp [*]; done)), H', ⟨by have := HJ10.out; first | omega | exact Nat.le_refl _⟩, ⟨by (with_reducible repeat (first | refine kN ?_ _ | refine kD ?_ | refine kA ?_ _)); exact BK396.out⟩, ⟨by (with_reducible repeat (first | refine kN ?_ _ | refine kD ?_ | refine kA ?_ _)); exact BK397.out⟩, ⟨by (with_reducible repeat (first | refine kN ?_ _ | refine kD ?_ | refine kA ?_ _)); exact BK398.out⟩, ⟨by repeat (first | (with_reducible first | exact HB.out | apply bA | apply bN | apply b1 | refine bS ?_ GE396.out | refine bS ?_ GE397.out | refine bS ?_ GE398.out) | exact HB.out)⟩⟩
        ·rw [if_neg c54] at H
         have c54b0 : decide (0 < t408) = false := dF c54
         clear c54
         by_cases c55 : t404 < 0
         ·rw [if_pos c55] at H
          have c55b0 : decide (t404 < 0) = true := dT c55
          clear c55
          have H' := Aside0.mk H
          clear H
          go_wp2
          go_meet
          case rel => exact ⟨_, ((t408 == 0)), (by first | rfl | (simp; done) | (simp [*]; done)), H', ⟨by have := HJ10.out; first | omega | exact Nat.le_refl _⟩, ⟨by (with_reducible repeat (first | refine kN ?_ _ | refine kD ?_ | refine kA ?_ _)); exact BK396.out⟩, ⟨by (with_reducible repeat (first | refine kN ?_ _ | refine kD ?_ | refine kA ?_ _)); exact BK397.out⟩, ⟨by (with_reducible repeat (first | refine kN ?_ _ | refine kD ?_ | refine kA ?_ _)); exact BK398.out⟩, ⟨by repeat (first | (with_reducible first | exact HB.out | apply bA | apply bN | apply b1 | refine bS ?_ GE396.out | refine bS ?_ GE397.out | refine bS ?_ GE398.out) | exact HB.out)⟩⟩
         ·rw [if_neg c55] at H
          have c55b0 : decide (t404 < 0) = false := dF c55
          clear c55
          have H' := Aside0.mk H
          clear H
          go_wp2
          go_meet
          case rel => exact ⟨_, (false), (by first | rfl | (simp; done) | (simp [*]; done)), H', ⟨by have := HJ10.out; first | omega | exact Nat.le_refl _⟩, ⟨by (with_reducible repeat (first | refine kN ?_ _ | refine kD ?_ | refine kA ?_ _)); exact BK396.out⟩, ⟨by (with_reducible repeat (first | refine kN ?_ _ | refine kD ?_ | refine kA ?_ _)); exact BK397.out⟩, ⟨by (with_reducible repeat (first | refine kN ?_ _ | refine kD ?_ | refine kA ?_ _)); exact BK398.out⟩, ⟨by repeat (first | (with_reducible first | exact HB.out | apply bA | apply bN | apply b1 | refine bS ?_ GE396.out | refine bS ?_ GE397.out | refine bS ?_ GE398.out) | exact HB.out)⟩⟩
       ·rw [if_neg c53] at H
        have c53b0 : decide (t406 ≤ 0) = false := dF c53
        clear c53
        by_cases c56 : t404 < 0
        ·rw [if_pos c56] at H
         have c56b0 : decide (t404 < 0) = true := dT c56
         clear c56
         have H' := Aside0.mk H
         clear H
         go_wp2
         go_meet
         case rel => exact ⟨_, (false), (by first | rfl | (simp; done) | (simp [*]; done)), H', ⟨by have := HJ10.out; first | omega | exact Nat.le_refl _⟩, ⟨by (with_reducible repeat (first | refine kN ?_ _ | refine kD ?_ | refine kA ?_ _)); exact BK396.out⟩, ⟨by (with_reducible repeat (first | refine kN ?_ _ | refine kD ?_ | refine kA ?_ _)); exact BK397.out⟩, ⟨by (with_reducible repeat (first | refine kN ?_ _ | refine kD ?_ | refine kA ?_ _)); exact BK398.out⟩, ⟨by repeat (first | (with_reducible first | exact HB.out | apply bA | apply bN | apply b1 | refine bS ?_ GE396.out | refine bS ?_ GE397.out | refine bS ?_ GE398.out) | exact HB.out)⟩⟩
        ·rw [if_neg c56] at H
         have c56b0 : decide (t404 < 0) = false := dF c56
         clear c56
         have H' := Aside0.mk H
         clear H
         go_wp2
         go_meet
         case rel => exact ⟨_, (false), (by first | rfl | (simp; done) | (simp [*]; done)), H', ⟨by have := HJ10.out; first | omega | exact Nat.le_refl _⟩, ⟨by (with_reducible repeat (first | refine kN ?_ _ | refine kD ?_ | refine kA ?_ _)); exact BK396.out⟩, ⟨by (with_reducible repeat (first | refine kN ?_ _ | refine kD ?_ | refine kA ?_ _)); exact BK397.out⟩, ⟨by (with_reducible repeat (first | refine kN ?_ _ | refine kD ?_ | refine kA ?_ _)); exact BK398.out⟩, ⟨by repeat (first | (with_reducible first | exact HB.out | apply bA | apply bN | apply b1 | refine bS ?_ GE396.out | refine bS ?_ GE397.out | refine bS ?_ GE398.out) | exact HB.out)⟩⟩
      ·rw [if_neg c52] at H
       have c52b0 : decide (t404 ≤ 0) = false := dF c52
       clear c52
       (first | rw [c52b0] | (simp only [i64_w, i32_w]; rw [c52b0]) | skip)
       by_cases c57 : t404 < 0
       ·rw [if_pos c57] at H
        have c57b0 : decide (t404 < 0) = true := dT c57
        clear c57
        by_cases c58 : t406 ≤ 0
        ·rw [if_pos c58] at H
         have c58b0 : decide (t406 ≤ 0) = true := dT c58
         clear c58
         have H' := Aside0.mk H
         clear H
         go_wp2
         go_meet
         case rel => exact ⟨_, ((t408 == 0)), (by first | rfl | (simp; done) | (simp [*]; done)), H', ⟨by have := HJ10.out; first | omega | exact Nat.le_refl _⟩, ⟨by (with_reducible repeat (first | refine kN ?_ _ | refine kD ?_ | refine kA ?_ _)); exact BK396.out⟩, ⟨by (with_reducible repeat (first | refine kN ?_ _ | refine kD ?_ | refine kA ?_ _)); exact BK397.out⟩, ⟨by (with_reducible repeat (first | refine kN ?_ _ | refine kD ?_ | refine kA ?_ _)); exact BK398.out⟩, ⟨by repeat (first | (with_reducible first | exact HB.out | apply bA | apply bN | apply b1 | refine bS ?_ GE396.out | refine bS ?_ GE397.out | refine bS ?_ GE398.out) | exact HB.out)⟩⟩
        ·rw [if_neg c58] at H
         have c58b0 : decide (t406 ≤ 0) = false := dF c58
         clear c58
         have H' := Aside0.mk H
         clear H
         go_wp2
         go_meet
         case rel => exact ⟨_, (false), (by first | rfl | (simp; done) | (simp [*]; done)), H', ⟨by have := HJ10.out; first | omega | exact Nat.le_refl _⟩, ⟨by (with_reducible repeat (first | refine kN ?_ _ | refine kD ?_ | refine kA ?_ _)); exact BK396.out⟩, ⟨by (with_reducible repeat (first | refine kN ?_ _ | refine kD ?_ | refine kA ?_ _)); exact BK397.out⟩, ⟨by (with_reducible repeat (first | refine kN ?_ _ | refine kD ?_ | refine kA ?_ _)); exact BK398.out⟩, ⟨by repeat (first | (with_reducible first | exact HB.out | apply bA | apply bN | apply b1 | refine bS ?_ GE396.out | refine bS ?_ GE397.out | refine bS ?_ GE398.out) | exact HB.out)⟩⟩
       ·rw [if_neg c57] at H
        have c57b0 : decide (t404 < 0) = false := dF c57
        clear c57
        have H' := Aside0.mk H
        clear H
        go_wp2
        go_meet
        case rel => exact ⟨_, (false), (by first | rfl | (simp; done) | (simp [*]; done)), H', ⟨by have := HJ10.out; first | omega | exact Nat.le_refl _⟩, ⟨by (with_reducible repeat (first | refine kN ?_ _ | refine kD ?_ | refine kA ?_ _)); exact BK396.out⟩, ⟨by (with_reducible repeat (first | refine kN ?_ _ | refine kD ?_ | refine kA ?_ _)); exact BK397.out⟩, ⟨by (with_reducible repeat (first | refine kN ?_ _ | refine kD ?_ | refine kA ?_ _)); exact BK398.out⟩, ⟨by repeat (first | (with_reducible first | exact HB.out | apply bA | apply bN | apply b1 | refine bS ?_ GE396.out | refine bS ?_ GE397.out | refine bS ?_ GE398.out) | exact HB.out)⟩⟩
     case rest =>
      clear HC51
      try clear c1
      try clear c2
      try clear p2
      try clear c3
      try clear c4
      try clear c5
      try clear c6
      try clear p6
      try clear c8
      try clear c10
      try clear c14
      try clear c16
      try clear c17
      try clear c19
      try clear c27
      try clear c38
      try clear c38b0
      try clear c38b1
      try clear c39
      try clear c39b0
      try clear c39b1
      try clear c40
      try clear c40b0
      try clear c40b1
      try clear c41
      try clear c41b0
      try clear c41b1
      try clear c42
      try clear c42b0
      try clear c43
      try clear c43b0
      try clear c44
      try clear c44b0
      try clear c44b1
      try clear c45
      try clear c46
      try clear c48
      try clear c50
      try clear c52
      try clear c52b0
      try clear c53
      try clear c53b0
      try clear c54
      try clear c54b0
      try clear c55
      try clear c55b0
      try clear c56
      try clear c56b0
      try clear c57
      try clear c57b0
      try clear c58
      try clear c58b0
      try clear hcz18_0
      try clear hcz18_1
      try clear hcz20_0
      try clear hcz20_1
      try clear hcz21_0
      try clear hcz21_1
      try clear hcz26_0
      try clear hcz26_1
      try clear hcz27_0
      try clear hcz27_1
      try clear hcz29_0
      try clear hcz29_1
      try clear hcz30_0
      try clear hcz30_1
      try clear hcz32_0
      try clear hcz32_1
      try clear hcz33_0
      try clear hcz33_1
      try clear hcz35_0
      try clear hcz35_1
      try clear hcz36_0
      try clear hcz36_1
      try clear hcz47_0
      try clear hcz47_1
      try clear hcz49_0
      try clear hcz49_1
      try clear hfz18_0
      try clear hfz18_1
      try clear hfz20_0
      try clear hfz20_1
      try clear hfz21_0
      try clear hfz21_1
      try clear hfz26_0
      try clear hfz26_1
      try clear hfz27_0
      try clear hfz27_1
      try clear hfz29_0
      try clear hfz29_1
      try clear hfz30_0
      try clear hfz30_1
      try clear hfz32_0
      try clear hfz32_1
      try clear hfz33_0
      try clear hfz33_1
      try clear hfz35_0
      try clear hfz35_1
      try clear hfz36_0
      try clear hfz36_1
      try clear hfz47_0
      try clear hfz47_1
      try clear hfz49_0
      try clear hfz49_1
      try clear p2
      try clear p6
      obtain ⟨kq, x113_50, rfl, HA, HJ50, BK396, BK397, BK398, HB⟩ := hcut
      cases kq with
      | zero => exact absurd HA.out (by simp [cohousinglaw01_RationalOrder.j1])
      | succ kj50 =>
       have H := HA.out
       clear HA
       simp only [cohousinglaw01_RationalOrder.j1] at H
       by_cases c59 : x113_50 = true
       ·subst c59
        have H1 : (none) = some r := by rw [if_pos rfl] at H; exact H
        clear H
        have H := H1
        clear H1
        exact absurd H (by simp)
       ·replace c59 := Bool.eq_false_iff.mpr c59
        subst c59
        have H1 : ((rational_Sub.f a0_0 a0_1 a1_0 a1_1).bind fun bt412 => (if bt412.2.2 = 0 then (if ((decide (bt412.1 < 0)) != (decide (t404 < 0))) = true then (cohousinglaw01_RationalOrder.j2 kj50 t399 t404 true a0_0 a0_1 a1_0 a1_1 a2_0 a2_1) else (cohousinglaw01_RationalOrder.j2 kj50 t399 t404 ((decide (bt412.1 > 0)) != (decide (t404 > 0))) a0_0 a0_1 a1_0 a1_1 a2_0 a2_1)) else (cohousinglaw01_RationalOrder.j2 kj50 t399 t404 false a0_0 a0_1 a1_0 a1_1 a2_0 a2_1))) = some r := by rw [if_neg (show ¬ (false = true) by decide)] at H; exact H
        clear H
        have H := H1
        clear H1
        replace H := Option.bind_eq_some_iff.mp H
        obtain ⟨⟨t412, t413, t414⟩, A600, H⟩ := H
        replace H : (if t414 = 0 then (if ((decide (t412 < 0)) != (decide (t404 < 0))) = true then (cohousinglaw01_RationalOrder.j2 kj50 t399 t404 true a0_0 a0_1 a1_0 a1_1 a2_0 a2_1) else (cohousinglaw01_RationalOrder.j2 kj50 t399 t404 ((decide (t412 > 0)) != (decide (t404 > 0))) a0_0 a0_1 a1_0 a1_1 a2_0 a2_1)) else (cohousinglaw01_RationalOrder.j2 kj50 t399 t404 false a0_0 a0_1 a1_0 a1_1 a2_0 a2_1)) = some r := H
        have A60 := Aside0.mk A600
        clear A600
        have HC61 := Aside0.mk H
        clear H
        have hnb62 := NB396_397.out
        have hnc62 := NB397_396.out
        have hnb63 := NB396_398.out
        have hnc63 := NB398_396.out
        have hcz64_0 : wc.cell? ⟨gb396, 0, none⟩ = some (.int .i64 a0_0) := (kC BK396.out 0).trans rfl
        have hcz64_1 : wc.cell? ⟨gb396, 1, none⟩ = some (.int .i64 a0_1) := (kC BK396.out 1).trans rfl
        have hfz64_0 := blk_frozen BK396.out 0
        have hfz64_1 := blk_frozen BK396.out 1
        have hnb65 := NB397_398.out
        have hnc65 := NB398_397.out
        have hcz66_0 : wc.cell? ⟨gb397, 0, none⟩ = some (.int .i64 a1_0) := (kC BK397.out 0).trans rfl
        have hcz66_1 : wc.cell? ⟨gb397, 1, none⟩ = some (.int .i64 a1_1) := (kC BK397.out 1).trans rfl
        have hfz66_0 := blk_frozen BK397.out 0
        have hfz66_1 := blk_frozen BK397.out 1
        go_upto_region 13 with (first | ((with_reducible refine gate_callee (f := 23) rfl ?_); refine goesL_ (some 117) rfl rfl Tryd.func23 (by kernel_rfl) rfl #[.agg #[.int .i64 a0_0, .int .i64 a0_1], .agg #[.int .i64 a1_0, .int .i64 a1_1]] rfl (by (try simp only [List.map_toArray, List.map_cons, List.map_nil]); first | done | rfl | (simp only [List.length_drop, List.length_take]; rfl)) ?_; (with_reducible refine (rational_Sub.calls a0_0 a0_1 a1_0 a1_1 t412 t413 t414 _ A60.out).mono ?_); rintro e w67 ⟨rfl, hb⟩; refine ⟨_, rfl, ?_⟩; have n0_ := Aside0.mk (kB (g := gb396) (o := .cells #[.int .i64 a0_0, .int .i64 a0_1] 24 (0, 0)) (by (with_reducible repeat (first | refine kN ?_ _ | refine kD ?_ | refine kA ?_ _)); exact BK396.out) hb); have n1_ := Aside0.mk (kB (g := gb397) (o := .cells #[.int .i64 a1_0, .int .i64 a1_1] 24 (0, 0)) (by (with_reducible repeat (first | refine kN ?_ _ | refine kD ?_ | refine kA ?_ _)); exact BK397.out) hb); have n2_ := Aside0.mk (kB (g := gb398) (o := .cells #[.int .i64 a2_0, .int .i64 a2_1] 24 (0, 0)) (by (with_reducible repeat (first | refine kN ?_ _ | refine kD ?_ | refine kA ?_ _)); exact BK398.out) hb); have n3_ := Aside0.mk (bT (by repeat (first | (with_reducible first | exact HB.out | apply bA | apply bN | apply b1 | refine bS ?_ GE396.out | refine bS ?_ GE397.out | refine bS ?_ GE398.out) | exact HB.out)) hb); clear BK396; clear BK397; clear BK398; clear HB; have BK396 := n0_; have BK397 := n1_; have BK398 := n2_; have HB := n3_; clear n0_ n1_ n2_ n3_; (try clear hb); (try clear hb2); (try clear hk); (try clear hi)) | ((with_reducible refine gate_dst (N := 16) rfl ?_); refine box_event ?hg (N := 16) ?hd (cs := #[.int .i64 0, .int .i64 0]) (t := 24) ?hr ?_; (case hd => rfl); (case hg => rfl); (case hr => first | (go_simp; done) | (go_simp; rfl)); intro gb415 hg w68 hbox hb; have n0_ := Aside0.mk (kB (g := gb396) (o := .cells #[.int .i64 a0_0, .int .i64 a0_1] 24 (0, 0)) (by (with_reducible repeat (first | refine kN ?_ _ | refine kD ?_ | refine kA ?_ _)); exact BK396.out) hb); have n1_ := Aside0.mk (kB (g := gb397) (o := .cells #[.int .i64 a1_0, .int .i64 a1_1] 24 (0, 0)) (by (with_reducible repeat (first | refine kN ?_ _ | refine kD ?_ | refine kA ?_ _)); exact BK397.out) hb); have n2_ := Aside0.mk (kB (g := gb398) (o := .cells #[.int .i64 a2_0, .int .i64 a2_1] 24 (0, 0)) (by (with_reducible repeat (first | refine kN ?_ _ | refine kD ?_ | refine kA ?_ _)); exact BK398.out) hb); have n3_ := Aside0.mk (bT (by repeat (first | (with_reducible first | exact HB.out | apply bA | apply bN | apply b1 | refine bS ?_ GE396.out | refine bS ?_ GE397.out | refine bS ?_ GE398.out) | exact HB.out)) hb); have n4_ := Aside0.mk (hbox); have n5_ := Aside0.mk ((by rw [hg]; exact (bZ (by repeat (first | (with_reducible first | exact HB.out | apply bA | apply bN | apply b1 | refine bS ?_ GE396.out | refine bS ?_ GE397.out | refine bS ?_ GE398.out) | exact HB.out))) : w.heap.size ≤ gb415)); have n6_ := Aside0.mk ((by rw [hg]; exact (bZ (by repeat (first | (with_reducible first | exact HB.out | apply bA | apply bN | apply b1 | refine bS ?_ GE396.out | refine bS ?_ GE397.out | refine bS ?_ GE398.out) | exact HB.out))) : w.heap.size ≤ gb415)); have n7_ := Aside0.mk ((by rw [hg]; exact Nat.ne_of_lt (blk_lt (g := gb396) (o := .cells #[.int .i64 a0_0, .int .i64 a0_1] 24 (0, 0)) (by (with_reducible repeat (first | refine kN ?_ _ | refine kD ?_ | refine kA ?_ _)); exact BK396.out)) : gb396 ≠ gb415)); have n8_ := Aside0.mk ((by rw [hg]; exact Nat.ne_of_gt (blk_lt (g := gb396) (o := .cells #[.int .i64 a0_0, .int .i64 a0_1] 24 (0, 0)) (by (with_reducible repeat (first | refine kN ?_ _ | refine kD ?_ | refine kA ?_ _)); exact BK396.out)) : gb415 ≠ gb396)); have n9_ := Aside0.mk ((by rw [hg]; exact Nat.ne_of_lt (blk_lt (g := gb397) (o := .cells #[.int .i64 a1_0, .int .i64 a1_1] 24 (0, 0)) (by (with_reducible repeat (first | refine kN ?_ _ | refine kD ?_ | refine kA ?_ _)); exact BK397.out)) : gb397 ≠ gb415)); have n10_ := Aside0.mk ((by rw [hg]; exact Nat.ne_of_gt (blk_lt (g := gb397) (o := .cells #[.int .i64 a1_0, .int .i64 a1_1] 24 (0, 0)) (by (with_reducible repeat (first | refine kN ?_ _ | refine kD ?_ | refine kA ?_ _)); exact BK397.out)) : gb415 ≠ gb397)); have n11_ := Aside0.mk ((by rw [hg]; exact Nat.ne_of_lt (blk_lt (g := gb398) (o := .cells #[.int .i64 a2_0, .int .i64 a2_1] 24 (0, 0)) (by (with_reducible repeat (first | refine kN ?_ _ | refine kD ?_ | refine kA ?_ _)); exact BK398.out)) : gb398 ≠ gb415)); have n12_ := Aside0.mk ((by rw [hg]; exact Nat.ne_of_gt (blk_lt (g := gb398) (o := .cells #[.int .i64 a2_0, .int .i64 a2_1] 24 (0, 0)) (by (with_reducible repeat (first | refine kN ?_ _ | refine kD ?_ | refine kA ?_ _)); exact BK398.out)) : gb415 ≠ gb398)); clear BK396; clear BK397; clear BK398; clear HB; have BK396 := n0_; have BK397 := n1_; have BK398 := n2_; have HB := n3_; have BK415 := n4_; have GW415 := n5_; have GE415 := n6_; have NB396_415 := n7_; have NB415_396 := n8_; have NB397_415 := n9_; have NB415_397 := n10_; have NB398_415 := n11_; have NB415_398 := n12_; clear n0_ n1_ n2_ n3_ n4_ n5_ n6_ n7_ n8_ n9_ n10_ n11_ n12_; clear hb hbox hg; have hnb69 := NB415_396.out; have hnc69 := NB396_415.out; have hnb70 := NB415_397.out; have hnc70 := NB397_415.out; have hnb71 := NB415_398.out; have hnc71 := NB398_415.out; have hcz72_0 : w68.cell? ⟨gb415, 0, none⟩ = some (.int .i64 0) := (kC BK415.out 0).trans rfl; have hcz72_1 : w68.cell? ⟨gb415, 1, none⟩ = some (.int .i64 0) := (kC BK415.out 1).trans rfl; have hfz72_0 := blk_frozen BK415.out 0; have hfz72_1 := blk_frozen BK415.out 1))
        (try simp only [Act.put, List.setIfInBounds_toArray, List.set_cons_zero, List.set_cons_succ])
        go_cut [137] (fun v137 wc => ∃ (kq : Nat) (x137_60 : Bool), v137 = .bool x137_60 ∧ Aside0 (cohousinglaw01_RationalOrder.j2 kq t399 t404 x137_60 a0_0 a0_1 a1_0 a1_1 a2_0 a2_1 = some r) ∧ Aside0 (kq ≤ kj50) ∧ Aside0 (wc.heap[gb396]? = some (.cells #[.int .i64 a0_0, .int .i64 a0_1] 24 (0, 0))) ∧ Aside0 (wc.heap[gb397]? = some (.cells #[.int .i64 a1_0, .int .i64 a1_1] 24 (0, 0))) ∧ Aside0 (wc.heap[gb398]? = some (.cells #[.int .i64 a2_0, .int .i64 a2_1] 24 (0, 0))) ∧ Aside0 (wc.heap[gb415]? = some (.cells #[.int .i64 t412, .int .i64 t413] 24 (0, 0))) ∧ Aside0 (Below w.heap.size w wc))
        case first =>
         have H := HC61.out
         clear HC61
         by_cases c73 : t414 = 0
         ·rw [if_pos c73] at H
          have c73b0 : (t414 == 0) = true := beq_iff_eq.mpr c73
          have c73b1 : (t414 != 0) = false := bne_eq_false_iff_eq.mpr c73
          clear c73
          (first | rw [c73b0] | (simp only [i64_w, i32_w]; rw [c73b0]) | skip)
          by_cases c74 : ((decide (t412 < 0)) != (decide (t404 < 0))) = true
          ·rw [if_pos c74] at H
           have c74b0 : ((decide (t412 < 0)) != (decide (t404 < 0))) = true := c74
           (try (have c74b1 : decide ((decide (t412 < 0)) = (decide (t404 < 0))) = false := by simpa using c74))
           (try (have c74b2 : ((decide (t412 < 0)) == (decide (t404 < 0))) = false := by simpa using c74))
           (try (have c74b3 : ¬ ((decide (t412 < 0)) = (decide (t404 < 0))) := by simpa using c74))
           clear c74
           have H' := Aside0.mk H
           clear H
           have hnb75 := NB415_396.out
           have hnc75 := NB396_415.out
           have hnb76 := NB415_397.out
           have hnc76 := NB397_415.out
           have hnb77 := NB415_398.out
           have hnc77 := NB398_415.out
           have hcz78_0 : w68.cell? ⟨gb415, 0, none⟩ = some (.int .i64 0) := (kC BK415.out 0).trans rfl
           have hcz78_1 : w68.cell? ⟨gb415, 1, none⟩ = some (.int .i64 0) := (kC BK415.out 1).trans rfl
           have hfz78_0 := blk_frozen BK415.out 0
           have hfz78_1 := blk_frozen BK415.out 1
           go_wp2
           go_meet
           case rel => exact ⟨_, (true), (by first | rfl | (simp; done) | (simp [*]; done)), H', ⟨by have := HJ10.out; have := HJ50.out; first | omega | exact Nat.le_refl _⟩, ⟨by (with_reducible repeat (first | refine kN ?_ _ | refine kD ?_ | refine kA ?_ _)); refine kF ?_ NB396_415.out _; (with_reducible repeat (first | refine kN ?_ _ | refine kD ?_ | refine kA ?_ _)); refine kF ?_ NB396_415.out _; (with_reducible repeat (first | refine kN ?_ _ | refine kD ?_ | refine kA ?_ _)); exact BK396.out⟩, ⟨by (with_reducible repeat (first | refine kN ?_ _ | refine kD ?_ | refine kA ?_ _)); refine kF ?_ NB397_415.out _; (with_reducible repeat (first | refine kN ?_ _ | refine kD ?_ | refine kA ?_ _)); refine kF ?_ NB397_415.out _; (with_reducible repeat (first | refine kN ?_ _ | refine kD ?_ | refine kA ?_ _)); exact BK397.out⟩, ⟨by (with_reducible repeat (first | refine kN ?_ _ | refine kD ?_ | refine kA ?_ _)); refine kF ?_ NB398_415.out _; (with_reducible repeat (first | refine kN ?_ _ | refine kD ?_ | refine kA ?_ _)); refine kF ?_ NB398_415.out _; (with_reducible repeat (first | refine kN ?_ _ | refine kD ?_ | refine kA ?_ _)); exact BK398.out⟩, ⟨by (with_reducible repeat (first | refine kN ?_ _ | refine kD ?_ | refine kA ?_ _)); refine blk_put (cs := #[.int .i64 t412, .int .i64 0]) ?_ 1 _ rfl; (with_reducible repeat (first | refine kN ?_ _ | refine kD ?_ | refine kA ?_ _)); refine blk_put (cs := #[.int .i64 0, .int .i64 0]) ?_ 0 _ rfl; (with_reducible repeat (first | refine kN ?_ _ | refine kD ?_ | refine kA ?_ _)); exact BK415.out⟩, ⟨by repeat (first | (with_reducible first | exact HB.out | apply bA | apply bN | apply b1 | refine bS ?_ GE396.out | refine bS ?_ GE397.out | refine bS ?_ GE398.out | refine bS ?_ GE415.out) | exact HB.out)⟩⟩
          ·rw [if_neg c74] at H
           have c74b0 : ((decide (t412 < 0)) != (decide (t404 < 0))) = false := by simpa using c74
           (try (have c74b1 : decide ((decide (t412 < 0)) = (decide (t404 < 0))) = true := by simpa using c74))
           (try (have c74b2 : ((decide (t412 < 0)) == (decide (t404 < 0))) = true := by simpa using c74))
           clear c74
           have H' := Aside0.mk H
           clear H
           have hnb79 := NB415_396.out
           have hnc79 := NB396_415.out
           have hnb80 := NB415_397.out
           have hnc80 := NB397_415.out
           have hnb81 := NB415_398.out
           have hnc81 := NB398_415.out
           have hcz82_0 : w68.cell? ⟨gb415, 0, none⟩ = some (.int .i64 0) := (kC BK415.out 0).trans rfl
           have hcz82_1 : w68.cell? ⟨gb415, 1, none⟩ = some (.int .i64 0) := (kC BK415.out 1).trans rfl
           have hfz82_0 := blk_frozen BK415.out 0
           have hfz82_1 := blk_frozen BK415.out 1
           go_wp2
           go_meet
           case rel => exact ⟨_, (((decide (t412 > 0)) != (decide (t404 > 0)))), (by first | rfl | (simp; done) | (simp [*]; done)), H', ⟨by have := HJ10.out; have := HJ50.out; first | omega | exact Nat.le_refl _⟩, ⟨by (with_reducible repeat (first | refine kN ?_ _ | refine kD ?_ | refine kA ?_ _)); refine kF ?_ NB396_415.out _; (with_reducible repeat (first | refine kN ?_ _ | refine kD ?_ | refine kA ?_ _)); refine kF ?_ NB396_415.out _; (with_reducible repeat (first | refine kN ?_ _ | refine kD ?_ | refine kA ?_ _)); exact BK396.out⟩, ⟨by (with_reducible repeat (first | refine kN ?_ _ | refine kD ?_ | refine kA ?_ _)); refine kF ?_ NB397_415.out _; (with_reducible repeat (first | refine kN ?_ _ | refine kD ?_ | refine kA ?_ _)); refine kF ?_ NB397_415.out _; (with_reducible repeat (first | refine kN ?_ _ | refine kD ?_ | refine kA ?_ _)); exact BK397.out⟩, ⟨by (with_reducible repeat (first | refine kN ?_ _ | refine kD ?_ | refine kA ?_ _)); refine kF ?_ NB398_415.out _; (with_reducible repeat (first | refine kN ?_ _ | refine kD ?_ | refine kA ?_ _)); refine kF ?_ NB398_415.out _; (with_reducible repeat (first | refine kN ?_ _ | refine kD ?_ | refine kA ?_ _)); exact BK398.out⟩, ⟨by (with_reducible repeat (first | refine kN ?_ _ | refine kD ?_ | refine kA ?_ _)); refine blk_put (cs := #[.int .i64 t412, .int .i64 0]) ?_ 1 _ rfl; (with_reducible repeat (first | refine kN ?_ _ | refine kD ?_ | refine kA ?_ _)); refine blk_put (cs := #[.int .i64 0, .int .i64 0]) ?_ 0 _ rfl; (with_reducible repeat (first | refine kN ?_ _ | refine kD ?_ | refine kA ?_ _)); exact BK415.out⟩, ⟨by repeat (first | (with_reducible first | exact HB.out | apply bA | apply bN | apply b1 | refine bS ?_ GE396.out | refine bS ?_ GE397.out | refine bS ?_ GE398.out | refine bS ?_ GE415.out) | exact HB.out)⟩⟩
         ·rw [if_neg c73] at H
          have c73b0 : (t414 == 0) = false := beq_eq_false_iff_ne.mpr c73
          have c73b1 : (t414 != 0) = true := bne_iff_ne.mpr c73
          (first | rw [c73b0] | (simp only [i64_w, i32_w]; rw [c73b0]) | skip)
          have H' := Aside0.mk H
          clear H
          go_wp2
          go_meet
          case rel => exact ⟨_, (false), (by first | rfl | (simp; done) | (simp [*]; done)), H', ⟨by have := HJ10.out; have := HJ50.out; first | omega | exact Nat.le_refl _⟩, ⟨by (with_reducible repeat (first | refine kN ?_ _ | refine kD ?_ | refine kA ?_ _)); refine kF ?_ NB396_415.out _; (with_reducible repeat (first | refine kN ?_ _ | refine kD ?_ | refine kA ?_ _)); refine kF ?_ NB396_415.out _; (with_reducible repeat (first | refine kN ?_ _ | refine kD ?_ | refine kA ?_ _)); exact BK396.out⟩, ⟨by (with_reducible repeat (first | refine kN ?_ _ | refine kD ?_ | refine kA ?_ _)); refine kF ?_ NB397_415.out _; (with_reducible repeat (first | refine kN ?_ _ | refine kD ?_ | refine kA ?_ _)); refine kF ?_ NB397_415.out _; (with_reducible repeat (first | refine kN ?_ _ | refine kD ?_ | refine kA ?_ _)); exact BK397.out⟩, ⟨by (with_reducible repeat (first | refine kN ?_ _ | refine kD ?_ | refine kA ?_ _)); refine kF ?_ NB398_415.out _; (with_reducible repeat (first | refine kN ?_ _ | refine kD ?_ | refine kA ?_ _)); refine kF ?_ NB398_415.out _; (with_reducible repeat (first | refine kN ?_ _ | refine kD ?_ | refine kA ?_ _)); exact BK398.out⟩, ⟨by (with_reducible repeat (first | refine kN ?_ _ | refine kD ?_ | refine kA ?_ _)); refine blk_put (cs := #[.int .i64 t412, .int .i64 0]) ?_ 1 _ rfl; (with_reducible repeat (first | refine kN ?_ _ | refine kD ?_ | refine kA ?_ _)); refine blk_put (cs := #[.int .i64 0, .int .i64 0]) ?_ 0 _ rfl; (with_reducible repeat (first | refine kN ?_ _ | refine kD ?_ | refine kA ?_ _)); exact BK415.out⟩, ⟨by repeat (first | (with_reducible first | exact HB.out | apply bA | apply bN | apply b1 | refine bS ?_ GE396.out | refine bS ?_ GE397.out | refine bS ?_ GE398.out | refine bS ?_ GE415.out) | exact HB.out)⟩⟩
        case rest =>
         clear HC61
         try clear c1
         try clear c2
         try clear p2
         try clear c3
         try clear c4
         try clear c5
         try clear c6
         try clear p6
         try clear c7
         try clear c8
         try clear c10
         try clear c14
         try clear c16
         try clear c17
         try clear c19
         try clear c23
         try clear c27
         try clear c38
         try clear c38b0
         try clear c38b1
         try clear c39
         try clear c39b0
         try clear c39b1
         try clear c40
         try clear c40b0
         try clear c40b1
         try clear c41
         try clear c41b0
         try clear c41b1
         try clear c42
         try clear c42b0
         try clear c43
         try clear c43b0
         try clear c44
         try clear c44b0
         try clear c44b1
         try clear c45
         try clear c46
         try clear c48
         try clear c50
         try clear c52
         try clear c52b0
         try clear c53
         try clear c53b0
         try clear c54
         try clear c54b0
         try clear c55
         try clear c55b0
         try clear c56
         try clear c56b0
         try clear c57
         try clear c57b0
         try clear c58
         try clear c58b0
         try clear c59
         try clear c62
         try clear c63
         try clear p64
         try clear c65
         try clear c69
         try clear c70
         try clear c71
         try clear c73
         try clear c73b0
         try clear c73b1
         try clear c74
         try clear c74b0
         try clear c74b1
         try clear c74b2
         try clear c75
         try clear c76
         try clear c77
         try clear c79
         try clear c80
         try clear c81
         try clear hcz18_0
         try clear hcz18_1
         try clear hcz20_0
         try clear hcz20_1
         try clear hcz21_0
         try clear hcz21_1
         try clear hcz26_0
         try clear hcz26_1
         try clear hcz27_0
         try clear hcz27_1
         try clear hcz29_0
         try clear hcz29_1
         try clear hcz30_0
         try clear hcz30_1
         try clear hcz32_0
         try clear hcz32_1
         try clear hcz33_0
         try clear hcz33_1
         try clear hcz35_0
         try clear hcz35_1
         try clear hcz36_0
         try clear hcz36_1
         try clear hcz47_0
         try clear hcz47_1
         try clear hcz49_0
         try clear hcz49_1
         try clear hcz64_0
         try clear hcz64_1
         try clear hcz66_0
         try clear hcz66_1
         try clear hcz72_0
         try clear hcz72_1
         try clear hcz78_0
         try clear hcz78_1
         try clear hcz82_0
         try clear hcz82_1
         try clear hfz18_0
         try clear hfz18_1
         try clear hfz20_0
         try clear hfz20_1
         try clear hfz21_0
         try clear hfz21_1
         try clear hfz26_0
         try clear hfz26_1
         try clear hfz27_0
         try clear hfz27_1
         try clear hfz29_0
         try clear hfz29_1
         try clear hfz30_0
         try clear hfz30_1
         try clear hfz32_0
         try clear hfz32_1
         try clear hfz33_0
         try clear hfz33_1
         try clear hfz35_0
         try clear hfz35_1
         try clear hfz36_0
         try clear hfz36_1
         try clear hfz47_0
         try clear hfz47_1
         try clear hfz49_0
         try clear hfz49_1
         try clear hfz64_0
         try clear hfz64_1
         try clear hfz66_0
         try clear hfz66_1
         try clear hfz72_0
         try clear hfz72_1
         try clear hfz78_0
         try clear hfz78_1
         try clear hfz82_0
         try clear hfz82_1
         try clear p2
         try clear p6
         obtain ⟨kq, x137_60, rfl, HA, HJ60, BK396, BK397, BK398, BK415, HB⟩ := hcut
         cases kq with
         | zero => exact absurd HA.out (by simp [cohousinglaw01_RationalOrder.j2])
         | succ kj60 =>
          have H := HA.out
          clear HA
          simp only [cohousinglaw01_RationalOrder.j2] at H
          by_cases c83 : x137_60 = true
          ·subst c83
           have H1 : (none) = some r := by rw [if_pos rfl] at H; exact H
           clear H
           have H := H1
           clear H1
           exact absurd H (by simp)
          ·replace c83 := Bool.eq_false_iff.mpr c83
           subst c83
           have H1 : ((rational_Add.f a0_0 a0_1 a2_0 a2_1).bind fun bt416 => ((rational_Add.f a1_0 a1_1 a2_0 a2_1).bind fun bt420 => (if bt416.2.2 = 0 then (if bt420.2.2 = 0 then ((rational_Compare.f kj60 bt416.1 bt416.2.1 bt420.1 bt420.2.1).bind fun bt424 => (if t399 = true then (if bt424.2 = 0 then (if bt424.1 = t404 then (some true) else (none)) else (none)) else (none))) else (if t399 = true then (some true) else (none))) else (if t399 = true then (some true) else (none))))) = some r := by rw [if_neg (show ¬ (false = true) by decide)] at H; exact H
           clear H
           have H := H1
           clear H1
           replace H := Option.bind_eq_some_iff.mp H
           obtain ⟨⟨t416, t417, t418⟩, A840, H⟩ := H
           replace H : ((rational_Add.f a1_0 a1_1 a2_0 a2_1).bind fun bt420 => (if t418 = 0 then (if bt420.2.2 = 0 then ((rational_Compare.f kj60 t416 t417 bt420.1 bt420.2.1).bind fun bt424 => (if t399 = true then (if bt424.2 = 0 then (if bt424.1 = t404 then (some true) else (none)) else (none)) else (none))) else (if t399 = true then (some true) else (none))) else (if t399 = true then (some true) else (none)))) = some r := H
           have A84 := Aside0.mk A840
           clear A840
           replace H := Option.bind_eq_some_iff.mp H
           obtain ⟨⟨t420, t421, t422⟩, A850, H⟩ := H
           replace H : (if t418 = 0 then (if t422 = 0 then ((rational_Compare.f kj60 t416 t417 t420 t421).bind fun bt424 => (if t399 = true then (if bt424.2 = 0 then (if bt424.1 = t404 then (some true) else (none)) else (none)) else (none))) else (if t399 = true then (some true) else (none))) else (if t399 = true then (some true) else (none))) = some r := H
           have A85 := Aside0.mk A850
           clear A850
           by_cases c86 : t418 = 0
           ·rw [if_pos c86] at H
            have c86b0 : (t418 == 0) = true := beq_iff_eq.mpr c86
            have c86b1 : (t418 != 0) = false := bne_eq_false_iff_eq.mpr c86
            clear c86
            by_cases c87 : t422 = 0
            ·rw [if_pos c87] at H
             have c87b0 : (t422 == 0) = true := beq_iff_eq.mpr c87
             have c87b1 : (t422 != 0) = false := bne_eq_false_iff_eq.mpr c87
             clear c87
             replace H := Option.bind_eq_some_iff.mp H
             obtain ⟨⟨t424, t425⟩, A880, H⟩ := H
             replace H : (if t399 = true then (if t425 = 0 then (if t424 = t404 then (some true) else (none)) else (none)) else (none)) = some r := H
             have A88 := Aside0.mk A880
             clear A880
             by_cases c89 : t399 = true
             ·subst c89
              have H1 : (if t425 = 0 then (if t424 = t404 then (some true) else (none)) else (none)) = some r := by rw [if_pos rfl] at H; exact H
              clear H
              have H := H1
              clear H1
              by_cases c90 : t425 = 0
              ·rw [if_pos c90] at H
               have c90b0 : (t425 == 0) = true := beq_iff_eq.mpr c90
               have c90b1 : (t425 != 0) = false := bne_eq_false_iff_eq.mpr c90
               clear c90
               by_cases c91 : t424 = t404
               ·rw [if_pos c91] at H
                have c91b0 : (t424 == t404) = true := beq_iff_eq.mpr c91
                have c91b1 : (t424 != t404) = false := bne_eq_false_iff_eq.mpr c91
                clear c91
                obtain rfl := Option.some.inj H
                have hnb92 := NB396_397.out
                have hnc92 := NB397_396.out
                have hnb93 := NB396_398.out
                have hnc93 := NB398_396.out
                have hnb94 := NB396_415.out
                have hnc94 := NB415_396.out
                have hcz95_0 : wc.cell? ⟨gb396, 0, none⟩ = some (.int .i64 a0_0) := (kC BK396.out 0).trans rfl
                have hcz95_1 : wc.cell? ⟨gb396, 1, none⟩ = some (.int .i64 a0_1) := (kC BK396.out 1).trans rfl
                have hfz95_0 := blk_frozen BK396.out 0
                have hfz95_1 := blk_frozen BK396.out 1
                have hnb96 := NB398_397.out
                have hnc96 := NB397_398.out
                have hnb97 := NB398_415.out
                have hnc97 := NB415_398.out
                have hcz98_0 : wc.cell? ⟨gb398, 0, none⟩ = some (.int .i64 a2_0) := (kC BK398.out 0).trans rfl
                have hcz98_1 : wc.cell? ⟨gb398, 1, none⟩ = some (.int .i64 a2_1) := (kC BK398.out 1).trans rfl
                have hfz98_0 := blk_frozen BK398.out 0
                have hfz98_1 := blk_frozen BK398.out 1
                go_wp2_with (first | ((with_reducible refine gate_callee (f := 17) rfl ?_); refine goesL_ (some 141) rfl rfl Tryd.func17 (by kernel_rfl) rfl #[.agg #[.int .i64 a0_0, .int .i64 a0_1], .agg #[.int .i64 a2_0, .int .i64 a2_1]] rfl (by (try simp only [List.map_toArray, List.map_cons, List.map_nil]); first | done | rfl | (simp only [List.length_drop, List.length_take]; rfl)) ?_; (with_reducible refine (rational_Add.calls a0_0 a0_1 a2_0 a2_1 t416 t417 t418 _ A84.out).mono ?_); rintro e w99 ⟨rfl, hb⟩; refine ⟨_, rfl, ?_⟩; have n0_ := Aside0.mk (kB (g := gb396) (o := .cells #[.int .i64 a0_0, .int .i64 a0_1] 24 (0, 0)) (by (with_reducible repeat (first | refine kN ?_ _ | refine kD ?_ | refine kA ?_ _)); exact BK396.out) hb); have n1_ := Aside0.mk (kB (g := gb397) (o := .cells #[.int .i64 a1_0, .int .i64 a1_1] 24 (0, 0)) (by (with_reducible repeat (first | refine kN ?_ _ | refine kD ?_ | refine kA ?_ _)); exact BK397.out) hb); have n2_ := Aside0.mk (kB (g := gb398) (o := .cells #[.int .i64 a2_0, .int .i64 a2_1] 24 (0, 0)) (by (with_reducible repeat (first | refine kN ?_ _ | refine kD ?_ | refine kA ?_ _)); exact BK398.out) hb); have n3_ := Aside0.mk (kB (g := gb415) (o := .cells #[.int .i64 t412, .int .i64 t413] 24 (0, 0)) (by (with_reducible repeat (first | refine kN ?_ _ | refine kD ?_ | refine kA ?_ _)); exact BK415.out) hb); have n4_ := Aside0.mk (bT (by repeat (first | (with_reducible first | exact HB.out | apply bA | apply bN | apply b1 | refine bS ?_ GE396.out | refine bS ?_ GE397.out | refine bS ?_ GE398.out | refine bS ?_ GE415.out) | exact HB.out)) hb); clear BK396; clear BK397; clear BK398; clear BK415; clear HB; have BK396 := n0_; have BK397 := n1_; have BK398 := n2_; have BK415 := n3_; have HB := n4_; clear n0_ n1_ n2_ n3_ n4_; (try clear hb); (try clear hb2); (try clear hk); (try clear hi)) | ((with_reducible refine gate_dst (N := 18) rfl ?_); refine box_event ?hg (N := 18) ?hd (cs := #[.int .i64 0, .int .i64 0]) (t := 24) ?hr ?_; (case hd => rfl); (case hg => rfl); (case hr => first | (go_simp; done) | (go_simp; rfl)); intro gb419 hg w100 hbox hb; have n0_ := Aside0.mk (kB (g := gb396) (o := .cells #[.int .i64 a0_0, .int .i64 a0_1] 24 (0, 0)) (by (with_reducible repeat (first | refine kN ?_ _ | refine kD ?_ | refine kA ?_ _)); exact BK396.out) hb); have n1_ := Aside0.mk (kB (g := gb397) (o := .cells #[.int .i64 a1_0, .int .i64 a1_1] 24 (0, 0)) (by (with_reducible repeat (first | refine kN ?_ _ | refine kD ?_ | refine kA ?_ _)); exact BK397.out) hb); have n2_ := Aside0.mk (kB (g := gb398) (o := .cells #[.int .i64 a2_0, .int .i64 a2_1] 24 (0, 0)) (by (with_reducible repeat (first | refine kN ?_ _ | refine kD ?_ | refine kA ?_ _)); exact BK398.out) hb); have n3_ := Aside0.mk (kB (g := gb415) (o := .cells #[.int .i64 t412, .int .i64 t413] 24 (0, 0)) (by (with_reducible repeat (first | refine kN ?_ _ | refine kD ?_ | refine kA ?_ _)); exact BK415.out) hb); have n4_ := Aside0.mk (bT (by repeat (first | (with_reducible first | exact HB.out | apply bA | apply bN | apply b1 | refine bS ?_ GE396.out | refine bS ?_ GE397.out | refine bS ?_ GE398.out | refine bS ?_ GE415.out) | exact HB.out)) hb); have n5_ := Aside0.mk (hbox); have n6_ := Aside0.mk ((by rw [hg]; exact (bZ (by repeat (first | (with_reducible first | exact HB.out | apply bA | apply bN | apply b1 | refine bS ?_ GE396.out | refine bS ?_ GE397.out | refine bS ?_ GE398.out | refine bS ?_ GE415.out) | exact HB.out))) : w.heap.size ≤ gb419)); have n7_ := Aside0.mk ((by rw [hg]; exact (bZ (by repeat (first | (with_reducible first | exact HB.out | apply bA | apply bN | apply b1 | refine bS ?_ GE396.out | refine bS ?_ GE397.out | refine bS ?_ GE398.out | refine bS ?_ GE415.out) | exact HB.out))) : w.heap.size ≤ gb419)); have n8_ := Aside0.mk ((by rw [hg]; exact Nat.ne_of_lt (blk_lt (g := gb396) (o := .cells #[.int .i64 a0_0, .int .i64 a0_1] 24 (0, 0)) (by (with_reducible repeat (first | refine kN ?_ _ | refine kD ?_ | refine kA ?_ _)); exact BK396.out)) : gb396 ≠ gb419)); have n9_ := Aside0.mk ((by rw [hg]; exact Nat.ne_of_gt (blk_lt (g := gb396) (o := .cells #[.int .i64 a0_0, .int .i64 a0_1] 24 (0, 0)) (by (with_reducible repeat (first | refine kN ?_ _ | refine kD ?_ | refine kA ?_ _)); exact BK396.out)) : gb419 ≠ gb396)); have n10_ := Aside0.mk ((by rw [hg]; exact Nat.ne_of_lt (blk_lt (g := gb397) (o := .cells #[.int .i64 a1_0, .int .i64 a1_1] 24 (0, 0)) (by (with_reducible repeat (first | refine kN ?_ _ | refine kD ?_ | refine kA ?_ _)); exact BK397.out)) : gb397 ≠ gb419)); have n11_ := Aside0.mk ((by rw [hg]; exact Nat.ne_of_gt (blk_lt (g := gb397) (o := .cells #[.int .i64 a1_0, .int .i64 a1_1] 24 (0, 0)) (by (with_reducible repeat (first | refine kN ?_ _ | refine kD ?_ | refine kA ?_ _)); exact BK397.out)) : gb419 ≠ gb397)); have n12_ := Aside0.mk ((by rw [hg]; exact Nat.ne_of_lt (blk_lt (g := gb398) (o := .cells #[.int .i64 a2_0, .int .i64 a2_1] 24 (0, 0)) (by (with_reducible repeat (first | refine kN ?_ _ | refine kD ?_ | refine kA ?_ _)); exact BK398.out)) : gb398 ≠ gb419)); have n13_ := Aside0.mk ((by rw [hg]; exact Nat.ne_of_gt (blk_lt (g := gb398) (o := .cells #[.int .i64 a2_0, .int .i64 a2_1] 24 (0, 0)) (by (with_reducible repeat (first | refine kN ?_ _ | refine kD ?_ | refine kA ?_ _)); exact BK398.out)) : gb419 ≠ gb398)); have n14_ := Aside0.mk ((by rw [hg]; exact Nat.ne_of_lt (blk_lt (g := gb415) (o := .cells #[.int .i64 t412, .int .i64 t413] 24 (0, 0)) (by (with_reducible repeat (first | refine kN ?_ _ | refine kD ?_ | refine kA ?_ _)); exact BK415.out)) : gb415 ≠ gb419)); have n15_ := Aside0.mk ((by rw [hg]; exact Nat.ne_of_gt (blk_lt (g := gb415) (o := .cells #[.int .i64 t412, .int .i64 t413] 24 (0, 0)) (by (with_reducible repeat (first | refine kN ?_ _ | refine kD ?_ | refine kA ?_ _)); exact BK415.out)) : gb419 ≠ gb415)); clear BK396; clear BK397; clear BK398; clear BK415; clear HB; have BK396 := n0_; have BK397 := n1_; have BK398 := n2_; have BK415 := n3_; have HB := n4_; have BK419 := n5_; have GW419 := n6_; have GE419 := n7_; have NB396_419 := n8_; have NB419_396 := n9_; have NB397_419 := n10_; have NB419_397 := n11_; have NB398_419 := n12_; have NB419_398 := n13_; have NB415_419 := n14_; have NB419_415 := n15_; clear n0_ n1_ n2_ n3_ n4_ n5_ n6_ n7_ n8_ n9_ n10_ n11_ n12_ n13_ n14_ n15_; clear hb hbox hg; have hnb101 := NB419_396.out; have hnc101 := NB396_419.out; have hnb102 := NB419_397.out; have hnc102 := NB397_419.out; have hnb103 := NB419_398.out; have hnc103 := NB398_419.out; have hnb104 := NB419_415.out; have hnc104 := NB415_419.out; have hcz105_0 : w100.cell? ⟨gb419, 0, none⟩ = some (.int .i64 0) := (kC BK419.out 0).trans rfl; have hcz105_1 : w100.cell? ⟨gb419, 1, none⟩ = some (.int .i64 0) := (kC BK419.out 1).trans rfl; have hfz105_0 := blk_frozen BK419.out 0; have hfz105_1 := blk_frozen BK419.out 1; have hnb106 := NB397_415.out; have hnc106 := NB415_397.out; have hcz107_0 : w100.cell? ⟨gb397, 0, none⟩ = some (.int .i64 a1_0) := (kC BK397.out 0).trans rfl; have hcz107_1 : w100.cell? ⟨gb397, 1, none⟩ = some (.int .i64 a1_1) := (kC BK397.out 1).trans rfl; have hfz107_0 := blk_frozen BK397.out 0; have hfz107_1 := blk_frozen BK397.out 1; have hcz108_0 : w100.cell? ⟨gb398, 0, none⟩ = some (.int .i64 a2_0) := (kC BK398.out 0).trans rfl; have hcz108_1 : w100.cell? ⟨gb398, 1, none⟩ = some (.int .i64 a2_1) := (kC BK398.out 1).trans rfl; have hfz108_0 := blk_frozen BK398.out 0; have hfz108_1 := blk_frozen BK398.out 1) | ((with_reducible refine gate_callee (f := 17) rfl ?_); refine goesL_ (some 147) rfl rfl Tryd.func17 (by kernel_rfl) rfl #[.agg #[.int .i64 a1_0, .int .i64 a1_1], .agg #[.int .i64 a2_0, .int .i64 a2_1]] rfl (by (try simp only [List.map_toArray, List.map_cons, List.map_nil]); first | done | rfl | (simp only [List.length_drop, List.length_take]; rfl)) ?_; (with_reducible refine (rational_Add.calls a1_0 a1_1 a2_0 a2_1 t420 t421 t422 _ A85.out).mono ?_); rintro e w109 ⟨rfl, hb⟩; refine ⟨_, rfl, ?_⟩; have n0_ := Aside0.mk (kB (g := gb396) (o := .cells #[.int .i64 a0_0, .int .i64 a0_1] 24 (0, 0)) (by (with_reducible repeat (first | refine kN ?_ _ | refine kD ?_ | refine kA ?_ _)); refine kF ?_ NB396_419.out _; (with_reducible repeat (first | refine kN ?_ _ | refine kD ?_ | refine kA ?_ _)); refine kF ?_ NB396_419.out _; (with_reducible repeat (first | refine kN ?_ _ | refine kD ?_ | refine kA ?_ _)); exact BK396.out) hb); have n1_ := Aside0.mk (kB (g := gb397) (o := .cells #[.int .i64 a1_0, .int .i64 a1_1] 24 (0, 0)) (by (with_reducible repeat (first | refine kN ?_ _ | refine kD ?_ | refine kA ?_ _)); refine kF ?_ NB397_419.out _; (with_reducible repeat (first | refine kN ?_ _ | refine kD ?_ | refine kA ?_ _)); refine kF ?_ NB397_419.out _; (with_reducible repeat (first | refine kN ?_ _ | refine kD ?_ | refine kA ?_ _)); exact BK397.out) hb); have n2_ := Aside0.mk (kB (g := gb398) (o := .cells #[.int .i64 a2_0, .int .i64 a2_1] 24 (0, 0)) (by (with_reducible repeat (first | refine kN ?_ _ | refine kD ?_ | refine kA ?_ _)); refine kF ?_ NB398_419.out _; (with_reducible repeat (first | refine kN ?_ _ | refine kD ?_ | refine kA ?_ _)); refine kF ?_ NB398_419.out _; (with_reducible repeat (first | refine kN ?_ _ | refine kD ?_ | refine kA ?_ _)); exact BK398.out) hb); have n3_ := Aside0.mk (kB (g := gb415) (o := .cells #[.int .i64 t412, .int .i64 t413] 24 (0, 0)) (by (with_reducible repeat (first | refine kN ?_ _ | refine kD ?_ | refine kA ?_ _)); refine kF ?_ NB415_419.out _; (with_reducible repeat (first | refine kN ?_ _ | refine kD ?_ | refine kA ?_ _)); refine kF ?_ NB415_419.out _; (with_reducible repeat (first | refine kN ?_ _ | refine kD ?_ | refine kA ?_ _)); exact BK415.out) hb); have n4_ := Aside0.mk (kB (g := gb419) (o := .cells #[.int .i64 t416, .int .i64 t417] 24 (0, 0)) (by (with_reducible repeat (first | refine kN ?_ _ | refine kD ?_ | refine kA ?_ _)); refine blk_put (cs := #[.int .i64 t416, .int .i64 0]) ?_ 1 _ rfl; (with_reducible repeat (first | refine kN ?_ _ | refine kD ?_ | refine kA ?_ _)); refine blk_put (cs := #[.int .i64 0, .int .i64 0]) ?_ 0 _ rfl; (with_reducible repeat (first | refine kN ?_ _ | refine kD ?_ | refine kA ?_ _)); exact BK419.out) hb); have n5_ := Aside0.mk (bT (by repeat (first | (with_reducible first | exact HB.out | apply bA | apply bN | apply b1 | refine bS ?_ GE396.out | refine bS ?_ GE397.out | refine bS ?_ GE398.out | refine bS ?_ GE415.out | refine bS ?_ GE419.out) | exact HB.out)) hb); clear BK396; clear BK397; clear BK398; clear BK415; clear BK419; clear HB; have BK396 := n0_; have BK397 := n1_; have BK398 := n2_; have BK415 := n3_; have BK419 := n4_; have HB := n5_; clear n0_ n1_ n2_ n3_ n4_ n5_; (try clear hb); (try clear hb2); (try clear hk); (try clear hi)) | ((with_reducible refine gate_dst (N := 20) rfl ?_); refine box_event ?hg (N := 20) ?hd (cs := #[.int .i64 0, .int .i64 0]) (t := 24) ?hr ?_; (case hd => rfl); (case hg => rfl); (case hr => first | (go_simp; done) | (go_simp; rfl)); intro gb423 hg w110 hbox hb; have n0_ := Aside0.mk (kB (g := gb396) (o := .cells #[.int .i64 a0_0, .int .i64 a0_1] 24 (0, 0)) (by (with_reducible repeat (first | refine kN ?_ _ | refine kD ?_ | refine kA ?_ _)); exact BK396.out) hb); have n1_ := Aside0.mk (kB (g := gb397) (o := .cells #[.int .i64 a1_0, .int .i64 a1_1] 24 (0, 0)) (by (with_reducible repeat (first | refine kN ?_ _ | refine kD ?_ | refine kA ?_ _)); exact BK397.out) hb); have n2_ := Aside0.mk (kB (g := gb398) (o := .cells #[.int .i64 a2_0, .int .i64 a2_1] 24 (0, 0)) (by (with_reducible repeat (first | refine kN ?_ _ | refine kD ?_ | refine kA ?_ _)); exact BK398.out) hb); have n3_ := Aside0.mk (kB (g := gb415) (o := .cells #[.int .i64 t412, .int .i64 t413] 24 (0, 0)) (by (with_reducible repeat (first | refine kN ?_ _ | refine kD ?_ | refine kA ?_ _)); exact BK415.out) hb); have n4_ := Aside0.mk (kB (g := gb419) (o := .cells #[.int .i64 t416, .int .i64 t417] 24 (0, 0)) (by (with_reducible repeat (first | refine kN ?_ _ | refine kD ?_ | refine kA ?_ _)); exact BK419.out) hb); have n5_ := Aside0.mk (bT (by repeat (first | (with_reducible first | exact HB.out | apply bA | apply bN | apply b1 | refine bS ?_ GE396.out | refine bS ?_ GE397.out | refine bS ?_ GE398.out | refine bS ?_ GE415.out | refine bS ?_ GE419.out) | exact HB.out)) hb); have n6_ := Aside0.mk (hbox); have n7_ := Aside0.mk ((by rw [hg]; exact (bZ (by repeat (first | (with_reducible first | exact HB.out | apply bA | apply bN | apply b1 | refine bS ?_ GE396.out | refine bS ?_ GE397.out | refine bS ?_ GE398.out | refine bS ?_ GE415.out | refine bS ?_ GE419.out) | exact HB.out))) : w.heap.size ≤ gb423)); have n8_ := Aside0.mk ((by rw [hg]; exact (bZ (by repeat (first | (with_reducible first | exact HB.out | apply bA | apply bN | apply b1 | refine bS ?_ GE396.out | refine bS ?_ GE397.out | refine bS ?_ GE398.out | refine bS ?_ GE415.out | refine bS ?_ GE419.out) | exact HB.out))) : w.heap.size ≤ gb423)); have n9_ := Aside0.mk ((by rw [hg]; exact Nat.ne_of_lt (blk_lt (g := gb396) (o := .cells #[.int .i64 a0_0, .int .i64 a0_1] 24 (0, 0)) (by (with_reducible repeat (first | refine kN ?_ _ | refine kD ?_ | refine kA ?_ _)); exact BK396.out)) : gb396 ≠ gb423)); have n10_ := Aside0.mk ((by rw [hg]; exact Nat.ne_of_gt (blk_lt (g := gb396) (o := .cells #[.int .i64 a0_0, .int .i64 a0_1] 24 (0, 0)) (by (with_reducible repeat (first | refine kN ?_ _ | refine kD ?_ | refine kA ?_ _)); exact BK396.out)) : gb423 ≠ gb396)); have n11_ := Aside0.mk ((by rw [hg]; exact Nat.ne_of_lt (blk_lt (g := gb397) (o := .cells #[.int .i64 a1_0, .int .i64 a1_1] 24 (0, 0)) (by (with_reducible repeat (first | refine kN ?_ _ | refine kD ?_ | refine kA ?_ _)); exact BK397.out)) : gb397 ≠ gb423)); have n12_ := Aside0.mk ((by rw [hg]; exact Nat.ne_of_gt (blk_lt (g := gb397) (o := .cells #[.int .i64 a1_0, .int .i64 a1_1] 24 (0, 0)) (by (with_reducible repeat (first | refine kN ?_ _ | refine kD ?_ | refine kA ?_ _)); exact BK397.out)) : gb423 ≠ gb397)); have n13_ := Aside0.mk ((by rw [hg]; exact Nat.ne_of_lt (blk_lt (g := gb398) (o := .cells #[.int .i64 a2_0, .int .i64 a2_1] 24 (0, 0)) (by (with_reducible repeat (first | refine kN ?_ _ | refine kD ?_ | refine kA ?_ _)); exact BK398.out)) : gb398 ≠ gb423)); have n14_ := Aside0.mk ((by rw [hg]; exact Nat.ne_of_gt (blk_lt (g := gb398) (o := .cells #[.int .i64 a2_0, .int .i64 a2_1] 24 (0, 0)) (by (with_reducible repeat (first | refine kN ?_ _ | refine kD ?_ | refine kA ?_ _)); exact BK398.out)) : gb423 ≠ gb398)); have n15_ := Aside0.mk ((by rw [hg]; exact Nat.ne_of_lt (blk_lt (g := gb415) (o := .cells #[.int .i64 t412, .int .i64 t413] 24 (0, 0)) (by (with_reducible repeat (first | refine kN ?_ _ | refine kD ?_ | refine kA ?_ _)); exact BK415.out)) : gb415 ≠ gb423)); have n16_ := Aside0.mk ((by rw [hg]; exact Nat.ne_of_gt (blk_lt (g := gb415) (o := .cells #[.int .i64 t412, .int .i64 t413] 24 (0, 0)) (by (with_reducible repeat (first | refine kN ?_ _ | refine kD ?_ | refine kA ?_ _)); exact BK415.out)) : gb423 ≠ gb415)); have n17_ := Aside0.mk ((by rw [hg]; exact Nat.ne_of_lt (blk_lt (g := gb419) (o := .cells #[.int .i64 t416, .int .i64 t417] 24 (0, 0)) (by (with_reducible repeat (first | refine kN ?_ _ | refine kD ?_ | refine kA ?_ _)); exact BK419.out)) : gb419 ≠ gb423)); have n18_ := Aside0.mk ((by rw [hg]; exact Nat.ne_of_gt (blk_lt (g := gb419) (o := .cells #[.int .i64 t416, .int .i64 t417] 24 (0, 0)) (by (with_reducible repeat (first | refine kN ?_ _ | refine kD ?_ | refine kA ?_ _)); exact BK419.out)) : gb423 ≠ gb419)); clear BK396; clear BK397; clear BK398; clear BK415; clear BK419; clear HB; have BK396 := n0_; have BK397 := n1_; have BK398 := n2_; have BK415 := n3_; have BK419 := n4_; have HB := n5_; have BK423 := n6_; have GW423 := n7_; have GE423 := n8_; have NB396_423 := n9_; have NB423_396 := n10_; have NB397_423 := n11_; have NB423_397 := n12_; have NB398_423 := n13_; have NB423_398 := n14_; have NB415_423 := n15_; have NB423_415 := n16_; have NB419_423 := n17_; have NB423_419 := n18_; clear n0_ n1_ n2_ n3_ n4_ n5_ n6_ n7_ n8_ n9_ n10_ n11_ n12_ n13_ n14_ n15_ n16_ n17_ n18_; clear hb hbox hg; have hnb111 := NB423_396.out; have hnc111 := NB396_423.out; have hnb112 := NB423_397.out; have hnc112 := NB397_423.out; have hnb113 := NB423_398.out; have hnc113 := NB398_423.out; have hnb114 := NB423_415.out; have hnc114 := NB415_423.out; have hnb115 := NB423_419.out; have hnc115 := NB419_423.out; have hcz116_0 : w110.cell? ⟨gb423, 0, none⟩ = some (.int .i64 0) := (kC BK423.out 0).trans rfl; have hcz116_1 : w110.cell? ⟨gb423, 1, none⟩ = some (.int .i64 0) := (kC BK423.out 1).trans rfl; have hfz116_0 := blk_frozen BK423.out 0; have hfz116_1 := blk_frozen BK423.out 1; have hcz117_0 : w110.cell? ⟨gb419, 0, none⟩ = some (.int .i64 t416) := (kC BK419.out 0).trans rfl; have hcz117_1 : w110.cell? ⟨gb419, 1, none⟩ = some (.int .i64 t417) := (kC BK419.out 1).trans rfl; have hfz117_0 := blk_frozen BK419.out 0; have hfz117_1 := blk_frozen BK419.out 1) | ((with_reducible refine gate_callee (f := 27) rfl ?_); refine goesL_ (some 160) rfl rfl Tryd.func27 (by kernel_rfl) rfl #[.agg #[.int .i64 t416, .int .i64 t417], .agg #[.int .i64 t420, .int .i64 t421]] rfl (by (try simp only [List.map_toArray, List.map_cons, List.map_nil]); first | done | rfl | (simp only [List.length_drop, List.length_take]; rfl)) ?_; (with_reducible refine (rational_Compare.calls kj60 t416 t417 t420 t421 t424 t425 _ A88.out).mono ?_); rintro e w118 ⟨rfl, hb⟩; refine ⟨_, rfl, ?_⟩; have n0_ := Aside0.mk (kB (g := gb396) (o := .cells #[.int .i64 a0_0, .int .i64 a0_1] 24 (0, 0)) (by (with_reducible repeat (first | refine kN ?_ _ | refine kD ?_ | refine kA ?_ _)); refine kF ?_ NB396_423.out _; (with_reducible repeat (first | refine kN ?_ _ | refine kD ?_ | refine kA ?_ _)); refine kF ?_ NB396_423.out _; (with_reducible repeat (first | refine kN ?_ _ | refine kD ?_ | refine kA ?_ _)); exact BK396.out) hb); have n1_ := Aside0.mk (kB (g := gb397) (o := .cells #[.int .i64 a1_0, .int .i64 a1_1] 24 (0, 0)) (by (with_reducible repeat (first | refine kN ?_ _ | refine kD ?_ | refine kA ?_ _)); refine kF ?_ NB397_423.out _; (with_reducible repeat (first | refine kN ?_ _ | refine kD ?_ | refine kA ?_ _)); refine kF ?_ NB397_423.out _; (with_reducible repeat (first | refine kN ?_ _ | refine kD ?_ | refine kA ?_ _)); exact BK397.out) hb); have n2_ := Aside0.mk (kB (g := gb398) (o := .cells #[.int .i64 a2_0, .int .i64 a2_1] 24 (0, 0)) (by (with_reducible repeat (first | refine kN ?_ _ | refine kD ?_ | refine kA ?_ _)); refine kF ?_ NB398_423.out _; (with_reducible repeat (first | refine kN ?_ _ | refine kD ?_ | refine kA ?_ _)); refine kF ?_ NB398_423.out _; (with_reducible repeat (first | refine kN ?_ _ | refine kD ?_ | refine kA ?_ _)); exact BK398.out) hb); have n3_ := Aside0.mk (kB (g := gb415) (o := .cells #[.int .i64 t412, .int .i64 t413] 24 (0, 0)) (by (with_reducible repeat (first | refine kN ?_ _ | refine kD ?_ | refine kA ?_ _)); refine kF ?_ NB415_423.out _; (with_reducible repeat (first | refine kN ?_ _ | refine kD ?_ | refine kA ?_ _)); refine kF ?_ NB415_423.out _; (with_reducible repeat (first | refine kN ?_ _ | refine kD ?_ | refine kA ?_ _)); exact BK415.out) hb); have n4_ := Aside0.mk (kB (g := gb419) (o := .cells #[.int .i64 t416, .int .i64 t417] 24 (0, 0)) (by (with_reducible repeat (first | refine kN ?_ _ | refine kD ?_ | refine kA ?_ _)); refine kF ?_ NB419_423.out _; (with_reducible repeat (first | refine kN ?_ _ | refine kD ?_ | refine kA ?_ _)); refine kF ?_ NB419_423.out _; (with_reducible repeat (first | refine kN ?_ _ | refine kD ?_ | refine kA ?_ _)); exact BK419.out) hb); have n5_ := Aside0.mk (kB (g := gb423) (o := .cells #[.int .i64 t420, .int .i64 t421] 24 (0, 0)) (by (with_reducible repeat (first | refine kN ?_ _ | refine kD ?_ | refine kA ?_ _)); refine blk_put (cs := #[.int .i64 t420, .int .i64 0]) ?_ 1 _ rfl; (with_reducible repeat (first | refine kN ?_ _ | refine kD ?_ | refine kA ?_ _)); refine blk_put (cs := #[.int .i64 0, .int .i64 0]) ?_ 0 _ rfl; (with_reducible repeat (first | refine kN ?_ _ | refine kD ?_ | refine kA ?_ _)); exact BK423.out) hb); have n6_ := Aside0.mk (bT (by repeat (first | (with_reducible first | exact HB.out | apply bA | apply bN | apply b1 | refine bS ?_ GE396.out | refine bS ?_ GE397.out | refine bS ?_ GE398.out | refine bS ?_ GE415.out | refine bS ?_ GE419.out | refine bS ?_ GE423.out) | exact HB.out)) hb); clear BK396; clear BK397; clear BK398; clear BK415; clear BK419; clear BK423; clear HB; have BK396 := n0_; have BK397 := n1_; have BK398 := n2_; have BK415 := n3_; have BK419 := n4_; have BK423 := n5_; have HB := n6_; clear n0_ n1_ n2_ n3_ n4_ n5_ n6_; (try clear hb); (try clear hb2); (try clear hk); (try clear hi)))
                go_ret
                exact ⟨by first | rfl | (simp [errW_none, errW_some] <;> rfl) | (simp [*, errW_none, errW_some] <;> rfl), by repeat (first | (with_reducible first | exact HB.out | apply bA | apply bN | apply b1 | refine bS ?_ GE396.out | refine bS ?_ GE397.out | refine bS ?_ GE398.out | refine bS ?_ GE415.out | refine bS ?_ GE419.out | refine bS ?_ GE423.out) | exact HB.out)⟩
               ·rw [if_neg c91] at H
                exact absurd H (by simp)
              ·rw [if_neg c90] at H
               exact absurd H (by simp)
             ·replace c89 := Bool.eq_false_iff.mpr c89
              subst c89
              have H1 : (none) = some r := by rw [if_neg (show ¬ (false = true) by decide)] at H; exact H
              clear H
              have H := H1
              clear H1
              exact absurd H (by simp)
            ·rw [if_neg c87] at H
             have c87b0 : (t422 == 0) = false := beq_eq_false_iff_ne.mpr c87
             have c87b1 : (t422 != 0) = true := bne_iff_ne.mpr c87
             by_cases c119 : t399 = true
             ·subst c119
              have H1 : (some true) = some r := by rw [if_pos rfl] at H; exact H
              clear H
              have H := H1
              clear H1
              obtain rfl := Option.some.inj H
              have hnb120 := NB396_397.out
              have hnc120 := NB397_396.out
              have hnb121 := NB396_398.out
              have hnc121 := NB398_396.out
              have hnb122 := NB396_415.out
              have hnc122 := NB415_396.out
              have hcz123_0 : wc.cell? ⟨gb396, 0, none⟩ = some (.int .i64 a0_0) := (kC BK396.out 0).trans rfl
              have hcz123_1 : wc.cell? ⟨gb396, 1, none⟩ = some (.int .i64 a0_1) := (kC BK396.out 1).trans rfl
              have hfz123_0 := blk_frozen BK396.out 0
              have hfz123_1 := blk_frozen BK396.out 1
              have hnb124 := NB398_397.out
              have hnc124 := NB397_398.out
              have hnb125 := NB398_415.out
              have hnc125 := NB415_398.out
              have hcz126_0 : wc.cell? ⟨gb398, 0, none⟩ = some (.int .i64 a2_0) := (kC BK398.out 0).trans rfl
              have hcz126_1 : wc.cell? ⟨gb398, 1, none⟩ = some (.int .i64 a2_1) := (kC BK398.out 1).trans rfl
              have hfz126_0 := blk_frozen BK398.out 0
              have hfz126_1 := blk_frozen BK398.out 1
              go_wp2_with (first | ((with_reducible refine gate_callee (f := 17) rfl ?_); refine goesL_ (some 141) rfl rfl Tryd.func17 (by kernel_rfl) rfl #[.agg #[.int .i64 a0_0, .int .i64 a0_1], .agg #[.int .i64 a2_0, .int .i64 a2_1]] rfl (by (try simp only [List.map_toArray, List.map_cons, List.map_nil]); first | done | rfl | (simp only [List.length_drop, List.length_take]; rfl)) ?_; (with_reducible refine (rational_Add.calls a0_0 a0_1 a2_0 a2_1 t416 t417 t418 _ A84.out).mono ?_); rintro e w127 ⟨rfl, hb⟩; refine ⟨_, rfl, ?_⟩; have n0_ := Aside0.mk (kB (g := gb396) (o := .cells #[.int .i64 a0_0, .int .i64 a0_1] 24 (0, 0)) (by (with_reducible repeat (first | refine kN ?_ _ | refine kD ?_ | refine kA ?_ _)); exact BK396.out) hb); have n1_ := Aside0.mk (kB (g := gb397) (o := .cells #[.int .i64 a1_0, .int .i64 a1_1] 24 (0, 0)) (by (with_reducible repeat (first | refine kN ?_ _ | refine kD ?_ | refine kA ?_ _)); exact BK397.out) hb); have n2_ := Aside0.mk (kB (g := gb398) (o := .cells #[.int .i64 a2_0, .int .i64 a2_1] 24 (0, 0)) (by (with_reducible repeat (first | refine kN ?_ _ | refine kD ?_ | refine kA ?_ _)); exact BK398.out) hb); have n3_ := Aside0.mk (kB (g := gb415) (o := .cells #[.int .i64 t412, .int .i64 t413] 24 (0, 0)) (by (with_reducible repeat (first | refine kN ?_ _ | refine kD ?_ | refine kA ?_ _)); exact BK415.out) hb); have n4_ := Aside0.mk (bT (by repeat (first | (with_reducible first | exact HB.out | apply bA | apply bN | apply b1 | refine bS ?_ GE396.out | refine bS ?_ GE397.out | refine bS ?_ GE398.out | refine bS ?_ GE415.out) | exact HB.out)) hb); clear BK396; clear BK397; clear BK398; clear BK415; clear HB; have BK396 := n0_; have BK397 := n1_; have BK398 := n2_; have BK415 := n3_; have HB := n4_; clear n0_ n1_ n2_ n3_ n4_; (try clear hb); (try clear hb2); (try clear hk); (try clear hi)) | ((with_reducible refine gate_dst (N := 18) rfl ?_); refine box_event ?hg (N := 18) ?hd (cs := #[.int .i64 0, .int .i64 0]) (t := 24) ?hr ?_; (case hd => rfl); (case hg => rfl); (case hr => first | (go_simp; done) | (go_simp; rfl)); intro gb419 hg w128 hbox hb; have n0_ := Aside0.mk (kB (g := gb396) (o := .cells #[.int .i64 a0_0, .int .i64 a0_1] 24 (0, 0)) (by (with_reducible repeat (first | refine kN ?_ _ | refine kD ?_ | refine kA ?_ _)); exact BK396.out) hb); have n1_ := Aside0.mk (kB (g := gb397) (o := .cells #[.int .i64 a1_0, .int .i64 a1_1] 24 (0, 0)) (by (with_reducible repeat (first | refine kN ?_ _ | refine kD ?_ | refine kA ?_ _)); exact BK397.out) hb); have n2_ := Aside0.mk (kB (g := gb398) (o := .cells #[.int .i64 a2_0, .int .i64 a2_1] 24 (0, 0)) (by (with_reducible repeat (first | refine kN ?_ _ | refine kD ?_ | refine kA ?_ _)); exact BK398.out) hb); have n3_ := Aside0.mk (kB (g := gb415) (o := .cells #[.int .i64 t412, .int .i64 t413] 24 (0, 0)) (by (with_reducible repeat (first | refine kN ?_ _ | refine kD ?_ | refine kA ?_ _)); exact BK415.out) hb); have n4_ := Aside0.mk (bT (by repeat (first | (with_reducible first | exact HB.out | apply bA | apply bN | apply b1 | refine bS ?_ GE396.out | refine bS ?_ GE397.out | refine bS ?_ GE398.out | refine bS ?_ GE415.out) | exact HB.out)) hb); have n5_ := Aside0.mk (hbox); have n6_ := Aside0.mk ((by rw [hg]; exact (bZ (by repeat (first | (with_reducible first | exact HB.out | apply bA | apply bN | apply b1 | refine bS ?_ GE396.out | refine bS ?_ GE397.out | refine bS ?_ GE398.out | refine bS ?_ GE415.out) | exact HB.out))) : w.heap.size ≤ gb419)); have n7_ := Aside0.mk ((by rw [hg]; exact (bZ (by repeat (first | (with_reducible first | exact HB.out | apply bA | apply bN | apply b1 | refine bS ?_ GE396.out | refine bS ?_ GE397.out | refine bS ?_ GE398.out | refine bS ?_ GE415.out) | exact HB.out))) : w.heap.size ≤ gb419)); have n8_ := Aside0.mk ((by rw [hg]; exact Nat.ne_of_lt (blk_lt (g := gb396) (o := .cells #[.int .i64 a0_0, .int .i64 a0_1] 24 (0, 0)) (by (with_reducible repeat (first | refine kN ?_ _ | refine kD ?_ | refine kA ?_ _)); exact BK396.out)) : gb396 ≠ gb419)); have n9_ := Aside0.mk ((by rw [hg]; exact Nat.ne_of_gt (blk_lt (g := gb396) (o := .cells #[.int .i64 a0_0, .int .i64 a0_1] 24 (0, 0)) (by (with_reducible repeat (first | refine kN ?_ _ | refine kD ?_ | refine kA ?_ _)); exact BK396.out)) : gb419 ≠ gb396)); have n10_ := Aside0.mk ((by rw [hg]; exact Nat.ne_of_lt (blk_lt (g := gb397) (o := .cells #[.int .i64 a1_0, .int .i64 a1_1] 24 (0, 0)) (by (with_reducible repeat (first | refine kN ?_ _ | refine kD ?_ | refine kA ?_ _)); exact BK397.out)) : gb397 ≠ gb419)); have n11_ := Aside0.mk ((by rw [hg]; exact Nat.ne_of_gt (blk_lt (g := gb397) (o := .cells #[.int .i64 a1_0, .int .i64 a1_1] 24 (0, 0)) (by (with_reducible repeat (first | refine kN ?_ _ | refine kD ?_ | refine kA ?_ _)); exact BK397.out)) : gb419 ≠ gb397)); have n12_ := Aside0.mk ((by rw [hg]; exact Nat.ne_of_lt (blk_lt (g := gb398) (o := .cells #[.int .i64 a2_0, .int .i64 a2_1] 24 (0, 0)) (by (with_reducible repeat (first | refine kN ?_ _ | refine kD ?_ | refine kA ?_ _)); exact BK398.out)) : gb398 ≠ gb419)); have n13_ := Aside0.mk ((by rw [hg]; exact Nat.ne_of_gt (blk_lt (g := gb398) (o := .cells #[.int .i64 a2_0, .int .i64 a2_1] 24 (0, 0)) (by (with_reducible repeat (first | refine kN ?_ _ | refine kD ?_ | refine kA ?_ _)); exact BK398.out)) : gb419 ≠ gb398)); have n14_ := Aside0.mk ((by rw [hg]; exact Nat.ne_of_lt (blk_lt (g := gb415) (o := .cells #[.int .i64 t412, .int .i64 t413] 24 (0, 0)) (by (with_reducible repeat (first | refine kN ?_ _ | refine kD ?_ | refine kA ?_ _)); exact BK415.out)) : gb415 ≠ gb419)); have n15_ := Aside0.mk ((by rw [hg]; exact Nat.ne_of_gt (blk_lt (g := gb415) (o := .cells #[.int .i64 t412, .int .i64 t413] 24 (0, 0)) (by (with_reducible repeat (first | refine kN ?_ _ | refine kD ?_ | refine kA ?_ _)); exact BK415.out)) : gb419 ≠ gb415)); clear BK396; clear BK397; clear BK398; clear BK415; clear HB; have BK396 := n0_; have BK397 := n1_; have BK398 := n2_; have BK415 := n3_; have HB := n4_; have BK419 := n5_; have GW419 := n6_; have GE419 := n7_; have NB396_419 := n8_; have NB419_396 := n9_; have NB397_419 := n10_; have NB419_397 := n11_; have NB398_419 := n12_; have NB419_398 := n13_; have NB415_419 := n14_; have NB419_415 := n15_; clear n0_ n1_ n2_ n3_ n4_ n5_ n6_ n7_ n8_ n9_ n10_ n11_ n12_ n13_ n14_ n15_; clear hb hbox hg; have hnb129 := NB419_396.out; have hnc129 := NB396_419.out; have hnb130 := NB419_397.out; have hnc130 := NB397_419.out; have hnb131 := NB419_398.out; have hnc131 := NB398_419.out; have hnb132 := NB419_415.out; have hnc132 := NB415_419.out; have hcz133_0 : w128.cell? ⟨gb419, 0, none⟩ = some (.int .i64 0) := (kC BK419.out 0).trans rfl; have hcz133_1 : w128.cell? ⟨gb419, 1, none⟩ = some (.int .i64 0) := (kC BK419.out 1).trans rfl; have hfz133_0 := blk_frozen BK419.out 0; have hfz133_1 := blk_frozen BK419.out 1; have hnb134 := NB397_415.out; have hnc134 := NB415_397.out; have hcz135_0 : w128.cell? ⟨gb397, 0, none⟩ = some (.int .i64 a1_0) := (kC BK397.out 0).trans rfl; have hcz135_1 : w128.cell? ⟨gb397, 1, none⟩ = some (.int .i64 a1_1) := (kC BK397.out 1).trans rfl; have hfz135_0 := blk_frozen BK397.out 0; have hfz135_1 := blk_frozen BK397.out 1; have hcz136_0 : w128.cell? ⟨gb398, 0, none⟩ = some (.int .i64 a2_0) := (kC BK398.out 0).trans rfl; have hcz136_1 : w128.cell? ⟨gb398, 1, none⟩ = some (.int .i64 a2_1) := (kC BK398.out 1).trans rfl; have hfz136_0 := blk_frozen BK398.out 0; have hfz136_1 := blk_frozen BK398.out 1) | ((with_reducible refine gate_callee (f := 17) rfl ?_); refine goesL_ (some 147) rfl rfl Tryd.func17 (by kernel_rfl) rfl #[.agg #[.int .i64 a1_0, .int .i64 a1_1], .agg #[.int .i64 a2_0, .int .i64 a2_1]] rfl (by (try simp only [List.map_toArray, List.map_cons, List.map_nil]); first | done | rfl | (simp only [List.length_drop, List.length_take]; rfl)) ?_; (with_reducible refine (rational_Add.calls a1_0 a1_1 a2_0 a2_1 t420 t421 t422 _ A85.out).mono ?_); rintro e w137 ⟨rfl, hb⟩; refine ⟨_, rfl, ?_⟩; have n0_ := Aside0.mk (kB (g := gb396) (o := .cells #[.int .i64 a0_0, .int .i64 a0_1] 24 (0, 0)) (by (with_reducible repeat (first | refine kN ?_ _ | refine kD ?_ | refine kA ?_ _)); refine kF ?_ NB396_419.out _; (with_reducible repeat (first | refine kN ?_ _ | refine kD ?_ | refine kA ?_ _)); refine kF ?_ NB396_419.out _; (with_reducible repeat (first | refine kN ?_ _ | refine kD ?_ | refine kA ?_ _)); exact BK396.out) hb); have n1_ := Aside0.mk (kB (g := gb397) (o := .cells #[.int .i64 a1_0, .int .i64 a1_1] 24 (0, 0)) (by (with_reducible repeat (first | refine kN ?_ _ | refine kD ?_ | refine kA ?_ _)); refine kF ?_ NB397_419.out _; (with_reducible repeat (first | refine kN ?_ _ | refine kD ?_ | refine kA ?_ _)); refine kF ?_ NB397_419.out _; (with_reducible repeat (first | refine kN ?_ _ | refine kD ?_ | refine kA ?_ _)); exact BK397.out) hb); have n2_ := Aside0.mk (kB (g := gb398) (o := .cells #[.int .i64 a2_0, .int .i64 a2_1] 24 (0, 0)) (by (with_reducible repeat (first | refine kN ?_ _ | refine kD ?_ | refine kA ?_ _)); refine kF ?_ NB398_419.out _; (with_reducible repeat (first | refine kN ?_ _ | refine kD ?_ | refine kA ?_ _)); refine kF ?_ NB398_419.out _; (with_reducible repeat (first | refine kN ?_ _ | refine kD ?_ | refine kA ?_ _)); exact BK398.out) hb); have n3_ := Aside0.mk (kB (g := gb415) (o := .cells #[.int .i64 t412, .int .i64 t413] 24 (0, 0)) (by (with_reducible repeat (first | refine kN ?_ _ | refine kD ?_ | refine kA ?_ _)); refine kF ?_ NB415_419.out _; (with_reducible repeat (first | refine kN ?_ _ | refine kD ?_ | refine kA ?_ _)); refine kF ?_ NB415_419.out _; (with_reducible repeat (first | refine kN ?_ _ | refine kD ?_ | refine kA ?_ _)); exact BK415.out) hb); have n4_ := Aside0.mk (kB (g := gb419) (o := .cells #[.int .i64 t416, .int .i64 t417] 24 (0, 0)) (by (with_reducible repeat (first | refine kN ?_ _ | refine kD ?_ | refine kA ?_ _)); refine blk_put (cs := #[.int .i64 t416, .int .i64 0]) ?_ 1 _ rfl; (with_reducible repeat (first | refine kN ?_ _ | refine kD ?_ | refine kA ?_ _)); refine blk_put (cs := #[.int .i64 0, .int .i64 0]) ?_ 0 _ rfl; (with_reducible repeat (first | refine kN ?_ _ | refine kD ?_ | refine kA ?_ _)); exact BK419.out) hb); have n5_ := Aside0.mk (bT (by repeat (first | (with_reducible first | exact HB.out | apply bA | apply bN | apply b1 | refine bS ?_ GE396.out | refine bS ?_ GE397.out | refine bS ?_ GE398.out | refine bS ?_ GE415.out | refine bS ?_ GE419.out) | exact HB.out)) hb); clear BK396; clear BK397; clear BK398; clear BK415; clear BK419; clear HB; have BK396 := n0_; have BK397 := n1_; have BK398 := n2_; have BK415 := n3_; have BK419 := n4_; have HB := n5_; clear n0_ n1_ n2_ n3_ n4_ n5_; (try clear hb); (try clear hb2); (try clear hk); (try clear hi)) | ((with_reducible refine gate_dst (N := 20) rfl ?_); refine box_event ?hg (N := 20) ?hd (cs := #[.int .i64 0, .int .i64 0]) (t := 24) ?hr ?_; (case hd => rfl); (case hg => rfl); (case hr => first | (go_simp; done) | (go_simp; rfl)); intro gb423 hg w138 hbox hb; have n0_ := Aside0.mk (kB (g := gb396) (o := .cells #[.int .i64 a0_0, .int .i64 a0_1] 24 (0, 0)) (by (with_reducible repeat (first | refine kN ?_ _ | refine kD ?_ | refine kA ?_ _)); exact BK396.out) hb); have n1_ := Aside0.mk (kB (g := gb397) (o := .cells #[.int .i64 a1_0, .int .i64 a1_1] 24 (0, 0)) (by (with_reducible repeat (first | refine kN ?_ _ | refine kD ?_ | refine kA ?_ _)); exact BK397.out) hb); have n2_ := Aside0.mk (kB (g := gb398) (o := .cells #[.int .i64 a2_0, .int .i64 a2_1] 24 (0, 0)) (by (with_reducible repeat (first | refine kN ?_ _ | refine kD ?_ | refine kA ?_ _)); exact BK398.out) hb); have n3_ := Aside0.mk (kB (g := gb415) (o := .cells #[.int .i64 t412, .int .i64 t413] 24 (0, 0)) (by (with_reducible repeat (first | refine kN ?_ _ | refine kD ?_ | refine kA ?_ _)); exact BK415.out) hb); have n4_ := Aside0.mk (kB (g := gb419) (o := .cells #[.int .i64 t416, .int .i64 t417] 24 (0, 0)) (by (with_reducible repeat (first | refine kN ?_ _ | refine kD ?_ | refine kA ?_ _)); exact BK419.out) hb); have n5_ := Aside0.mk (bT (by repeat (first | (with_reducible first | exact HB.out | apply bA | apply bN | apply b1 | refine bS ?_ GE396.out | refine bS ?_ GE397.out | refine bS ?_ GE398.out | refine bS ?_ GE415.out | refine bS ?_ GE419.out) | exact HB.out)) hb); have n6_ := Aside0.mk (hbox); have n7_ := Aside0.mk ((by rw [hg]; exact (bZ (by repeat (first | (with_reducible first | exact HB.out | apply bA | apply bN | apply b1 | refine bS ?_ GE396.out | refine bS ?_ GE397.out | refine bS ?_ GE398.out | refine bS ?_ GE415.out | refine bS ?_ GE419.out) | exact HB.out))) : w.heap.size ≤ gb423)); have n8_ := Aside0.mk ((by rw [hg]; exact (bZ (by repeat (first | (with_reducible first | exact HB.out | apply bA | apply bN | apply b1 | refine bS ?_ GE396.out | refine bS ?_ GE397.out | refine bS ?_ GE398.out | refine bS ?_ GE415.out | refine bS ?_ GE419.out) | exact HB.out))) : w.heap.size ≤ gb423)); have n9_ := Aside0.mk ((by rw [hg]; exact Nat.ne_of_lt (blk_lt (g := gb396) (o := .cells #[.int .i64 a0_0, .int .i64 a0_1] 24 (0, 0)) (by (with_reducible repeat (first | refine kN ?_ _ | refine kD ?_ | refine kA ?_ _)); exact BK396.out)) : gb396 ≠ gb423)); have n10_ := Aside0.mk ((by rw [hg]; exact Nat.ne_of_gt (blk_lt (g := gb396) (o := .cells #[.int .i64 a0_0, .int .i64 a0_1] 24 (0, 0)) (by (with_reducible repeat (first | refine kN ?_ _ | refine kD ?_ | refine kA ?_ _)); exact BK396.out)) : gb423 ≠ gb396)); have n11_ := Aside0.mk ((by rw [hg]; exact Nat.ne_of_lt (blk_lt (g := gb397) (o := .cells #[.int .i64 a1_0, .int .i64 a1_1] 24 (0, 0)) (by (with_reducible repeat (first | refine kN ?_ _ | refine kD ?_ | refine kA ?_ _)); exact BK397.out)) : gb397 ≠ gb423)); have n12_ := Aside0.mk ((by rw [hg]; exact Nat.ne_of_gt (blk_lt (g := gb397) (o := .cells #[.int .i64 a1_0, .int .i64 a1_1] 24 (0, 0)) (by (with_reducible repeat (first | refine kN ?_ _ | refine kD ?_ | refine kA ?_ _)); exact BK397.out)) : gb423 ≠ gb397)); have n13_ := Aside0.mk ((by rw [hg]; exact Nat.ne_of_lt (blk_lt (g := gb398) (o := .cells #[.int .i64 a2_0, .int .i64 a2_1] 24 (0, 0)) (by (with_reducible repeat (first | refine kN ?_ _ | refine kD ?_ | refine kA ?_ _)); exact BK398.out)) : gb398 ≠ gb423)); have n14_ := Aside0.mk ((by rw [hg]; exact Nat.ne_of_gt (blk_lt (g := gb398) (o := .cells #[.int .i64 a2_0, .int .i64 a2_1] 24 (0, 0)) (by (with_reducible repeat (first | refine kN ?_ _ | refine kD ?_ | refine kA ?_ _)); exact BK398.out)) : gb423 ≠ gb398)); have n15_ := Aside0.mk ((by rw [hg]; exact Nat.ne_of_lt (blk_lt (g := gb415) (o := .cells #[.int .i64 t412, .int .i64 t413] 24 (0, 0)) (by (with_reducible repeat (first | refine kN ?_ _ | refine kD ?_ | refine kA ?_ _)); exact BK415.out)) : gb415 ≠ gb423)); have n16_ := Aside0.mk ((by rw [hg]; exact Nat.ne_of_gt (blk_lt (g := gb415) (o := .cells #[.int .i64 t412, .int .i64 t413] 24 (0, 0)) (by (with_reducible repeat (first | refine kN ?_ _ | refine kD ?_ | refine kA ?_ _)); exact BK415.out)) : gb423 ≠ gb415)); have n17_ := Aside0.mk ((by rw [hg]; exact Nat.ne_of_lt (blk_lt (g := gb419) (o := .cells #[.int .i64 t416, .int .i64 t417] 24 (0, 0)) (by (with_reducible repeat (first | refine kN ?_ _ | refine kD ?_ | refine kA ?_ _)); exact BK419.out)) : gb419 ≠ gb423)); have n18_ := Aside0.mk ((by rw [hg]; exact Nat.ne_of_gt (blk_lt (g := gb419) (o := .cells #[.int .i64 t416, .int .i64 t417] 24 (0, 0)) (by (with_reducible repeat (first | refine kN ?_ _ | refine kD ?_ | refine kA ?_ _)); exact BK419.out)) : gb423 ≠ gb419)); clear BK396; clear BK397; clear BK398; clear BK415; clear BK419; clear HB; have BK396 := n0_; have BK397 := n1_; have BK398 := n2_; have BK415 := n3_; have BK419 := n4_; have HB := n5_; have BK423 := n6_; have GW423 := n7_; have GE423 := n8_; have NB396_423 := n9_; have NB423_396 := n10_; have NB397_423 := n11_; have NB423_397 := n12_; have NB398_423 := n13_; have NB423_398 := n14_; have NB415_423 := n15_; have NB423_415 := n16_; have NB419_423 := n17_; have NB423_419 := n18_; clear n0_ n1_ n2_ n3_ n4_ n5_ n6_ n7_ n8_ n9_ n10_ n11_ n12_ n13_ n14_ n15_ n16_ n17_ n18_; clear hb hbox hg; have hnb139 := NB423_396.out; have hnc139 := NB396_423.out; have hnb140 := NB423_397.out; have hnc140 := NB397_423.out; have hnb141 := NB423_398.out; have hnc141 := NB398_423.out; have hnb142 := NB423_415.out; have hnc142 := NB415_423.out; have hnb143 := NB423_419.out; have hnc143 := NB419_423.out; have hcz144_0 : w138.cell? ⟨gb423, 0, none⟩ = some (.int .i64 0) := (kC BK423.out 0).trans rfl; have hcz144_1 : w138.cell? ⟨gb423, 1, none⟩ = some (.int .i64 0) := (kC BK423.out 1).trans rfl; have hfz144_0 := blk_frozen BK423.out 0; have hfz144_1 := blk_frozen BK423.out 1))
              go_ret
              exact ⟨by first | rfl | (simp [errW_none, errW_some] <;> rfl) | (simp [*, errW_none, errW_some] <;> rfl), by repeat (first | (with_reducible first | exact HB.out | apply bA | apply bN | apply b1 | refine bS ?_ GE396.out | refine bS ?_ GE397.out | refine bS ?_ GE398.out | refine bS ?_ GE415.out | refine bS ?_ GE419.out | refine bS ?_ GE423.out) | exact HB.out)⟩
             ·replace c119 := Bool.eq_false_iff.mpr c119
              subst c119
              have H1 : (none) = some r := by rw [if_neg (show ¬ (false = true) by decide)] at H; exact H
              clear H
              have H := H1
              clear H1
              exact absurd H (by simp)
           ·rw [if_neg c86] at H
            have c86b0 : (t418 == 0) = false := beq_eq_false_iff_ne.mpr c86
            have c86b1 : (t418 != 0) = true := bne_iff_ne.mpr c86
            by_cases c145 : t399 = true
            ·subst c145
             have H1 : (some true) = some r := by rw [if_pos rfl] at H; exact H
             clear H
             have H := H1
             clear H1
             obtain rfl := Option.some.inj H
             have hnb146 := NB396_397.out
             have hnc146 := NB397_396.out
             have hnb147 := NB396_398.out
             have hnc147 := NB398_396.out
             have hnb148 := NB396_415.out
             have hnc148 := NB415_396.out
             have hcz149_0 : wc.cell? ⟨gb396, 0, none⟩ = some (.int .i64 a0_0) := (kC BK396.out 0).trans rfl
             have hcz149_1 : wc.cell? ⟨gb396, 1, none⟩ = some (.int .i64 a0_1) := (kC BK396.out 1).trans rfl
             have hfz149_0 := blk_frozen BK396.out 0
             have hfz149_1 := blk_frozen BK396.out 1
             have hnb150 := NB398_397.out
             have hnc150 := NB397_398.out
             have hnb151 := NB398_415.out
             have hnc151 := NB415_398.out
             have hcz152_0 : wc.cell? ⟨gb398, 0, none⟩ = some (.int .i64 a2_0) := (kC BK398.out 0).trans rfl
             have hcz152_1 : wc.cell? ⟨gb398, 1, none⟩ = some (.int .i64 a2_1) := (kC BK398.out 1).trans rfl
             have hfz152_0 := blk_frozen BK398.out 0
             have hfz152_1 := blk_frozen BK398.out 1
             go_wp2_with (first | ((with_reducible refine gate_callee (f := 17) rfl ?_); refine goesL_ (some 141) rfl rfl Tryd.func17 (by kernel_rfl) rfl #[.agg #[.int .i64 a0_0, .int .i64 a0_1], .agg #[.int .i64 a2_0, .int .i64 a2_1]] rfl (by (try simp only [List.map_toArray, List.map_cons, List.map_nil]); first | done | rfl | (simp only [List.length_drop, List.length_take]; rfl)) ?_; (with_reducible refine (rational_Add.calls a0_0 a0_1 a2_0 a2_1 t416 t417 t418 _ A84.out).mono ?_); rintro e w153 ⟨rfl, hb⟩; refine ⟨_, rfl, ?_⟩; have n0_ := Aside0.mk (kB (g := gb396) (o := .cells #[.int .i64 a0_0, .int .i64 a0_1] 24 (0, 0)) (by (with_reducible repeat (first | refine kN ?_ _ | refine kD ?_ | refine kA ?_ _)); exact BK396.out) hb); have n1_ := Aside0.mk (kB (g := gb397) (o := .cells #[.int .i64 a1_0, .int .i64 a1_1] 24 (0, 0)) (by (with_reducible repeat (first | refine kN ?_ _ | refine kD ?_ | refine kA ?_ _)); exact BK397.out) hb); have n2_ := Aside0.mk (kB (g := gb398) (o := .cells #[.int .i64 a2_0, .int .i64 a2_1] 24 (0, 0)) (by (with_reducible repeat (first | refine kN ?_ _ | refine kD ?_ | refine kA ?_ _)); exact BK398.out) hb); have n3_ := Aside0.mk (kB (g := gb415) (o := .cells #[.int .i64 t412, .int .i64 t413] 24 (0, 0)) (by (with_reducible repeat (first | refine kN ?_ _ | refine kD ?_ | refine kA ?_ _)); exact BK415.out) hb); have n4_ := Aside0.mk (bT (by repeat (first | (with_reducible first | exact HB.out | apply bA | apply bN | apply b1 | refine bS ?_ GE396.out | refine bS ?_ GE397.out | refine bS ?_ GE398.out | refine bS ?_ GE415.out) | exact HB.out)) hb); clear BK396; clear BK397; clear BK398; clear BK415; clear HB; have BK396 := n0_; have BK397 := n1_; have BK398 := n2_; have BK415 := n3_; have HB := n4_; clear n0_ n1_ n2_ n3_ n4_; (try clear hb); (try clear hb2); (try clear hk); (try clear hi)) | ((with_reducible refine gate_dst (N := 18) rfl ?_); refine box_event ?hg (N := 18) ?hd (cs := #[.int .i64 0, .int .i64 0]) (t := 24) ?hr ?_; (case hd => rfl); (case hg => rfl); (case hr => first | (go_simp; done) | (go_simp; rfl)); intro gb419 hg w154 hbox hb; have n0_ := Aside0.mk (kB (g := gb396) (o := .cells #[.int .i64 a0_0, .int .i64 a0_1] 24 (0, 0)) (by (with_reducible repeat (first | refine kN ?_ _ | refine kD ?_ | refine kA ?_ _)); exact BK396.out) hb); have n1_ := Aside0.mk (kB (g := gb397) (o := .cells #[.int .i64 a1_0, .int .i64 a1_1] 24 (0, 0)) (by (with_reducible repeat (first | refine kN ?_ _ | refine kD ?_ | refine kA ?_ _)); exact BK397.out) hb); have n2_ := Aside0.mk (kB (g := gb398) (o := .cells #[.int .i64 a2_0, .int .i64 a2_1] 24 (0, 0)) (by (with_reducible repeat (first | refine kN ?_ _ | refine kD ?_ | refine kA ?_ _)); exact BK398.out) hb); have n3_ := Aside0.mk (kB (g := gb415) (o := .cells #[.int .i64 t412, .int .i64 t413] 24 (0, 0)) (by (with_reducible repeat (first | refine kN ?_ _ | refine kD ?_ | refine kA ?_ _)); exact BK415.out) hb); have n4_ := Aside0.mk (bT (by repeat (first | (with_reducible first | exact HB.out | apply bA | apply bN | apply b1 | refine bS ?_ GE396.out | refine bS ?_ GE397.out | refine bS ?_ GE398.out | refine bS ?_ GE415.out) | exact HB.out)) hb); have n5_ := Aside0.mk (hbox); have n6_ := Aside0.mk ((by rw [hg]; exact (bZ (by repeat (first | (with_reducible first | exact HB.out | apply bA | apply bN | apply b1 | refine bS ?_ GE396.out | refine bS ?_ GE397.out | refine bS ?_ GE398.out | refine bS ?_ GE415.out) | exact HB.out))) : w.heap.size ≤ gb419)); have n7_ := Aside0.mk ((by rw [hg]; exact (bZ (by repeat (first | (with_reducible first | exact HB.out | apply bA | apply bN | apply b1 | refine bS ?_ GE396.out | refine bS ?_ GE397.out | refine bS ?_ GE398.out | refine bS ?_ GE415.out) | exact HB.out))) : w.heap.size ≤ gb419)); have n8_ := Aside0.mk ((by rw [hg]; exact Nat.ne_of_lt (blk_lt (g := gb396) (o := .cells #[.int .i64 a0_0, .int .i64 a0_1] 24 (0, 0)) (by (with_reducible repeat (first | refine kN ?_ _ | refine kD ?_ | refine kA ?_ _)); exact BK396.out)) : gb396 ≠ gb419)); have n9_ := Aside0.mk ((by rw [hg]; exact Nat.ne_of_gt (blk_lt (g := gb396) (o := .cells #[.int .i64 a0_0, .int .i64 a0_1] 24 (0, 0)) (by (with_reducible repeat (first | refine kN ?_ _ | refine kD ?_ | refine kA ?_ _)); exact BK396.out)) : gb419 ≠ gb396)); have n10_ := Aside0.mk ((by rw [hg]; exact Nat.ne_of_lt (blk_lt (g := gb397) (o := .cells #[.int .i64 a1_0, .int .i64 a1_1] 24 (0, 0)) (by (with_reducible repeat (first | refine kN ?_ _ | refine kD ?_ | refine kA ?_ _)); exact BK397.out)) : gb397 ≠ gb419)); have n11_ := Aside0.mk ((by rw [hg]; exact Nat.ne_of_gt (blk_lt (g := gb397) (o := .cells #[.int .i64 a1_0, .int .i64 a1_1] 24 (0, 0)) (by (with_reducible repeat (first | refine kN ?_ _ | refine kD ?_ | refine kA ?_ _)); exact BK397.out)) : gb419 ≠ gb397)); have n12_ := Aside0.mk ((by rw [hg]; exact Nat.ne_of_lt (blk_lt (g := gb398) (o := .cells #[.int .i64 a2_0, .int .i64 a2_1] 24 (0, 0)) (by (with_reducible repeat (first | refine kN ?_ _ | refine kD ?_ | refine kA ?_ _)); exact BK398.out)) : gb398 ≠ gb419)); have n13_ := Aside0.mk ((by rw [hg]; exact Nat.ne_of_gt (blk_lt (g := gb398) (o := .cells #[.int .i64 a2_0, .int .i64 a2_1] 24 (0, 0)) (by (with_reducible repeat (first | refine kN ?_ _ | refine kD ?_ | refine kA ?_ _)); exact BK398.out)) : gb419 ≠ gb398)); have n14_ := Aside0.mk ((by rw [hg]; exact Nat.ne_of_lt (blk_lt (g := gb415) (o := .cells #[.int .i64 t412, .int .i64 t413] 24 (0, 0)) (by (with_reducible repeat (first | refine kN ?_ _ | refine kD ?_ | refine kA ?_ _)); exact BK415.out)) : gb415 ≠ gb419)); have n15_ := Aside0.mk ((by rw [hg]; exact Nat.ne_of_gt (blk_lt (g := gb415) (o := .cells #[.int .i64 t412, .int .i64 t413] 24 (0, 0)) (by (with_reducible repeat (first | refine kN ?_ _ | refine kD ?_ | refine kA ?_ _)); exact BK415.out)) : gb419 ≠ gb415)); clear BK396; clear BK397; clear BK398; clear BK415; clear HB; have BK396 := n0_; have BK397 := n1_; have BK398 := n2_; have BK415 := n3_; have HB := n4_; have BK419 := n5_; have GW419 := n6_; have GE419 := n7_; have NB396_419 := n8_; have NB419_396 := n9_; have NB397_419 := n10_; have NB419_397 := n11_; have NB398_419 := n12_; have NB419_398 := n13_; have NB415_419 := n14_; have NB419_415 := n15_; clear n0_ n1_ n2_ n3_ n4_ n5_ n6_ n7_ n8_ n9_ n10_ n11_ n12_ n13_ n14_ n15_; clear hb hbox hg; have hnb155 := NB419_396.out; have hnc155 := NB396_419.out; have hnb156 := NB419_397.out; have hnc156 := NB397_419.out; have hnb157 := NB419_398.out; have hnc157 := NB398_419.out; have hnb158 := NB419_415.out; have hnc158 := NB415_419.out; have hcz159_0 : w154.cell? ⟨gb419, 0, none⟩ = some (.int .i64 0) := (kC BK419.out 0).trans rfl; have hcz159_1 : w154.cell? ⟨gb419, 1, none⟩ = some (.int .i64 0) := (kC BK419.out 1).trans rfl; have hfz159_0 := blk_frozen BK419.out 0; have hfz159_1 := blk_frozen BK419.out 1; have hnb160 := NB397_415.out; have hnc160 := NB415_397.out; have hcz161_0 : w154.cell? ⟨gb397, 0, none⟩ = some (.int .i64 a1_0) := (kC BK397.out 0).trans rfl; have hcz161_1 : w154.cell? ⟨gb397, 1, none⟩ = some (.int .i64 a1_1) := (kC BK397.out 1).trans rfl; have hfz161_0 := blk_frozen BK397.out 0; have hfz161_1 := blk_frozen BK397.out 1; have hcz162_0 : w154.cell? ⟨gb398, 0, none⟩ = some (.int .i64 a2_0) := (kC BK398.out 0).trans rfl; have hcz162_1 : w154.cell? ⟨gb398, 1, none⟩ = some (.int .i64 a2_1) := (kC BK398.out 1).trans rfl; have hfz162_0 := blk_frozen BK398.out 0; have hfz162_1 := blk_frozen BK398.out 1) | ((with_reducible refine gate_callee (f := 17) rfl ?_); refine goesL_ (some 147) rfl rfl Tryd.func17 (by kernel_rfl) rfl #[.agg #[.int .i64 a1_0, .int .i64 a1_1], .agg #[.int .i64 a2_0, .int .i64 a2_1]] rfl (by (try simp only [List.map_toArray, List.map_cons, List.map_nil]); first | done | rfl | (simp only [List.length_drop, List.length_take]; rfl)) ?_; (with_reducible refine (rational_Add.calls a1_0 a1_1 a2_0 a2_1 t420 t421 t422 _ A85.out).mono ?_); rintro e w163 ⟨rfl, hb⟩; refine ⟨_, rfl, ?_⟩; have n0_ := Aside0.mk (kB (g := gb396) (o := .cells #[.int .i64 a0_0, .int .i64 a0_1] 24 (0, 0)) (by (with_reducible repeat (first | refine kN ?_ _ | refine kD ?_ | refine kA ?_ _)); refine kF ?_ NB396_419.out _; (with_reducible repeat (first | refine kN ?_ _ | refine kD ?_ | refine kA ?_ _)); refine kF ?_ NB396_419.out _; (with_reducible repeat (first | refine kN ?_ _ | refine kD ?_ | refine kA ?_ _)); exact BK396.out) hb); have n1_ := Aside0.mk (kB (g := gb397) (o := .cells #[.int .i64 a1_0, .int .i64 a1_1] 24 (0, 0)) (by (with_reducible repeat (first | refine kN ?_ _ | refine kD ?_ | refine kA ?_ _)); refine kF ?_ NB397_419.out _; (with_reducible repeat (first | refine kN ?_ _ | refine kD ?_ | refine kA ?_ _)); refine kF ?_ NB397_419.out _; (with_reducible repeat (first | refine kN ?_ _ | refine kD ?_ | refine kA ?_ _)); exact BK397.out) hb); have n2_ := Aside0.mk (kB (g := gb398) (o := .cells #[.int .i64 a2_0, .int .i64 a2_1] 24 (0, 0)) (by (with_reducible repeat (first | refine kN ?_ _ | refine kD ?_ | refine kA ?_ _)); refine kF ?_ NB398_419.out _; (with_reducible repeat (first | refine kN ?_ _ | refine kD ?_ | refine kA ?_ _)); refine kF ?_ NB398_419.out _; (with_reducible repeat (first | refine kN ?_ _ | refine kD ?_ | refine kA ?_ _)); exact BK398.out) hb); have n3_ := Aside0.mk (kB (g := gb415) (o := .cells #[.int .i64 t412, .int .i64 t413] 24 (0, 0)) (by (with_reducible repeat (first | refine kN ?_ _ | refine kD ?_ | refine kA ?_ _)); refine kF ?_ NB415_419.out _; (with_reducible repeat (first | refine kN ?_ _ | refine kD ?_ | refine kA ?_ _)); refine kF ?_ NB415_419.out _; (with_reducible repeat (first | refine kN ?_ _ | refine kD ?_ | refine kA ?_ _)); exact BK415.out) hb); have n4_ := Aside0.mk (kB (g := gb419) (o := .cells #[.int .i64 t416, .int .i64 t417] 24 (0, 0)) (by (with_reducible repeat (first | refine kN ?_ _ | refine kD ?_ | refine kA ?_ _)); refine blk_put (cs := #[.int .i64 t416, .int .i64 0]) ?_ 1 _ rfl; (with_reducible repeat (first | refine kN ?_ _ | refine kD ?_ | refine kA ?_ _)); refine blk_put (cs := #[.int .i64 0, .int .i64 0]) ?_ 0 _ rfl; (with_reducible repeat (first | refine kN ?_ _ | refine kD ?_ | refine kA ?_ _)); exact BK419.out) hb); have n5_ := Aside0.mk (bT (by repeat (first | (with_reducible first | exact HB.out | apply bA | apply bN | apply b1 | refine bS ?_ GE396.out | refine bS ?_ GE397.out | refine bS ?_ GE398.out | refine bS ?_ GE415.out | refine bS ?_ GE419.out) | exact HB.out)) hb); clear BK396; clear BK397; clear BK398; clear BK415; clear BK419; clear HB; have BK396 := n0_; have BK397 := n1_; have BK398 := n2_; have BK415 := n3_; have BK419 := n4_; have HB := n5_; clear n0_ n1_ n2_ n3_ n4_ n5_; (try clear hb); (try clear hb2); (try clear hk); (try clear hi)) | ((with_reducible refine gate_dst (N := 20) rfl ?_); refine box_event ?hg (N := 20) ?hd (cs := #[.int .i64 0, .int .i64 0]) (t := 24) ?hr ?_; (case hd => rfl); (case hg => rfl); (case hr => first | (go_simp; done) | (go_simp; rfl)); intro gb423 hg w164 hbox hb; have n0_ := Aside0.mk (kB (g := gb396) (o := .cells #[.int .i64 a0_0, .int .i64 a0_1] 24 (0, 0)) (by (with_reducible repeat (first | refine kN ?_ _ | refine kD ?_ | refine kA ?_ _)); exact BK396.out) hb); have n1_ := Aside0.mk (kB (g := gb397) (o := .cells #[.int .i64 a1_0, .int .i64 a1_1] 24 (0, 0)) (by (with_reducible repeat (first | refine kN ?_ _ | refine kD ?_ | refine kA ?_ _)); exact BK397.out) hb); have n2_ := Aside0.mk (kB (g := gb398) (o := .cells #[.int .i64 a2_0, .int .i64 a2_1] 24 (0, 0)) (by (with_reducible repeat (first | refine kN ?_ _ | refine kD ?_ | refine kA ?_ _)); exact BK398.out) hb); have n3_ := Aside0.mk (kB (g := gb415) (o := .cells #[.int .i64 t412, .int .i64 t413] 24 (0, 0)) (by (with_reducible repeat (first | refine kN ?_ _ | refine kD ?_ | refine kA ?_ _)); exact BK415.out) hb); have n4_ := Aside0.mk (kB (g := gb419) (o := .cells #[.int .i64 t416, .int .i64 t417] 24 (0, 0)) (by (with_reducible repeat (first | refine kN ?_ _ | refine kD ?_ | refine kA ?_ _)); exact BK419.out) hb); have n5_ := Aside0.mk (bT (by repeat (first | (with_reducible first | exact HB.out | apply bA | apply bN | apply b1 | refine bS ?_ GE396.out | refine bS ?_ GE397.out | refine bS ?_ GE398.out | refine bS ?_ GE415.out | refine bS ?_ GE419.out) | exact HB.out)) hb); have n6_ := Aside0.mk (hbox); have n7_ := Aside0.mk ((by rw [hg]; exact (bZ (by repeat (first | (with_reducible first | exact HB.out | apply bA | apply bN | apply b1 | refine bS ?_ GE396.out | refine bS ?_ GE397.out | refine bS ?_ GE398.out | refine bS ?_ GE415.out | refine bS ?_ GE419.out) | exact HB.out))) : w.heap.size ≤ gb423)); have n8_ := Aside0.mk ((by rw [hg]; exact (bZ (by repeat (first | (with_reducible first | exact HB.out | apply bA | apply bN | apply b1 | refine bS ?_ GE396.out | refine bS ?_ GE397.out | refine bS ?_ GE398.out | refine bS ?_ GE415.out | refine bS ?_ GE419.out) | exact HB.out))) : w.heap.size ≤ gb423)); have n9_ := Aside0.mk ((by rw [hg]; exact Nat.ne_of_lt (blk_lt (g := gb396) (o := .cells #[.int .i64 a0_0, .int .i64 a0_1] 24 (0, 0)) (by (with_reducible repeat (first | refine kN ?_ _ | refine kD ?_ | refine kA ?_ _)); exact BK396.out)) : gb396 ≠ gb423)); have n10_ := Aside0.mk ((by rw [hg]; exact Nat.ne_of_gt (blk_lt (g := gb396) (o := .cells #[.int .i64 a0_0, .int .i64 a0_1] 24 (0, 0)) (by (with_reducible repeat (first | refine kN ?_ _ | refine kD ?_ | refine kA ?_ _)); exact BK396.out)) : gb423 ≠ gb396)); have n11_ := Aside0.mk ((by rw [hg]; exact Nat.ne_of_lt (blk_lt (g := gb397) (o := .cells #[.int .i64 a1_0, .int .i64 a1_1] 24 (0, 0)) (by (with_reducible repeat (first | refine kN ?_ _ | refine kD ?_ | refine kA ?_ _)); exact BK397.out)) : gb397 ≠ gb423)); have n12_ := Aside0.mk ((by rw [hg]; exact Nat.ne_of_gt (blk_lt (g := gb397) (o := .cells #[.int .i64 a1_0, .int .i64 a1_1] 24 (0, 0)) (by (with_reducible repeat (first | refine kN ?_ _ | refine kD ?_ | refine kA ?_ _)); exact BK397.out)) : gb423 ≠ gb397)); have n13_ := Aside0.mk ((by rw [hg]; exact Nat.ne_of_lt (blk_lt (g := gb398) (o := .cells #[.int .i64 a2_0, .int .i64 a2_1] 24 (0, 0)) (by (with_reducible repeat (first | refine kN ?_ _ | refine kD ?_ | refine kA ?_ _)); exact BK398.out)) : gb398 ≠ gb423)); have n14_ := Aside0.mk ((by rw [hg]; exact Nat.ne_of_gt (blk_lt (g := gb398) (o := .cells #[.int .i64 a2_0, .int .i64 a2_1] 24 (0, 0)) (by (with_reducible repeat (first | refine kN ?_ _ | refine kD ?_ | refine kA ?_ _)); exact BK398.out)) : gb423 ≠ gb398)); have n15_ := Aside0.mk ((by rw [hg]; exact Nat.ne_of_lt (blk_lt (g := gb415) (o := .cells #[.int .i64 t412, .int .i64 t413] 24 (0, 0)) (by (with_reducible repeat (first | refine kN ?_ _ | refine kD ?_ | refine kA ?_ _)); exact BK415.out)) : gb415 ≠ gb423)); have n16_ := Aside0.mk ((by rw [hg]; exact Nat.ne_of_gt (blk_lt (g := gb415) (o := .cells #[.int .i64 t412, .int .i64 t413] 24 (0, 0)) (by (with_reducible repeat (first | refine kN ?_ _ | refine kD ?_ | refine kA ?_ _)); exact BK415.out)) : gb423 ≠ gb415)); have n17_ := Aside0.mk ((by rw [hg]; exact Nat.ne_of_lt (blk_lt (g := gb419) (o := .cells #[.int .i64 t416, .int .i64 t417] 24 (0, 0)) (by (with_reducible repeat (first | refine kN ?_ _ | refine kD ?_ | refine kA ?_ _)); exact BK419.out)) : gb419 ≠ gb423)); have n18_ := Aside0.mk ((by rw [hg]; exact Nat.ne_of_gt (blk_lt (g := gb419) (o := .cells #[.int .i64 t416, .int .i64 t417] 24 (0, 0)) (by (with_reducible repeat (first | refine kN ?_ _ | refine kD ?_ | refine kA ?_ _)); exact BK419.out)) : gb423 ≠ gb419)); clear BK396; clear BK397; clear BK398; clear BK415; clear BK419; clear HB; have BK396 := n0_; have BK397 := n1_; have BK398 := n2_; have BK415 := n3_; have BK419 := n4_; have HB := n5_; have BK423 := n6_; have GW423 := n7_; have GE423 := n8_; have NB396_423 := n9_; have NB423_396 := n10_; have NB397_423 := n11_; have NB423_397 := n12_; have NB398_423 := n13_; have NB423_398 := n14_; have NB415_423 := n15_; have NB423_415 := n16_; have NB419_423 := n17_; have NB423_419 := n18_; clear n0_ n1_ n2_ n3_ n4_ n5_ n6_ n7_ n8_ n9_ n10_ n11_ n12_ n13_ n14_ n15_ n16_ n17_ n18_; clear hb hbox hg; have hnb165 := NB423_396.out; have hnc165 := NB396_423.out; have hnb166 := NB423_397.out; have hnc166 := NB397_423.out; have hnb167 := NB423_398.out; have hnc167 := NB398_423.out; have hnb168 := NB423_415.out; have hnc168 := NB415_423.out; have hnb169 := NB423_419.out; have hnc169 := NB419_423.out; have hcz170_0 : w164.cell? ⟨gb423, 0, none⟩ = some (.int .i64 0) := (kC BK423.out 0).trans rfl; have hcz170_1 : w164.cell? ⟨gb423, 1, none⟩ = some (.int .i64 0) := (kC BK423.out 1).trans rfl; have hfz170_0 := blk_frozen BK423.out 0; have hfz170_1 := blk_frozen BK423.out 1))
             go_ret
             exact ⟨by first | rfl | (simp [errW_none, errW_some] <;> rfl) | (simp [*, errW_none, errW_some] <;> rfl), by repeat (first | (with_reducible first | exact HB.out | apply bA | apply bN | apply b1 | refine bS ?_ GE396.out | refine bS ?_ GE397.out | refine bS ?_ GE398.out | refine bS ?_ GE415.out | refine bS ?_ GE419.out | refine bS ?_ GE423.out) | exact HB.out)⟩
            ·replace c145 := Bool.eq_false_iff.mpr c145
             subst c145
             have H1 : (none) = some r := by rw [if_neg (show ¬ (false = true) by decide)] at H; exact H
             clear H
             have H := H1
             clear H1
             exact absurd H (by simp)
 ·replace c6 := Bool.eq_false_iff.mpr c6
  subst c6
  have H1 : (if t399 = true then (some true) else (none)) = some r := by rw [if_neg (show ¬ (false = true) by decide)] at H; exact H
  clear H
  have H := H1
  clear H1
  by_cases c171 : t399 = true
  ·subst c171
   have H1 : (some true) = some r := by rw [if_pos rfl] at H; exact H
   clear H
   have H := H1
   clear H1
   obtain rfl := Option.some.inj H
   go_enter Tryd.func8, Tryd.ntmps8
   go_wp2_with (first | ((with_reducible refine gate_dst (N := 3) rfl ?_); refine box_event ?hg (N := 3) ?hd (cs := #[.int .i64 a0_0, .int .i64 a0_1]) (t := 24) ?hr ?_; (case hd => rfl); (case hg => rfl); (case hr => first | (go_simp; done) | (go_simp; rfl)); intro gb396 hg w172 hbox hb; have n0_ := Aside0.mk (bT (by repeat (first | (with_reducible first | exact HB.out | apply bA | apply bN | apply b1) | exact HB.out)) hb); have n1_ := Aside0.mk (hbox); have n2_ := Aside0.mk ((by rw [hg]; exact (bZ (by repeat (first | (with_reducible first | exact HB.out | apply bA | apply bN | apply b1) | exact HB.out))) : w.heap.size ≤ gb396)); have n3_ := Aside0.mk ((by rw [hg]; exact (bZ (by repeat (first | (with_reducible first | exact HB.out | apply bA | apply bN | apply b1) | exact HB.out))) : w.heap.size ≤ gb396)); clear HB; have HB := n0_; have BK396 := n1_; have GW396 := n2_; have GE396 := n3_; clear n0_ n1_ n2_ n3_; clear hb hbox hg) | ((with_reducible refine gate_dst (N := 4) rfl ?_); refine box_event ?hg (N := 4) ?hd (cs := #[.int .i64 a1_0, .int .i64 a1_1]) (t := 24) ?hr ?_; (case hd => rfl); (case hg => rfl); (case hr => first | (go_simp; done) | (go_simp; rfl)); intro gb397 hg w173 hbox hb; have n0_ := Aside0.mk (kB (g := gb396) (o := .cells #[.int .i64 a0_0, .int .i64 a0_1] 24 (0, 0)) (by (with_reducible repeat (first | refine kN ?_ _ | refine kD ?_ | refine kA ?_ _)); exact BK396.out) hb); have n1_ := Aside0.mk (bT (by repeat (first | (with_reducible first | exact HB.out | apply bA | apply bN | apply b1 | refine bS ?_ GE396.out) | exact HB.out)) hb); have n2_ := Aside0.mk (hbox); have n3_ := Aside0.mk ((by rw [hg]; exact (bZ (by repeat (first | (with_reducible first | exact HB.out | apply bA | apply bN | apply b1 | refine bS ?_ GE396.out) | exact HB.out))) : w.heap.size ≤ gb397)); have n4_ := Aside0.mk ((by rw [hg]; exact (bZ (by repeat (first | (with_reducible first | exact HB.out | apply bA | apply bN | apply b1 | refine bS ?_ GE396.out) | exact HB.out))) : w.heap.size ≤ gb397)); have n5_ := Aside0.mk ((by rw [hg]; exact Nat.ne_of_lt (blk_lt (g := gb396) (o := .cells #[.int .i64 a0_0, .int .i64 a0_1] 24 (0, 0)) (by (with_reducible repeat (first | refine kN ?_ _ | refine kD ?_ | refine kA ?_ _)); exact BK396.out)) : gb396 ≠ gb397)); have n6_ := Aside0.mk ((by rw [hg]; exact Nat.ne_of_gt (blk_lt (g := gb396) (o := .cells #[.int .i64 a0_0, .int .i64 a0_1] 24 (0, 0)) (by (with_reducible repeat (first | refine kN ?_ _ | refine kD ?_ | refine kA ?_ _)); exact BK396.out)) : gb397 ≠ gb396)); clear BK396; clear HB; have BK396 := n0_; have HB := n1_; have BK397 := n2_; have GW397 := n3_; have GE397 := n4_; have NB396_397 := n5_; have NB397_396 := n6_; clear n0_ n1_ n2_ n3_ n4_ n5_ n6_; clear hb hbox hg) | ((with_reducible refine gate_dst (N := 5) rfl ?_); refine box_event ?hg (N := 5) ?hd (cs := #[.int .i64 a2_0, .int .i64 a2_1]) (t := 24) ?hr ?_; (case hd => rfl); (case hg => rfl); (case hr => first | (go_simp; done) | (go_simp; rfl)); intro gb398 hg w174 hbox hb; have n0_ := Aside0.mk (kB (g := gb396) (o := .cells #[.int .i64 a0_0, .int .i64 a0_1] 24 (0, 0)) (by (with_reducible repeat (first | refine kN ?_ _ | refine kD ?_ | refine kA ?_ _)); exact BK396.out) hb); have n1_ := Aside0.mk (kB (g := gb397) (o := .cells #[.int .i64 a1_0, .int .i64 a1_1] 24 (0, 0)) (by (with_reducible repeat (first | refine kN ?_ _ | refine kD ?_ | refine kA ?_ _)); exact BK397.out) hb); have n2_ := Aside0.mk (bT (by repeat (first | (with_reducible first | exact HB.out | apply bA | apply bN | apply b1 | refine bS ?_ GE396.out | refine bS ?_ GE397.out) | exact HB.out)) hb); have n3_ := Aside0.mk (hbox); have n4_ := Aside0.mk ((by rw [hg]; exact (bZ (by repeat (first | (with_reducible first | exact HB.out | apply bA | apply bN | apply b1 | refine bS ?_ GE396.out | refine bS ?_ GE397.out) | exact HB.out))) : w.heap.size ≤ gb398)); have n5_ := Aside0.mk ((by rw [hg]; exact (bZ (by repeat (first | (with_reducible first | exact HB.out | apply bA | apply bN | apply b1 | refine bS ?_ GE396.out | refine bS ?_ GE397.out) | exact HB.out))) : w.heap.size ≤ gb398)); have n6_ := Aside0.mk ((by rw [hg]; exact Nat.ne_of_lt (blk_lt (g := gb396) (o := .cells #[.int .i64 a0_0, .int .i64 a0_1] 24 (0, 0)) (by (with_reducible repeat (first | refine kN ?_ _ | refine kD ?_ | refine kA ?_ _)); exact BK396.out)) : gb396 ≠ gb398)); have n7_ := Aside0.mk ((by rw [hg]; exact Nat.ne_of_gt (blk_lt (g := gb396) (o := .cells #[.int .i64 a0_0, .int .i64 a0_1] 24 (0, 0)) (by (with_reducible repeat (first | refine kN ?_ _ | refine kD ?_ | refine kA ?_ _)); exact BK396.out)) : gb398 ≠ gb396)); have n8_ := Aside0.mk ((by rw [hg]; exact Nat.ne_of_lt (blk_lt (g := gb397) (o := .cells #[.int .i64 a1_0, .int .i64 a1_1] 24 (0, 0)) (by (with_reducible repeat (first | refine kN ?_ _ | refine kD ?_ | refine kA ?_ _)); exact BK397.out)) : gb397 ≠ gb398)); have n9_ := Aside0.mk ((by rw [hg]; exact Nat.ne_of_gt (blk_lt (g := gb397) (o := .cells #[.int .i64 a1_0, .int .i64 a1_1] 24 (0, 0)) (by (with_reducible repeat (first | refine kN ?_ _ | refine kD ?_ | refine kA ?_ _)); exact BK397.out)) : gb398 ≠ gb397)); clear BK396; clear BK397; clear HB; have BK396 := n0_; have BK397 := n1_; have HB := n2_; have BK398 := n3_; have GW398 := n4_; have GE398 := n5_; have NB396_398 := n6_; have NB398_396 := n7_; have NB397_398 := n8_; have NB398_397 := n9_; clear n0_ n1_ n2_ n3_ n4_ n5_ n6_ n7_ n8_ n9_; clear hb hbox hg) | ((with_reducible refine gate_callee (f := 10) rfl ?_); refine goesL_ (some 24) rfl rfl Tryd.func10 (by kernel_rfl) rfl #[] rfl (by (try simp only [List.map_toArray, List.map_cons, List.map_nil]); first | done | rfl | (simp only [List.length_drop, List.length_take]; rfl)) ?_; (with_reducible refine (cohousinglaw01_head.calls k  true _ ?side1 A4.out).mono ?_); (case side1 => exact GL.below HG.out (by repeat (first | (with_reducible first | exact HB.out | apply bA | apply bN | apply b1 | refine bS ?_ GE396.out | refine bS ?_ GE397.out | refine bS ?_ GE398.out) | exact HB.out))); rintro e w175 ⟨rfl, hb⟩; refine ⟨_, rfl, ?_⟩; have n0_ := Aside0.mk (kB (g := gb396) (o := .cells #[.int .i64 a0_0, .int .i64 a0_1] 24 (0, 0)) (by (with_reducible repeat (first | refine kN ?_ _ | refine kD ?_ | refine kA ?_ _)); exact BK396.out) hb); have n1_ := Aside0.mk (kB (g := gb397) (o := .cells #[.int .i64 a1_0, .int .i64 a1_1] 24 (0, 0)) (by (with_reducible repeat (first | refine kN ?_ _ | refine kD ?_ | refine kA ?_ _)); exact BK397.out) hb); have n2_ := Aside0.mk (kB (g := gb398) (o := .cells #[.int .i64 a2_0, .int .i64 a2_1] 24 (0, 0)) (by (with_reducible repeat (first | refine kN ?_ _ | refine kD ?_ | refine kA ?_ _)); exact BK398.out) hb); have n3_ := Aside0.mk (bT (by repeat (first | (with_reducible first | exact HB.out | apply bA | apply bN | apply b1 | refine bS ?_ GE396.out | refine bS ?_ GE397.out | refine bS ?_ GE398.out) | exact HB.out)) hb); clear BK396; clear BK397; clear BK398; clear HB; have BK396 := n0_; have BK397 := n1_; have BK398 := n2_; have HB := n3_; clear n0_ n1_ n2_ n3_; (try clear hb); (try clear hb2); (try clear hk); (try clear hi); have hnb176 := NB396_397.out; have hnc176 := NB397_396.out; have hnb177 := NB396_398.out; have hnc177 := NB398_396.out; have hcz178_0 : w175.cell? ⟨gb396, 0, none⟩ = some (.int .i64 a0_0) := (kC BK396.out 0).trans rfl; have hcz178_1 : w175.cell? ⟨gb396, 1, none⟩ = some (.int .i64 a0_1) := (kC BK396.out 1).trans rfl; have hfz178_0 := blk_frozen BK396.out 0; have hfz178_1 := blk_frozen BK396.out 1; have hnb179 := NB397_398.out; have hnc179 := NB398_397.out; have hcz180_0 : w175.cell? ⟨gb397, 0, none⟩ = some (.int .i64 a1_0) := (kC BK397.out 0).trans rfl; have hcz180_1 : w175.cell? ⟨gb397, 1, none⟩ = some (.int .i64 a1_1) := (kC BK397.out 1).trans rfl; have hfz180_0 := blk_frozen BK397.out 0; have hfz180_1 := blk_frozen BK397.out 1; have hcz181_0 : w175.cell? ⟨gb398, 0, none⟩ = some (.int .i64 a2_0) := (kC BK398.out 0).trans rfl; have hcz181_1 : w175.cell? ⟨gb398, 1, none⟩ = some (.int .i64 a2_1) := (kC BK398.out 1).trans rfl; have hfz181_0 := blk_frozen BK398.out 0; have hfz181_1 := blk_frozen BK398.out 1) | ((with_reducible refine gate_dst (N := 28) rfl ?_); refine Kd.R_lit k24 _ 24 ?hg (N := 28) ?hd (xs := ([(⟨a0_0, a0_1⟩ : S24), (⟨a1_0, a1_1⟩ : S24), (⟨a2_0, a2_1⟩ : S24)] : List (S24))) (inner := [.int .i64 a0_0, .int .i64 a0_1, .int .i64 a1_0, .int .i64 a1_1, .int .i64 a2_0, .int .i64 a2_1]) (ok := fun _ => True) (okp := fun _ => True) ?hr ?hp (fun _ hk => hk) trivial (Below.refl _ _) (Nat.le_refl _) (by simp) ?_; (case hd => rfl); (case hg => rfl); (case hr => first | (go_simp; done) | (go_simp; rfl)); (case hp => exact (Reps.c2 (show Kd.M k24 _ _ _ (⟨a0_0, a0_1⟩ : S24) [.int .i64 a0_0, .int .i64 a0_1] from (k24_mkM _ _ _ (⟨a0_0, a0_1⟩ : S24) )) (Reps.c2 (show Kd.M k24 _ _ _ (⟨a1_0, a1_1⟩ : S24) [.int .i64 a1_0, .int .i64 a1_1] from (k24_mkM _ _ _ (⟨a1_0, a1_1⟩ : S24) )) (Reps.c2 (show Kd.M k24 _ _ _ (⟨a2_0, a2_1⟩ : S24) [.int .i64 a2_0, .int .i64 a2_1] from (k24_mkM _ _ _ (⟨a2_0, a2_1⟩ : S24) )) (Reps.none _ _))))); intro v401 w182 ho183 hb hg_ hnew_; clear hg_ hnew_; (first | rw [← Ny400.out] at ho183 | (simp only [Int.reduceToNat] at ho183; rw [← Ny400.out] at ho183)); have n0_ := Aside0.mk (Kd.R_lower (Kd.R_newB (Kd.R_newB (Kd.R_newB ho183 (g := gb396) (o := .cells #[.int .i64 a0_0, .int .i64 a0_1] 24 (0, 0)) (by (with_reducible repeat (first | refine kN ?_ _ | refine kD ?_ | refine kA ?_ _)); exact BK396.out)) (g := gb397) (o := .cells #[.int .i64 a1_0, .int .i64 a1_1] 24 (0, 0)) (by (with_reducible repeat (first | refine kN ?_ _ | refine kD ?_ | refine kA ?_ _)); exact BK397.out)) (g := gb398) (o := .cells #[.int .i64 a2_0, .int .i64 a2_1] 24 (0, 0)) (by (with_reducible repeat (first | refine kN ?_ _ | refine kD ?_ | refine kA ?_ _)); exact BK398.out)) (bZ (by repeat (first | (with_reducible first | exact HB.out | apply bA | apply bN | apply b1 | refine bS ?_ GE396.out | refine bS ?_ GE397.out | refine bS ?_ GE398.out) | exact HB.out)))); have n1_ := Aside0.mk (kB (g := gb396) (o := .cells #[.int .i64 a0_0, .int .i64 a0_1] 24 (0, 0)) (by (with_reducible repeat (first | refine kN ?_ _ | refine kD ?_ | refine kA ?_ _)); exact BK396.out) hb); have n2_ := Aside0.mk (kB (g := gb397) (o := .cells #[.int .i64 a1_0, .int .i64 a1_1] 24 (0, 0)) (by (with_reducible repeat (first | refine kN ?_ _ | refine kD ?_ | refine kA ?_ _)); exact BK397.out) hb); have n3_ := Aside0.mk (kB (g := gb398) (o := .cells #[.int .i64 a2_0, .int .i64 a2_1] 24 (0, 0)) (by (with_reducible repeat (first | refine kN ?_ _ | refine kD ?_ | refine kA ?_ _)); exact BK398.out) hb); have n4_ := Aside0.mk (bT (by repeat (first | (with_reducible first | exact HB.out | apply bA | apply bN | apply b1 | refine bS ?_ GE396.out | refine bS ?_ GE397.out | refine bS ?_ GE398.out) | exact HB.out)) hb); clear BK396; clear BK397; clear BK398; clear HB; have HO402 := n0_; have BK396 := n1_; have BK397 := n2_; have BK398 := n3_; have HB := n4_; clear n0_ n1_ n2_ n3_ n4_; clear hb ho183; obtain ⟨Ao184, co184, eo184⟩ := Kd.R_slice HO402.out; subst eo184) | ((with_reducible refine gate_callee (f := 14) rfl ?_); refine goesL_ (some 29) rfl rfl Tryd.func14 (by kernel_rfl) rfl #[.slice Ao184 y400.length co184] rfl (by (try simp only [List.map_toArray, List.map_cons, List.map_nil]); first | done | rfl | (simp only [List.length_drop, List.length_take]; rfl)) ?_; (with_reducible refine (cohousinglaw01_numbers.calls k _ _ y400 false _ ?side1 ?side2 A5.out).mono ?_); (case side1 => repeat (first | exact (Kd.R_reads' HO402.out).2.2 | (with_reducible refine Kd.C_alloc ?_ _) | (with_reducible refine Kd.C_drewN ?_ _) | (with_reducible refine Kd.C_drew ?_))); (case side2 => exact (Kd.R_reads' HO402.out).2.1); rintro e w185 ⟨rfl, hb⟩; refine ⟨_, rfl, ?_⟩; have n0_ := Aside0.mk (Kd.R_below (by (with_reducible repeat (first | apply Kd.R_alloc | apply Kd.R_drewN | apply Kd.R_drew)); exact HO402.out) hb); have n1_ := Aside0.mk (kB (g := gb396) (o := .cells #[.int .i64 a0_0, .int .i64 a0_1] 24 (0, 0)) (by (with_reducible repeat (first | refine kN ?_ _ | refine kD ?_ | refine kA ?_ _)); exact BK396.out) hb); have n2_ := Aside0.mk (kB (g := gb397) (o := .cells #[.int .i64 a1_0, .int .i64 a1_1] 24 (0, 0)) (by (with_reducible repeat (first | refine kN ?_ _ | refine kD ?_ | refine kA ?_ _)); exact BK397.out) hb); have n3_ := Aside0.mk (kB (g := gb398) (o := .cells #[.int .i64 a2_0, .int .i64 a2_1] 24 (0, 0)) (by (with_reducible repeat (first | refine kN ?_ _ | refine kD ?_ | refine kA ?_ _)); exact BK398.out) hb); have n4_ := Aside0.mk (bT (by repeat (first | (with_reducible first | exact HB.out | apply bA | apply bN | apply b1 | refine bS ?_ GE396.out | refine bS ?_ GE397.out | refine bS ?_ GE398.out) | exact HB.out)) hb); clear HO402; clear BK396; clear BK397; clear BK398; clear HB; have HO402 := n0_; have BK396 := n1_; have BK397 := n2_; have BK398 := n3_; have HB := n4_; clear n0_ n1_ n2_ n3_ n4_; (try clear hb); (try clear hb2); (try clear hk); (try clear hi)))
   go_ret
   exact ⟨by first | rfl | (simp [errW_none, errW_some] <;> rfl) | (simp [*, errW_none, errW_some] <;> rfl), by repeat (first | (with_reducible first | exact HB.out | apply bA | apply bN | apply b1 | refine bS ?_ GE396.out | refine bS ?_ GE397.out | refine bS ?_ GE398.out) | exact HB.out)⟩
  ·replace c171 := Bool.eq_false_iff.mpr c171
   subst c171
   have H1 : (none) = some r := by rw [if_neg (show ¬ (false = true) by decide)] at H; exact H
   clear H
   have H := H1
   clear H1
   exact absurd H (by simp)

end Go.Proofs.YteifflpjhlgpjaaDoor.X
