-- Written by a program of mine (wip/tools/xprint.py) over the kit's print.py: printed functions and hand-proved ones side by side.
import Derived.Test.YthcjocojngochaaGreatDoorXx0
import Derived.Test.YthcjocojngochaaGreatDoorXx9
import Derived.Test.YthcjocojngochaaGreatDoorXx13
import Derived.Test.YthcjocojngochaaGreatDoorXx14
import Derived.Test.YthcjocojngochaaGreatDoorXx16
import Derived.Test.YthcjocojngochaaGreatDoorXx11
namespace Go.Proofs.YthcjocojngochaaGreatDoor.X
open Go.RowKit Go.Proofs.YthcjocojngochaaGreatDoorW.PrintWords Go.Proofs.YthcjocojngochaaGreatDoorW.PrintLast Go.Proofs.YthcjocojngochaaGreatDoorW.PrintMore
attribute [local go_sem] max2_int min2_int max_two min_two max_three min_three max_four min_four   -- for this text's walks alone
set_option linter.unusedVariables false
set_option linter.unusedSimpArgs false

theorem info3 : (Tryz.prog.info? 3).map (fun i => (i.zero, i.size, i.bytes)) = some (some (.int .i64 0), 1, 8) := by kernel_rfl

/-! ### span_Meet: function 29 -/
-- by hand: cohousing/span.Meet
section
open Go.Sort (grow alloc_eq_grow grow_grow)
theorem keep38 (x y : Bool) (W : World) : Calls Tryz.prog 61 #[.bool x, .bool y] W fun e w' => e = .returned (.bool (x && y)) ∧ w' = W := by
  cases x <;> cases y <;> (go_enter Tryz.func61, Tryz.ntmps61; go_wp2; go_ret; exact ⟨rfl, rfl⟩)
/-- The days of both. -/
def span_Meet.f (k : Nat) (l0 l1 : List S24) : Option (List S24 × Int) := sweepO (fun x y => x && y) k l0 l1
theorem span_Meet.mono : ∀ l0 l1 k, LeO (span_Meet.f k l0 l1) (span_Meet.f (k + 1) l0 l1) := fun l0 l1 k => sweepO_mono _ k l0 l1
set_option maxHeartbeats 4000000 in
theorem span_Meet.calls (k : Nat) (A0 : Option Addr) (c0 : Nat) (l0 : List S24) (A1 : Option Addr) (c1 : Nat) (l1 : List S24) (r1 : List S24) (r2 : Int) (w : World) (hr0 : Kd.C k24 w A0 l0.length l0) (hc0 : l0.length ≤ c0) (hr1 : Kd.C k24 w A1 l1.length l1) (hc1 : l1.length ≤ c1) (h : span_Meet.f k l0 l1 = some (r1, r2)) :
    Calls Tryz.prog 29 #[.slice A0 l0.length c0, .slice A1 l1.length c1] w fun e w' => ∃ v0_ : Value, e = .returned (.tuple #[v0_, .int .i64 r2]) ∧ Kd.R k24 24 w' w.heap.size (fun _ => True) v0_ r1 ∧ Below w.heap.size w w' := by
  have HS := Lib.hid (sweep_all _ 61 keep38 (enters_of Tryz.func61 (by kernel_rfl) rfl) k A0 A1 c0 c1 l0 l1 r1 r2 w hr0 hc0 hr1 hc1 h)
  clear hr0 hc0 hr1 hc1 h
  go_enter Tryz.func29, Tryz.ntmps29
  go_wp2_with (go_at_call 59; refine HS.out.mono ?_; rintro e w1 ⟨v, rfl, ho, hb⟩; have HO := Lib.hid ho; have HB := Lib.hid hb; clear ho hb)
  go_ret2
  exact ⟨_, rfl, HO.out, HB.out⟩

end

/-! ### span_Union: function 30 -/
-- by hand: cohousing/span.Union
section
open Go.Sort (grow alloc_eq_grow grow_grow)
theorem keep37 (x y : Bool) (W : World) : Calls Tryz.prog 62 #[.bool x, .bool y] W fun e w' => e = .returned (.bool (x || y)) ∧ w' = W := by
  cases x <;> cases y <;> (go_enter Tryz.func62, Tryz.ntmps62; go_wp2; go_ret; exact ⟨rfl, rfl⟩)
/-- The days of either one. -/
def span_Union.f (k : Nat) (l0 l1 : List S24) : Option (List S24 × Int) := sweepO (fun x y => x || y) k l0 l1
theorem span_Union.mono : ∀ l0 l1 k, LeO (span_Union.f k l0 l1) (span_Union.f (k + 1) l0 l1) := fun l0 l1 k => sweepO_mono _ k l0 l1
set_option maxHeartbeats 4000000 in
theorem span_Union.calls (k : Nat) (A0 : Option Addr) (c0 : Nat) (l0 : List S24) (A1 : Option Addr) (c1 : Nat) (l1 : List S24) (r1 : List S24) (r2 : Int) (w : World) (hr0 : Kd.C k24 w A0 l0.length l0) (hc0 : l0.length ≤ c0) (hr1 : Kd.C k24 w A1 l1.length l1) (hc1 : l1.length ≤ c1) (h : span_Union.f k l0 l1 = some (r1, r2)) :
    Calls Tryz.prog 30 #[.slice A0 l0.length c0, .slice A1 l1.length c1] w fun e w' => ∃ v0_ : Value, e = .returned (.tuple #[v0_, .int .i64 r2]) ∧ Kd.R k24 24 w' w.heap.size (fun _ => True) v0_ r1 ∧ Below w.heap.size w w' := by
  have HS := Lib.hid (sweep_all _ 62 keep37 (enters_of Tryz.func62 (by kernel_rfl) rfl) k A0 A1 c0 c1 l0 l1 r1 r2 w hr0 hc0 hr1 hc1 h)
  clear hr0 hc0 hr1 hc1 h
  go_enter Tryz.func30, Tryz.ntmps30
  go_wp2_with (go_at_call 59; refine HS.out.mono ?_; rintro e w1 ⟨v, rfl, ho, hb⟩; have HO := Lib.hid ho; have HB := Lib.hid hb; clear ho hb)
  go_ret2
  exact ⟨_, rfl, HO.out, HB.out⟩

end

/-! ### cohousinglaw16_FactsValues: function 9 -/
mutual
def cohousinglaw16_FactsValues.j0 : Nat → List (S26) → Int → ByteArray → Int → Int → Bool → Option (Bool)
  | 0, _, _, _, _, _, _ => none
  | k + 1, x0, x1, x2, x3, x4, x38 => if x38 = true then (some true) else ((facts_Value.f x0 x1 x2 x4 x3).bind fun bt278 => (if bt278.2.2 = 0 then (cohousinglaw16_FactsValues.l0 k x0 x1 x2 x3 x4 true bt278.2.1 ([] : List Int) x0 (x0.length : Int) 0) else (some true)))
def cohousinglaw16_FactsValues.l0 : Nat → List (S26) → Int → ByteArray → Int → Int → Bool → Bool → List Int → List (S26) → Int → Int → Option (Bool)
  | 0, _, _, _, _, _, _, _, _, _, _, _ => none
  | k + 1, x0, x1, x2, x3, x4, x11, x13, x15, x53, x54, x55 => if x55 < x54 then (if 0 ≤ x55 then (if x55 < (x53.length : Int) then (cohousinglaw16_FactsValues.l1 k x0 x1 x2 x3 x4 x11 x13 x15 false x53 x54 x55 x15 (x15.length : Int) 0 ((rd_T26 x53 x55).f0) ((rd_T26 x53 x55).f1) ((rd_T26 x53 x55).f2) ((rd_T26 x53 x55).f3.f0) ((rd_T26 x53 x55).f3.f1) ((rd_T26 x53 x55).f4) ((rd_T26 x53 x55).f5)) else (none)) else (none)) else (cohousinglaw16_FactsValues.l2 k x0 x1 x2 x3 x4 x11 x13 ([] : List (S24)) x15 (x15.length : Int) 0)
def cohousinglaw16_FactsValues.l1 : Nat → List (S26) → Int → ByteArray → Int → Int → Bool → Bool → List Int → Bool → List (S26) → Int → Int → List Int → Int → Int → Int → ByteArray → Int → Int → Int → Int → Bool → Option (Bool)
  | 0, _, _, _, _, _, _, _, _, _, _, _, _, _, _, _, _, _, _, _, _, _, _ => none
  | k + 1, x0, x1, x2, x3, x4, x11, x13, x15, x18, x53, x54, x55, x59, x60, x61, x283000, x283001, x283002, x283003, x283004, x283005, x283006 => if x61 < x60 then (if 0 ≤ x61 then (if x61 < (x59.length : Int) then (if x18 = true then (cohousinglaw16_FactsValues.l1 k x0 x1 x2 x3 x4 x11 x13 x15 true x53 x54 x55 x59 x60 (wrap64 (x61 + 1)) x283000 x283001 x283002 x283003 x283004 x283005 x283006) else (cohousinglaw16_FactsValues.l1 k x0 x1 x2 x3 x4 x11 x13 x15 ((rd x59 x61) == x283002) x53 x54 x55 x59 x60 (wrap64 (x61 + 1)) x283000 x283001 x283002 x283003 x283004 x283005 x283006)) else (none)) else (none)) else (if x18 = true then (cohousinglaw16_FactsValues.l0 k x0 x1 x2 x3 x4 x11 x13 x15 x53 x54 (wrap64 (x55 + 1))) else (if x15.length < 17592186044416 then (cohousinglaw16_FactsValues.l0 k x0 x1 x2 x3 x4 x11 x13 (x15 ++ [x283002]) x53 x54 (wrap64 (x55 + 1))) else (none)))
def cohousinglaw16_FactsValues.l2 : Nat → List (S26) → Int → ByteArray → Int → Int → Bool → Bool → List (S24) → List Int → Int → Int → Option (Bool)
  | 0, _, _, _, _, _, _, _, _, _, _, _ => none
  | k + 1, x0, x1, x2, x3, x4, x11, x13, x21, x81, x82, x83 => if x83 < x82 then (if 0 ≤ x83 then (if x83 < (x81.length : Int) then ((facts_Days.f x0 x1 x2 (rd x81 x83) x3).bind fun bt289 => ((span_Meet.f k x21 bt289.1).bind fun bt293 => ((span_Union.f k x21 bt289.1).bind fun bt297 => (if bt289.2 = 0 then (if bt293.2 = 0 then (if bt297.2 = 0 then (if (bt293.1.length : Int) = 0 then (cohousinglaw16_FactsValues.l2 k x0 x1 x2 x3 x4 x11 x13 bt297.1 x81 x82 (wrap64 (x83 + 1))) else (none)) else (none)) else (none)) else (none))))) else (none)) else (none)) else (if x11 = true then ((cohousinglaw16_has.f k x21 x4).bind fun t287 => (if (t287 == x13) = true then (some true) else (none))) else (none))
end
def cohousinglaw16_FactsValues.f (k : Nat) (l0 : List (S26)) (a1 : Int) (a2 : ByteArray) (a3 : Int) (a4 : Int) : Option (Bool) := (cohousinglaw16_head.f k).bind fun t276 => (if t276 = true then (if (l0.length : Int) > 60 then (cohousinglaw16_FactsValues.j0 k l0 a1 a2 a3 a4 true) else ((facts_Valid.f l0).bind fun t277 => (cohousinglaw16_FactsValues.j0 k l0 a1 a2 a3 a4 (!t277)))) else (none))
theorem cohousinglaw16_FactsValues.mono_l : ∀ k, (∀ y0 y1 y2 y3 y4 y5, LeO (cohousinglaw16_FactsValues.j0 k y0 y1 y2 y3 y4 y5) (cohousinglaw16_FactsValues.j0 (k + 1) y0 y1 y2 y3 y4 y5)) ∧ (∀ y0 y1 y2 y3 y4 y5 y6 y7 y8 y9 y10, LeO (cohousinglaw16_FactsValues.l0 k y0 y1 y2 y3 y4 y5 y6 y7 y8 y9 y10) (cohousinglaw16_FactsValues.l0 (k + 1) y0 y1 y2 y3 y4 y5 y6 y7 y8 y9 y10)) ∧ (∀ y0 y1 y2 y3 y4 y5 y6 y7 y8 y9 y10 y11 y12 y13 y14 y15 y16 y17 y18 y19 y20 y21, LeO (cohousinglaw16_FactsValues.l1 k y0 y1 y2 y3 y4 y5 y6 y7 y8 y9 y10 y11 y12 y13 y14 y15 y16 y17 y18 y19 y20 y21) (cohousinglaw16_FactsValues.l1 (k + 1) y0 y1 y2 y3 y4 y5 y6 y7 y8 y9 y10 y11 y12 y13 y14 y15 y16 y17 y18 y19 y20 y21)) ∧ (∀ y0 y1 y2 y3 y4 y5 y6 y7 y8 y9 y10, LeO (cohousinglaw16_FactsValues.l2 k y0 y1 y2 y3 y4 y5 y6 y7 y8 y9 y10) (cohousinglaw16_FactsValues.l2 (k + 1) y0 y1 y2 y3 y4 y5 y6 y7 y8 y9 y10))
  | 0 => ⟨fun _ _ _ _ _ _ r h => by simp [cohousinglaw16_FactsValues.j0] at h, fun _ _ _ _ _ _ _ _ _ _ _ r h => by simp [cohousinglaw16_FactsValues.l0] at h, fun _ _ _ _ _ _ _ _ _ _ _ _ _ _ _ _ _ _ _ _ _ _ r h => by simp [cohousinglaw16_FactsValues.l1] at h, fun _ _ _ _ _ _ _ _ _ _ _ r h => by simp [cohousinglaw16_FactsValues.l2] at h⟩
  | k + 1 => by
    obtain ⟨ih0, ih1, ih2, ih3⟩ := cohousinglaw16_FactsValues.mono_l k
    refine ⟨?_, ?_, ?_, ?_⟩
    · intro y0 y1 y2 y3 y4 y5
      unfold cohousinglaw16_FactsValues.j0
      repeat' first
      | (with_reducible exact ih0 _ _ _ _ _ _)
      | (with_reducible exact ih1 _ _ _ _ _ _ _ _ _ _ _)
      | (with_reducible exact ih2 _ _ _ _ _ _ _ _ _ _ _ _ _ _ _ _ _ _ _ _ _ _)
      | (with_reducible exact ih3 _ _ _ _ _ _ _ _ _ _ _)
      | (with_reducible exact cohousinglaw16_has.mono _ _ _)
      | (with_reducible exact cohousinglaw16_head.mono _)
      | (with_reducible exact span_Meet.mono _ _ _)
      | (with_reducible exact span_Union.mono _ _ _)
      | (with_reducible exact LeO.refl _)
      | (with_reducible exact LeO.none _)
      | (with_reducible refine LeO.ite ?_ ?_)
      | (with_reducible refine LeO.bind ?_ (fun _ => ?_))
      | exact ih0 _ _ _ _ _ _
      | exact ih1 _ _ _ _ _ _ _ _ _ _ _
      | exact ih2 _ _ _ _ _ _ _ _ _ _ _ _ _ _ _ _ _ _ _ _ _ _
      | exact ih3 _ _ _ _ _ _ _ _ _ _ _
      | exact cohousinglaw16_has.mono _ _ _
      | exact cohousinglaw16_head.mono _
      | exact span_Meet.mono _ _ _
      | exact span_Union.mono _ _ _
      | exact LeO.none _
      | refine LeO.ite ?_ ?_
      | refine LeO.bind ?_ (fun _ => ?_)
    · intro y0 y1 y2 y3 y4 y5 y6 y7 y8 y9 y10
      unfold cohousinglaw16_FactsValues.l0
      repeat' first
      | (with_reducible exact ih0 _ _ _ _ _ _)
      | (with_reducible exact ih1 _ _ _ _ _ _ _ _ _ _ _)
      | (with_reducible exact ih2 _ _ _ _ _ _ _ _ _ _ _ _ _ _ _ _ _ _ _ _ _ _)
      | (with_reducible exact ih3 _ _ _ _ _ _ _ _ _ _ _)
      | (with_reducible exact cohousinglaw16_has.mono _ _ _)
      | (with_reducible exact cohousinglaw16_head.mono _)
      | (with_reducible exact span_Meet.mono _ _ _)
      | (with_reducible exact span_Union.mono _ _ _)
      | (with_reducible exact LeO.refl _)
      | (with_reducible exact LeO.none _)
      | (with_reducible refine LeO.ite ?_ ?_)
      | (with_reducible refine LeO.bind ?_ (fun _ => ?_))
      | exact ih0 _ _ _ _ _ _
      | exact ih1 _ _ _ _ _ _ _ _ _ _ _
      | exact ih2 _ _ _ _ _ _ _ _ _ _ _ _ _ _ _ _ _ _ _ _ _ _
      | exact ih3 _ _ _ _ _ _ _ _ _ _ _
      | exact cohousinglaw16_has.mono _ _ _
      | exact cohousinglaw16_head.mono _
      | exact span_Meet.mono _ _ _
      | exact span_Union.mono _ _ _
      | exact LeO.none _
      | refine LeO.ite ?_ ?_
      | refine LeO.bind ?_ (fun _ => ?_)
    · intro y0 y1 y2 y3 y4 y5 y6 y7 y8 y9 y10 y11 y12 y13 y14 y15 y16 y17 y18 y19 y20 y21
      unfold cohousinglaw16_FactsValues.l1
      repeat' first
      | (with_reducible exact ih0 _ _ _ _ _ _)
      | (with_reducible exact ih1 _ _ _ _ _ _ _ _ _ _ _)
      | (with_reducible exact ih2 _ _ _ _ _ _ _ _ _ _ _ _ _ _ _ _ _ _ _ _ _ _)
      | (with_reducible exact ih3 _ _ _ _ _ _ _ _ _ _ _)
      | (with_reducible exact cohousinglaw16_has.mono _ _ _)
      | (with_reducible exact cohousinglaw16_head.mono _)
      | (with_reducible exact span_Meet.mono _ _ _)
      | (with_reducible exact span_Union.mono _ _ _)
      | (with_reducible exact LeO.refl _)
      | (with_reducible exact LeO.none _)
      | (with_reducible refine LeO.ite ?_ ?_)
      | (with_reducible refine LeO.bind ?_ (fun _ => ?_))
      | exact ih0 _ _ _ _ _ _
      | exact ih1 _ _ _ _ _ _ _ _ _ _ _
      | exact ih2 _ _ _ _ _ _ _ _ _ _ _ _ _ _ _ _ _ _ _ _ _ _
      | exact ih3 _ _ _ _ _ _ _ _ _ _ _
      | exact cohousinglaw16_has.mono _ _ _
      | exact cohousinglaw16_head.mono _
      | exact span_Meet.mono _ _ _
      | exact span_Union.mono _ _ _
      | exact LeO.none _
      | refine LeO.ite ?_ ?_
      | refine LeO.bind ?_ (fun _ => ?_)
    · intro y0 y1 y2 y3 y4 y5 y6 y7 y8 y9 y10
      unfold cohousinglaw16_FactsValues.l2
      repeat' first
      | (with_reducible exact ih0 _ _ _ _ _ _)
      | (with_reducible exact ih1 _ _ _ _ _ _ _ _ _ _ _)
      | (with_reducible exact ih2 _ _ _ _ _ _ _ _ _ _ _ _ _ _ _ _ _ _ _ _ _ _)
      | (with_reducible exact ih3 _ _ _ _ _ _ _ _ _ _ _)
      | (with_reducible exact cohousinglaw16_has.mono _ _ _)
      | (with_reducible exact cohousinglaw16_head.mono _)
      | (with_reducible exact span_Meet.mono _ _ _)
      | (with_reducible exact span_Union.mono _ _ _)
      | (with_reducible exact LeO.refl _)
      | (with_reducible exact LeO.none _)
      | (with_reducible refine LeO.ite ?_ ?_)
      | (with_reducible refine LeO.bind ?_ (fun _ => ?_))
      | exact ih0 _ _ _ _ _ _
      | exact ih1 _ _ _ _ _ _ _ _ _ _ _
      | exact ih2 _ _ _ _ _ _ _ _ _ _ _ _ _ _ _ _ _ _ _ _ _ _
      | exact ih3 _ _ _ _ _ _ _ _ _ _ _
      | exact cohousinglaw16_has.mono _ _ _
      | exact cohousinglaw16_head.mono _
      | exact span_Meet.mono _ _ _
      | exact span_Union.mono _ _ _
      | exact LeO.none _
      | refine LeO.ite ?_ ?_
      | refine LeO.bind ?_ (fun _ => ?_)
theorem cohousinglaw16_FactsValues.mono : ∀ a0 a1 a2 a3 a4 k, LeO (cohousinglaw16_FactsValues.f k a0 a1 a2 a3 a4) (cohousinglaw16_FactsValues.f (k + 1) a0 a1 a2 a3 a4) := by
  intro a0 a1 a2 a3 a4 k
  obtain ⟨ih0, ih1, ih2, ih3⟩ := cohousinglaw16_FactsValues.mono_l k
  unfold cohousinglaw16_FactsValues.f
  repeat' first
      | (with_reducible exact ih0 _ _ _ _ _ _)
      | (with_reducible exact ih1 _ _ _ _ _ _ _ _ _ _ _)
      | (with_reducible exact ih2 _ _ _ _ _ _ _ _ _ _ _ _ _ _ _ _ _ _ _ _ _ _)
      | (with_reducible exact ih3 _ _ _ _ _ _ _ _ _ _ _)
      | (with_reducible exact cohousinglaw16_has.mono _ _ _)
      | (with_reducible exact cohousinglaw16_head.mono _)
      | (with_reducible exact span_Meet.mono _ _ _)
      | (with_reducible exact span_Union.mono _ _ _)
      | (with_reducible exact LeO.refl _)
      | (with_reducible exact LeO.none _)
      | (with_reducible refine LeO.ite ?_ ?_)
      | (with_reducible refine LeO.bind ?_ (fun _ => ?_))
      | exact ih0 _ _ _ _ _ _
      | exact ih1 _ _ _ _ _ _ _ _ _ _ _
      | exact ih2 _ _ _ _ _ _ _ _ _ _ _ _ _ _ _ _ _ _ _ _ _ _
      | exact ih3 _ _ _ _ _ _ _ _ _ _ _
      | exact cohousinglaw16_has.mono _ _ _
      | exact cohousinglaw16_head.mono _
      | exact span_Meet.mono _ _ _
      | exact span_Union.mono _ _ _
      | exact LeO.none _
      | refine LeO.ite ?_ ?_
      | refine LeO.bind ?_ (fun _ => ?_)
set_option maxHeartbeats 8000000 in
set_option maxRecDepth 100000 in
theorem cohousinglaw16_FactsValues.calls (k : Nat) (A0 : Option Addr) (c0 : Nat) (l0 : List (S26)) (a1 : Int) (a2 : ByteArray) (a3 : Int) (a4 : Int) (r : Bool) (w : World) (hr0 : Kd.C k26 w A0 l0.length l0) (hc0 : l0.length ≤ c0) (h : cohousinglaw16_FactsValues.f k l0 a1 a2 a3 a4 = some r) :
    Calls Tryz.prog 9 #[.slice A0 l0.length c0, .int .i64 a1, .string a2, .int .i64 a3, .int .i64 a4] w fun e w' => e = .returned (.bool r) ∧ Below w.heap.size w w' := by
  have hu26 := Tryz.underlying26
  have HR0 := Aside0.mk hr0
  have HC0 := Aside0.mk hc0
  clear hr0 hc0
  have HB := Aside0.mk (Below.refl w.heap.size w)
  have H : ((cohousinglaw16_head.f k).bind fun t276 => (if t276 = true then (if (l0.length : Int) > 60 then (cohousinglaw16_FactsValues.j0 k l0 a1 a2 a3 a4 true) else ((facts_Valid.f l0).bind fun t277 => (cohousinglaw16_FactsValues.j0 k l0 a1 a2 a3 a4 (!t277)))) else (none))) = some r := h
  clear h
  replace H := Option.bind_eq_some_iff.mp H
  obtain ⟨t276, A60, H⟩ := H
  replace H : (if t276 = true then (if (l0.length : Int) > 60 then (cohousinglaw16_FactsValues.j0 k l0 a1 a2 a3 a4 true) else ((facts_Valid.f l0).bind fun t277 => (cohousinglaw16_FactsValues.j0 k l0 a1 a2 a3 a4 (!t277)))) else (none)) = some r := H
  have A6 := Aside0.mk A60
  clear A60
  by_cases c7 : t276 = true
  · subst c7
    have H1 : (if (l0.length : Int) > 60 then (cohousinglaw16_FactsValues.j0 k l0 a1 a2 a3 a4 true) else ((facts_Valid.f l0).bind fun t277 => (cohousinglaw16_FactsValues.j0 k l0 a1 a2 a3 a4 (!t277)))) = some r := by rw [if_pos rfl] at H; exact H
    clear H
    have H := H1
    clear H1
    have HC8 := Aside0.mk H
    clear H
    go_enter Tryz.func9, Tryz.ntmps9
    go_upto_region 2 with (first | ((with_reducible refine gate_callee (f := 10) rfl ?_); refine goesL_ (some 30) rfl rfl Tryz.func10 (by kernel_rfl) rfl #[] rfl (by (try simp only [List.map_toArray, List.map_cons, List.map_nil]); first | done | rfl | (simp only [List.length_drop, List.length_take]; rfl)) ?_; (with_reducible refine (cohousinglaw16_head.calls k  true _ A6.out).mono ?_); rintro e w9 ⟨rfl, hb⟩; refine ⟨_, rfl, ?_⟩; have n0_ := Aside0.mk (below_step (by repeat (first | (with_reducible first | exact HB.out | apply below_alloc | apply pw_below_drewN | apply below_drew1) | exact HB.out)) hb); clear HB; have HB := n0_; clear n0_; (try clear hb); (try clear hb2); (try clear hk); (try clear hi)))
    (try simp only [Act.put, List.setIfInBounds_toArray, List.set_cons_zero, List.set_cons_succ])
    go_cut [38] (fun v38 wc => ∃ (kq : Nat) (x38_7 : Bool), v38 = .bool x38_7 ∧ Aside0 (cohousinglaw16_FactsValues.j0 kq l0 a1 a2 a3 a4 x38_7 = some r) ∧ Aside0 (kq ≤ k) ∧ Aside0 (Below w.heap.size w wc))
    case first =>
      have H := HC8.out
      clear HC8
      by_cases c10 : (l0.length : Int) > 60
      · rw [if_pos c10] at H
        have c10b0 : decide (60 < (l0.length : Int)) = true := decide_eq_true c10
        have c10b1 : decide (60 < l0.length) = true := decide_eq_true (by omega)
        clear c10
        (first | rw [c10b0] | (simp only [i64_w, i32_w]; rw [c10b0]) | skip)
        have H' := Aside0.mk H
        clear H
        go_wp2
        go_meet
        case rel => exact ⟨_, (true), (by first | rfl | (simp; done) | (simp [*]; done)), H', ⟨by first | omega | exact Nat.le_refl _⟩, ⟨by repeat (first | (with_reducible first | exact HB.out | apply below_alloc | apply pw_below_drewN | apply below_drew1) | exact HB.out)⟩⟩
      · rw [if_neg c10] at H
        have c10b0 : decide (60 < (l0.length : Int)) = false := decide_eq_false c10
        have c10b1 : decide (60 < l0.length) = false := decide_eq_false (by omega)
        clear c10
        (first | rw [c10b0] | (simp only [i64_w, i32_w]; rw [c10b0]) | skip)
        replace H := Option.bind_eq_some_iff.mp H
        obtain ⟨t277, A110, H⟩ := H
        replace H : (cohousinglaw16_FactsValues.j0 k l0 a1 a2 a3 a4 (!t277)) = some r := H
        have A11 := Aside0.mk A110
        clear A110
        have H' := Aside0.mk H
        clear H
        go_wp2_with (first | (go_at_call 11; (with_reducible refine (facts_Valid.calls _ _ l0 t277 _ ?side1 ?side2 A11.out).mono ?_); (case side1 => repeat (first | exact (Kd.C_below HR0.out HB.out) | (with_reducible refine Kd.C_alloc ?_ _) | (with_reducible refine Kd.C_drewN ?_ _) | (with_reducible refine Kd.C_drew ?_))); (case side2 => exact HC0.out); rintro e w12 ⟨rfl, hb⟩; have n0_ := Aside0.mk (below_step (by repeat (first | (with_reducible first | exact HB.out | apply below_alloc | apply pw_below_drewN | apply below_drew1) | exact HB.out)) hb); clear HB; have HB := n0_; clear n0_; (try clear hb); (try clear hb2); (try clear hk); (try clear hi)))
        go_meet
        case rel => exact ⟨_, (!t277), (by first | rfl | (simp; done) | (simp [*]; done)), H', ⟨by first | omega | exact Nat.le_refl _⟩, ⟨by repeat (first | (with_reducible first | exact HB.out | apply below_alloc | apply pw_below_drewN | apply below_drew1) | exact HB.out)⟩⟩
    case rest =>
      clear HC8
      try clear c1
      try clear p2
      try clear c7
      try clear c9
      try clear c10
      try clear c10b0
      try clear c10b1
      obtain ⟨kq, x38_7, rfl, HA, HJ7, HB⟩ := hcut
      cases kq with
      | zero => exact absurd HA.out (by simp [cohousinglaw16_FactsValues.j0])
      | succ kj7 =>
        have H := HA.out
        clear HA
        simp only [cohousinglaw16_FactsValues.j0] at H
        by_cases c13 : x38_7 = true
        · subst c13
          have H1 : (some true) = some r := by rw [if_pos rfl] at H; exact H
          clear H
          have H := H1
          clear H1
          obtain rfl := Option.some.inj H
          go_wp2
          go_ret
          exact ⟨by first | rfl | (simp [errW_none, errW_some] <;> rfl) | (simp [*, errW_none, errW_some] <;> rfl), by repeat (first | (with_reducible first | exact HB.out | apply below_alloc | apply pw_below_drewN | apply below_drew1) | exact HB.out)⟩
        · replace c13 := Bool.eq_false_iff.mpr c13
          subst c13
          have H1 : ((facts_Value.f l0 a1 a2 a4 a3).bind fun bt278 => (if bt278.2.2 = 0 then (cohousinglaw16_FactsValues.l0 kj7 l0 a1 a2 a3 a4 true bt278.2.1 ([] : List Int) l0 (l0.length : Int) 0) else (some true))) = some r := by rw [if_neg (show ¬ (false = true) by decide)] at H; exact H
          clear H
          have H := H1
          clear H1
          replace H := Option.bind_eq_some_iff.mp H
          obtain ⟨⟨t278, t279, t280⟩, A140, H⟩ := H
          replace H : (if t280 = 0 then (cohousinglaw16_FactsValues.l0 kj7 l0 a1 a2 a3 a4 true t279 ([] : List Int) l0 (l0.length : Int) 0) else (some true)) = some r := H
          have A14 := Aside0.mk A140
          clear A140
          by_cases c15 : t280 = 0
          · rw [if_pos c15] at H
            have c15b0 : (t280 == 0) = true := beq_iff_eq.mpr c15
            have c15b1 : (t280 != 0) = false := bne_eq_false_iff_eq.mpr c15
            clear c15
            have H' := Aside0.mk H
            clear H
            go_wp2_with (first | ((with_reducible refine gate_callee (f := 12) rfl ?_); refine goesL_ (some 46) rfl rfl Tryz.func12 (by kernel_rfl) rfl #[.slice A0 l0.length c0, .int .i64 a1, .string a2, .int .i64 a4, .int .i64 a3] rfl (by (try simp only [List.map_toArray, List.map_cons, List.map_nil]); first | done | rfl | (simp only [List.length_drop, List.length_take]; rfl)) ?_; (with_reducible refine (facts_Value.calls _ _ l0 a1 a2 a4 a3 t278 t279 t280 _ ?side1 ?side2 A14.out).mono ?_); (case side1 => repeat (first | exact (Kd.C_below HR0.out HB.out) | (with_reducible refine Kd.C_alloc ?_ _) | (with_reducible refine Kd.C_drewN ?_ _) | (with_reducible refine Kd.C_drew ?_))); (case side2 => exact HC0.out); rintro e w16 ⟨rfl, hb⟩; refine ⟨_, rfl, ?_⟩; have n0_ := Aside0.mk (below_step (by repeat (first | (with_reducible first | exact HB.out | apply below_alloc | apply pw_below_drewN | apply below_drew1) | exact HB.out)) hb); clear HB; have HB := n0_; clear n0_; (try clear hb); (try clear hb2); (try clear hk); (try clear hi)))
            go_loopg [15, 55] kj7 (fun kq v15 v55 w' => ∃ (x15_2 : List Int) (x55_2 : Int), v55 = .int .i64 x55_2 ∧ Aside0 (cohousinglaw16_FactsValues.l0 kq l0 a1 a2 a3 a4 true t279 x15_2 l0 (l0.length : Int) x55_2 = some r) ∧ Aside0 (kq ≤ kj7) ∧ Aside0 (Kd.R (Kd.int .i64) 3 w' w.heap.size (fun _ => True) v15 x15_2) ∧ Aside0 (Below w.heap.size w w'))
            case atStart => exact ⟨(([] : List Int)), (0), (by first | rfl | (simp; done) | (simp [*]; done)), H', ⟨Nat.le_refl _⟩, ⟨by first | exact Kd.R_nil _ _ _ _ _ | exact Kd.N_nil _ _ _ _ _ | exact Kd.V_nil _ _ _ _ _ | exact Kd.Q_nil _ _ _ _ _ | exact Kd.S_nil _ _ _ _ _⟩, ⟨by repeat (first | (with_reducible first | exact HB.out | apply below_alloc | apply pw_below_drewN | apply below_drew1) | exact HB.out)⟩⟩
            case round =>
              clear H'
              try clear c1
              try clear p2
              try clear c7
              try clear c9
              try clear c10
              try clear c10b0
              try clear c10b1
              try clear c12
              try clear c13
              try clear c15
              try clear c15b0
              try clear c15b1
              try clear p2
              obtain ⟨x15_2, x55_2, rfl, HA, HK2, HO_15, HB⟩ := hrel
              cases gk with
              | zero => exact absurd HA.out (by simp [cohousinglaw16_FactsValues.l0])
              | succ k2 =>
                have H := HA.out
                clear HA
                simp only [cohousinglaw16_FactsValues.l0] at H
                by_cases c17 : x55_2 < (l0.length : Int)
                · rw [if_pos c17] at H
                  have c17b0 : decide (x55_2 < (l0.length : Int)) = true := decide_eq_true c17
                  clear c17
                  by_cases c18 : 0 ≤ x55_2
                  · rw [if_pos c18] at H
                    have c18b0 : decide (0 ≤ x55_2) = true := decide_eq_true c18
                    clear c18
                    by_cases c19 : x55_2 < (l0.length : Int)
                    · rw [if_pos c19] at H
                      have c19b0 : decide (x55_2 < (l0.length : Int)) = true := decide_eq_true c19
                      clear c19
                      have H' := Aside0.mk H
                      clear H
                      have p281 : 0 ≤ (x55_2 : Int) := of_decide_eq_true (by first | (with_reducible assumption) | assumption)
                      have q281 : x55_2 < (l0.length : Int) := of_decide_eq_true (by first | (with_reducible assumption) | assumption)
                      obtain ⟨ad281, e281, hx281_0, hx281_1, hx281_2, hx281_3, hx281_4, hx281_5, hx281_6⟩ := at_T26 HR0.out x55_2 p281 q281
                      cases e281
                      replace hx281_0 := (HB.out.cell (World.block_lt_of_cell? w _ hx281_0)).trans hx281_0
                      replace hx281_1 := (HB.out.cell (World.block_lt_of_cell? w _ hx281_1)).trans hx281_1
                      replace hx281_2 := (HB.out.cell (World.block_lt_of_cell? w _ hx281_2)).trans hx281_2
                      replace hx281_3 := (HB.out.cell (World.block_lt_of_cell? w _ hx281_3)).trans hx281_3
                      replace hx281_4 := (HB.out.cell (World.block_lt_of_cell? w _ hx281_4)).trans hx281_4
                      replace hx281_5 := (HB.out.cell (World.block_lt_of_cell? w _ hx281_5)).trans hx281_5
                      replace hx281_6 := (HB.out.cell (World.block_lt_of_cell? w _ hx281_6)).trans hx281_6
                      replace p281 := eq_true p281
                      replace q281 := eq_true q281
                      go_wp2_with (first | ((with_reducible refine gate_dst (N := 17) rfl ?_); (try (refine gate_guard (by rfl) ?_; dsimp only)); refine box_event ?hg (N := 17) ?hd (cs := #[.int .i64 0, .string (⟨#[]⟩ : ByteArray), .int .i64 0, .int .i64 0, .int .i64 0, .int .i64 0, .bool false]) (t := 26) ?hr ?_; (case hd => rfl); (case hg => rfl); (case hr => first | (go_simp; done) | (go_simp; rfl)); intro gb282 hg w20 hbox hb; have n0_ := Aside0.mk (Kd.R_below (by (with_reducible repeat (first | apply Kd.R_alloc | apply Kd.R_drewN | apply Kd.R_drew)); exact HO_15.out) hb); have n1_ := Aside0.mk (below_step (by repeat (first | (with_reducible first | exact HB.out | apply below_alloc | apply pw_below_drewN | apply below_drew1) | exact HB.out)) hb); have n2_ := Aside0.mk (hbox); have n3_ := Aside0.mk ((by rw [hg]; exact (below_size (by repeat (first | (with_reducible first | exact HB.out | apply below_alloc | apply pw_below_drewN | apply below_drew1) | exact HB.out))) : w.heap.size ≤ gb282)); have n4_ := Aside0.mk ((by rw [hg]; exact (below_size (by repeat (first | (with_reducible first | exact HB.out | apply below_alloc | apply pw_below_drewN | apply below_drew1) | exact HB.out))) : w.heap.size ≤ gb282)); clear HO_15; clear HB; have HO_15 := n0_; have HB := n1_; have BK282 := n2_; have GW282 := n3_; have GE282 := n4_; clear n0_ n1_ n2_ n3_ n4_; clear hb hbox hg; have hcz21_0 : w20.cell? ⟨gb282, 0, none⟩ = some (.int .i64 0) := (blk_cell BK282.out 0).trans rfl; have hcz21_1 : w20.cell? ⟨gb282, 1, none⟩ = some (.string (⟨#[]⟩ : ByteArray)) := (blk_cell BK282.out 1).trans rfl; have hcz21_2 : w20.cell? ⟨gb282, 2, none⟩ = some (.int .i64 0) := (blk_cell BK282.out 2).trans rfl; have hcz21_3 : w20.cell? ⟨gb282, 3, none⟩ = some (.int .i64 0) := (blk_cell BK282.out 3).trans rfl; have hcz21_4 : w20.cell? ⟨gb282, 4, none⟩ = some (.int .i64 0) := (blk_cell BK282.out 4).trans rfl; have hcz21_5 : w20.cell? ⟨gb282, 5, none⟩ = some (.int .i64 0) := (blk_cell BK282.out 5).trans rfl; have hcz21_6 : w20.cell? ⟨gb282, 6, none⟩ = some (.bool false) := (blk_cell BK282.out 6).trans rfl; have hfz21_0 := blk_frozen BK282.out 0; have hfz21_1 := blk_frozen BK282.out 1; have hfz21_2 := blk_frozen BK282.out 2; have hfz21_3 := blk_frozen BK282.out 3; have hfz21_4 := blk_frozen BK282.out 4; have hfz21_5 := blk_frozen BK282.out 5; have hfz21_6 := blk_frozen BK282.out 6; obtain ⟨Ao22, co22, eo22⟩ := Kd.R_slice HO_15.out; subst eo22))
                      go_loopg [18, 61] k2 (fun kq v18 v61 w' => ∃ (x18_3 : Bool) (x61_3 : Int), v18 = .bool x18_3 ∧ v61 = .int .i64 x61_3 ∧ Aside0 (cohousinglaw16_FactsValues.l1 kq l0 a1 a2 a3 a4 true t279 x15_2 x18_3 l0 (l0.length : Int) x55_2 x15_2 (x15_2.length : Int) x61_3 ((rd_T26 l0 x55_2).f0) ((rd_T26 l0 x55_2).f1) ((rd_T26 l0 x55_2).f2) ((rd_T26 l0 x55_2).f3.f0) ((rd_T26 l0 x55_2).f3.f1) ((rd_T26 l0 x55_2).f4) ((rd_T26 l0 x55_2).f5) = some r) ∧ Aside0 (kq ≤ k2) ∧ Aside0 (Kd.R (Kd.int .i64) 3 w' w.heap.size (fun _ => True) (.slice Ao22 x15_2.length co22) x15_2) ∧ Aside0 (Kd.R (Kd.int .i64) 3 w' w.heap.size (fun _ => True) (.slice Ao22 x15_2.length co22) x15_2) ∧ Aside0 (w'.heap[gb282]? = some (.cells #[.int .i64 ((rd_T26 l0 x55_2).f0), .string ((rd_T26 l0 x55_2).f1), .int .i64 ((rd_T26 l0 x55_2).f2), .int .i64 ((rd_T26 l0 x55_2).f3.f0), .int .i64 ((rd_T26 l0 x55_2).f3.f1), .int .i64 ((rd_T26 l0 x55_2).f4), .bool ((rd_T26 l0 x55_2).f5)] 26 (0, 0))) ∧ Aside0 (Below w.heap.size w w'))
                      case atStart => exact ⟨(false), (0), (by first | rfl | (simp; done) | (simp [*]; done)), (by first | rfl | (simp; done) | (simp [*]; done)), H', ⟨Nat.le_refl _⟩, ⟨by (with_reducible repeat (first | apply Kd.R_alloc | apply Kd.R_drewN | apply Kd.R_drew)); exact Kd.R_mono (Kd.R_far (p := ⟨gb282, 6, none⟩) (Kd.R_far (p := ⟨gb282, 5, none⟩) (Kd.R_far (p := ⟨gb282, 4, none⟩) (Kd.R_far (p := ⟨gb282, 3, none⟩) (Kd.R_far (p := ⟨gb282, 2, none⟩) (Kd.R_far (p := ⟨gb282, 1, none⟩) (Kd.R_far (p := ⟨gb282, 0, none⟩) (Kd.R_types HO_15.out BK282.out (by decide)) (fun _ hk => hk.2) (.int .i64 ((rd_T26 l0 x55_2).f0))) (fun _ hk => hk.2) (.string ((rd_T26 l0 x55_2).f1))) (fun _ hk => hk.2) (.int .i64 ((rd_T26 l0 x55_2).f2))) (fun _ hk => hk.2) (.int .i64 ((rd_T26 l0 x55_2).f3.f0))) (fun _ hk => hk.2) (.int .i64 ((rd_T26 l0 x55_2).f3.f1))) (fun _ hk => hk.2) (.int .i64 ((rd_T26 l0 x55_2).f4))) (fun _ hk => hk.2) (.bool ((rd_T26 l0 x55_2).f5))) (fun _ hk => trivial)⟩, ⟨by (with_reducible repeat (first | apply Kd.R_alloc | apply Kd.R_drewN | apply Kd.R_drew)); exact Kd.R_mono (Kd.R_far (p := ⟨gb282, 6, none⟩) (Kd.R_far (p := ⟨gb282, 5, none⟩) (Kd.R_far (p := ⟨gb282, 4, none⟩) (Kd.R_far (p := ⟨gb282, 3, none⟩) (Kd.R_far (p := ⟨gb282, 2, none⟩) (Kd.R_far (p := ⟨gb282, 1, none⟩) (Kd.R_far (p := ⟨gb282, 0, none⟩) (Kd.R_types HO_15.out BK282.out (by decide)) (fun _ hk => hk.2) (.int .i64 ((rd_T26 l0 x55_2).f0))) (fun _ hk => hk.2) (.string ((rd_T26 l0 x55_2).f1))) (fun _ hk => hk.2) (.int .i64 ((rd_T26 l0 x55_2).f2))) (fun _ hk => hk.2) (.int .i64 ((rd_T26 l0 x55_2).f3.f0))) (fun _ hk => hk.2) (.int .i64 ((rd_T26 l0 x55_2).f3.f1))) (fun _ hk => hk.2) (.int .i64 ((rd_T26 l0 x55_2).f4))) (fun _ hk => hk.2) (.bool ((rd_T26 l0 x55_2).f5))) (fun _ hk => trivial)⟩, ⟨by (with_reducible repeat (first | refine blk_drewN ?_ _ | refine blk_drew ?_ | refine blk_alloc ?_ _)); refine blk_put (cs := #[.int .i64 ((rd_T26 l0 x55_2).f0), .string ((rd_T26 l0 x55_2).f1), .int .i64 ((rd_T26 l0 x55_2).f2), .int .i64 ((rd_T26 l0 x55_2).f3.f0), .int .i64 ((rd_T26 l0 x55_2).f3.f1), .int .i64 ((rd_T26 l0 x55_2).f4), .bool false]) ?_ 6 _ rfl; (with_reducible repeat (first | refine blk_drewN ?_ _ | refine blk_drew ?_ | refine blk_alloc ?_ _)); refine blk_put (cs := #[.int .i64 ((rd_T26 l0 x55_2).f0), .string ((rd_T26 l0 x55_2).f1), .int .i64 ((rd_T26 l0 x55_2).f2), .int .i64 ((rd_T26 l0 x55_2).f3.f0), .int .i64 ((rd_T26 l0 x55_2).f3.f1), .int .i64 0, .bool false]) ?_ 5 _ rfl; (with_reducible repeat (first | refine blk_drewN ?_ _ | refine blk_drew ?_ | refine blk_alloc ?_ _)); refine blk_put (cs := #[.int .i64 ((rd_T26 l0 x55_2).f0), .string ((rd_T26 l0 x55_2).f1), .int .i64 ((rd_T26 l0 x55_2).f2), .int .i64 ((rd_T26 l0 x55_2).f3.f0), .int .i64 0, .int .i64 0, .bool false]) ?_ 4 _ rfl; (with_reducible repeat (first | refine blk_drewN ?_ _ | refine blk_drew ?_ | refine blk_alloc ?_ _)); refine blk_put (cs := #[.int .i64 ((rd_T26 l0 x55_2).f0), .string ((rd_T26 l0 x55_2).f1), .int .i64 ((rd_T26 l0 x55_2).f2), .int .i64 0, .int .i64 0, .int .i64 0, .bool false]) ?_ 3 _ rfl; (with_reducible repeat (first | refine blk_drewN ?_ _ | refine blk_drew ?_ | refine blk_alloc ?_ _)); refine blk_put (cs := #[.int .i64 ((rd_T26 l0 x55_2).f0), .string ((rd_T26 l0 x55_2).f1), .int .i64 0, .int .i64 0, .int .i64 0, .int .i64 0, .bool false]) ?_ 2 _ rfl; (with_reducible repeat (first | refine blk_drewN ?_ _ | refine blk_drew ?_ | refine blk_alloc ?_ _)); refine blk_put (cs := #[.int .i64 ((rd_T26 l0 x55_2).f0), .string (⟨#[]⟩ : ByteArray), .int .i64 0, .int .i64 0, .int .i64 0, .int .i64 0, .bool false]) ?_ 1 _ rfl; (with_reducible repeat (first | refine blk_drewN ?_ _ | refine blk_drew ?_ | refine blk_alloc ?_ _)); refine blk_put (cs := #[.int .i64 0, .string (⟨#[]⟩ : ByteArray), .int .i64 0, .int .i64 0, .int .i64 0, .int .i64 0, .bool false]) ?_ 0 _ rfl; (with_reducible repeat (first | refine blk_drewN ?_ _ | refine blk_drew ?_ | refine blk_alloc ?_ _)); exact BK282.out⟩, ⟨by repeat (first | (with_reducible first | exact HB.out | apply below_alloc | apply pw_below_drewN | apply below_drew1 | refine below_set ?_ GE282.out) | exact HB.out)⟩⟩
                      case round =>
                        clear H'
                        try clear c1
                        try clear p2
                        try clear q2
                        try clear hx2
                        try clear c7
                        try clear c9
                        try clear c10
                        try clear c10b0
                        try clear c10b1
                        try clear c12
                        try clear c13
                        try clear c15
                        try clear c15b0
                        try clear c15b1
                        try clear c17
                        try clear c17b0
                        try clear c18
                        try clear c18b0
                        try clear c19
                        try clear c19b0
                        try clear hcz21_0
                        try clear hcz21_1
                        try clear hcz21_2
                        try clear hcz21_3
                        try clear hcz21_4
                        try clear hcz21_5
                        try clear hcz21_6
                        try clear hfz21_0
                        try clear hfz21_1
                        try clear hfz21_2
                        try clear hfz21_3
                        try clear hfz21_4
                        try clear hfz21_5
                        try clear hfz21_6
                        try clear hx281_0
                        try clear hx281_1
                        try clear hx281_2
                        try clear hx281_3
                        try clear hx281_4
                        try clear hx281_5
                        try clear hx281_6
                        try clear p2
                        try clear p281
                        try clear q281
                        obtain ⟨x18_3, x61_3, rfl, rfl, HA, HK3, HO_15, HO_59, BK282, HB⟩ := hrel
                        cases gk with
                        | zero => exact absurd HA.out (by simp [cohousinglaw16_FactsValues.l1])
                        | succ k3 =>
                          have H := HA.out
                          clear HA
                          simp only [cohousinglaw16_FactsValues.l1] at H
                          by_cases c23 : x61_3 < (x15_2.length : Int)
                          · rw [if_pos c23] at H
                            have c23b0 : decide (x61_3 < (x15_2.length : Int)) = true := decide_eq_true c23
                            clear c23
                            by_cases c24 : 0 ≤ x61_3
                            · rw [if_pos c24] at H
                              have c24b0 : decide (0 ≤ x61_3) = true := decide_eq_true c24
                              clear c24
                              by_cases c25 : x61_3 < (x15_2.length : Int)
                              · rw [if_pos c25] at H
                                have c25b0 : decide (x61_3 < (x15_2.length : Int)) = true := decide_eq_true c25
                                clear c25
                                by_cases c26 : x18_3 = true
                                · subst c26
                                  have H1 : (cohousinglaw16_FactsValues.l1 k3 l0 a1 a2 a3 a4 true t279 x15_2 true l0 (l0.length : Int) x55_2 x15_2 (x15_2.length : Int) (wrap64 (x61_3 + 1)) ((rd_T26 l0 x55_2).f0) ((rd_T26 l0 x55_2).f1) ((rd_T26 l0 x55_2).f2) ((rd_T26 l0 x55_2).f3.f0) ((rd_T26 l0 x55_2).f3.f1) ((rd_T26 l0 x55_2).f4) ((rd_T26 l0 x55_2).f5)) = some r := by rw [if_pos rfl] at H; exact H
                                  clear H
                                  have H := H1
                                  clear H1
                                  have H' := Aside0.mk H
                                  clear H
                                  have p283 : 0 ≤ (x61_3 : Int) := of_decide_eq_true (by first | (with_reducible assumption) | assumption)
                                  have q283 : x61_3 < (x15_2.length : Int) := of_decide_eq_true (by first | (with_reducible assumption) | assumption)
                                  obtain ⟨ad283, e283, hx283_0⟩ := Kd.at_int (Kd.R_reads' HO_59.out).2.2 x61_3 p283 q283
                                  cases e283
                                  replace p283 := eq_true p283
                                  replace q283 := eq_true q283
                                  go_wp2
                                  go_roundg k3
                                  case measure => have := HJ7.out; have := HK2.out; have := HK3.out; omega
                                  case rel => exact ⟨(true), (wrap64 (x61_3 + 1)), (by first | rfl | (simp; done) | (simp [*]; done)), (by first | rfl | (simp; done) | (simp [*]; done)), H', ⟨by have := HJ7.out; have := HK2.out; have := HK3.out; omega⟩, ⟨by (with_reducible repeat (first | apply Kd.R_alloc | apply Kd.R_drewN | apply Kd.R_drew)); exact HO_15.out⟩, ⟨by (with_reducible repeat (first | apply Kd.R_alloc | apply Kd.R_drewN | apply Kd.R_drew)); exact HO_59.out⟩, ⟨by (with_reducible repeat (first | refine blk_drewN ?_ _ | refine blk_drew ?_ | refine blk_alloc ?_ _)); exact BK282.out⟩, ⟨by repeat (first | (with_reducible first | exact HB.out | apply below_alloc | apply pw_below_drewN | apply below_drew1 | refine below_set ?_ GE282.out) | exact HB.out)⟩⟩
                                · replace c26 := Bool.eq_false_iff.mpr c26
                                  subst c26
                                  have H1 : (cohousinglaw16_FactsValues.l1 k3 l0 a1 a2 a3 a4 true t279 x15_2 ((rd x15_2 x61_3) == ((rd_T26 l0 x55_2).f2)) l0 (l0.length : Int) x55_2 x15_2 (x15_2.length : Int) (wrap64 (x61_3 + 1)) ((rd_T26 l0 x55_2).f0) ((rd_T26 l0 x55_2).f1) ((rd_T26 l0 x55_2).f2) ((rd_T26 l0 x55_2).f3.f0) ((rd_T26 l0 x55_2).f3.f1) ((rd_T26 l0 x55_2).f4) ((rd_T26 l0 x55_2).f5)) = some r := by rw [if_neg (show ¬ (false = true) by decide)] at H; exact H
                                  clear H
                                  have H := H1
                                  clear H1
                                  have H' := Aside0.mk H
                                  clear H
                                  have p283 : 0 ≤ (x61_3 : Int) := of_decide_eq_true (by first | (with_reducible assumption) | assumption)
                                  have q283 : x61_3 < (x15_2.length : Int) := of_decide_eq_true (by first | (with_reducible assumption) | assumption)
                                  obtain ⟨ad283, e283, hx283_0⟩ := Kd.at_int (Kd.R_reads' HO_59.out).2.2 x61_3 p283 q283
                                  cases e283
                                  replace p283 := eq_true p283
                                  replace q283 := eq_true q283
                                  have hcz27_0 : wr.cell? ⟨gb282, 0, none⟩ = some (.int .i64 ((rd_T26 l0 x55_2).f0)) := (blk_cell BK282.out 0).trans rfl
                                  have hcz27_1 : wr.cell? ⟨gb282, 1, none⟩ = some (.string ((rd_T26 l0 x55_2).f1)) := (blk_cell BK282.out 1).trans rfl
                                  have hcz27_2 : wr.cell? ⟨gb282, 2, none⟩ = some (.int .i64 ((rd_T26 l0 x55_2).f2)) := (blk_cell BK282.out 2).trans rfl
                                  have hcz27_3 : wr.cell? ⟨gb282, 3, none⟩ = some (.int .i64 ((rd_T26 l0 x55_2).f3.f0)) := (blk_cell BK282.out 3).trans rfl
                                  have hcz27_4 : wr.cell? ⟨gb282, 4, none⟩ = some (.int .i64 ((rd_T26 l0 x55_2).f3.f1)) := (blk_cell BK282.out 4).trans rfl
                                  have hcz27_5 : wr.cell? ⟨gb282, 5, none⟩ = some (.int .i64 ((rd_T26 l0 x55_2).f4)) := (blk_cell BK282.out 5).trans rfl
                                  have hcz27_6 : wr.cell? ⟨gb282, 6, none⟩ = some (.bool ((rd_T26 l0 x55_2).f5)) := (blk_cell BK282.out 6).trans rfl
                                  have hfz27_0 := blk_frozen BK282.out 0
                                  have hfz27_1 := blk_frozen BK282.out 1
                                  have hfz27_2 := blk_frozen BK282.out 2
                                  have hfz27_3 := blk_frozen BK282.out 3
                                  have hfz27_4 := blk_frozen BK282.out 4
                                  have hfz27_5 := blk_frozen BK282.out 5
                                  have hfz27_6 := blk_frozen BK282.out 6
                                  go_wp2
                                  go_roundg k3
                                  case measure => have := HJ7.out; have := HK2.out; have := HK3.out; omega
                                  case rel => exact ⟨(((rd x15_2 x61_3) == ((rd_T26 l0 x55_2).f2))), (wrap64 (x61_3 + 1)), (by first | rfl | (simp; done) | (simp [*]; done)), (by first | rfl | (simp; done) | (simp [*]; done)), H', ⟨by have := HJ7.out; have := HK2.out; have := HK3.out; omega⟩, ⟨by (with_reducible repeat (first | apply Kd.R_alloc | apply Kd.R_drewN | apply Kd.R_drew)); exact HO_15.out⟩, ⟨by (with_reducible repeat (first | apply Kd.R_alloc | apply Kd.R_drewN | apply Kd.R_drew)); exact HO_59.out⟩, ⟨by (with_reducible repeat (first | refine blk_drewN ?_ _ | refine blk_drew ?_ | refine blk_alloc ?_ _)); exact BK282.out⟩, ⟨by repeat (first | (with_reducible first | exact HB.out | apply below_alloc | apply pw_below_drewN | apply below_drew1 | refine below_set ?_ GE282.out) | exact HB.out)⟩⟩
                              · rw [if_neg c25] at H
                                exact absurd H (by simp)
                            · rw [if_neg c24] at H
                              exact absurd H (by simp)
                          · rw [if_neg c23] at H
                            have c23b0 : decide (x61_3 < (x15_2.length : Int)) = false := decide_eq_false c23
                            clear c23
                            by_cases c28 : x18_3 = true
                            · subst c28
                              have H1 : (cohousinglaw16_FactsValues.l0 k3 l0 a1 a2 a3 a4 true t279 x15_2 l0 (l0.length : Int) (wrap64 (x55_2 + 1))) = some r := by rw [if_pos rfl] at H; exact H
                              clear H
                              have H := H1
                              clear H1
                              have H' := Aside0.mk H
                              clear H
                              go_wp2
                              go_roundg k3
                              case measure => have := HJ7.out; have := HK2.out; have := HK3.out; omega
                              case rel => exact ⟨(x15_2), (wrap64 (x55_2 + 1)), (by first | rfl | (simp; done) | (simp [*]; done)), H', ⟨by have := HJ7.out; have := HK2.out; have := HK3.out; omega⟩, ⟨by (with_reducible repeat (first | apply Kd.R_alloc | apply Kd.R_drewN | apply Kd.R_drew)); exact HO_15.out⟩, ⟨by repeat (first | (with_reducible first | exact HB.out | apply below_alloc | apply pw_below_drewN | apply below_drew1 | refine below_set ?_ GE282.out) | exact HB.out)⟩⟩
                            · replace c28 := Bool.eq_false_iff.mpr c28
                              subst c28
                              have H1 : (if x15_2.length < 17592186044416 then (cohousinglaw16_FactsValues.l0 k3 l0 a1 a2 a3 a4 true t279 (x15_2 ++ [((rd_T26 l0 x55_2).f2)]) l0 (l0.length : Int) (wrap64 (x55_2 + 1))) else (none)) = some r := by rw [if_neg (show ¬ (false = true) by decide)] at H; exact H
                              clear H
                              have H := H1
                              clear H1
                              by_cases c29 : x15_2.length < 17592186044416
                              · rw [if_pos c29] at H
                                have LMc29 := Aside0.mk c29
                                clear c29
                                obtain ⟨y284, hy284⟩ : ∃ y_ : List Int, y_ = (x15_2 ++ [((rd_T26 l0 x55_2).f2)]) := ⟨_, rfl⟩
                                replace H : (cohousinglaw16_FactsValues.l0 k3 l0 a1 a2 a3 a4 true t279 y284 l0 (l0.length : Int) (wrap64 (x55_2 + 1))) = some r := by first | (rw [hy284]; with_reducible exact H) | (have H2_ := (Option.bind_some _ _).symm.trans H; rw [hy284]; with_reducible exact H2_) | (have H2_ := (Option.bind_some _ _).symm.trans H; with_reducible exact H2_) | with_reducible exact H | (rw [hy284]; exact H) | exact H
                                have Ny284 := Aside0.mk hy284
                                clear hy284
                                have H' := Aside0.mk H
                                clear H
                                have hcz30_0 : wr.cell? ⟨gb282, 0, none⟩ = some (.int .i64 ((rd_T26 l0 x55_2).f0)) := (blk_cell BK282.out 0).trans rfl
                                have hcz30_1 : wr.cell? ⟨gb282, 1, none⟩ = some (.string ((rd_T26 l0 x55_2).f1)) := (blk_cell BK282.out 1).trans rfl
                                have hcz30_2 : wr.cell? ⟨gb282, 2, none⟩ = some (.int .i64 ((rd_T26 l0 x55_2).f2)) := (blk_cell BK282.out 2).trans rfl
                                have hcz30_3 : wr.cell? ⟨gb282, 3, none⟩ = some (.int .i64 ((rd_T26 l0 x55_2).f3.f0)) := (blk_cell BK282.out 3).trans rfl
                                have hcz30_4 : wr.cell? ⟨gb282, 4, none⟩ = some (.int .i64 ((rd_T26 l0 x55_2).f3.f1)) := (blk_cell BK282.out 4).trans rfl
                                have hcz30_5 : wr.cell? ⟨gb282, 5, none⟩ = some (.int .i64 ((rd_T26 l0 x55_2).f4)) := (blk_cell BK282.out 5).trans rfl
                                have hcz30_6 : wr.cell? ⟨gb282, 6, none⟩ = some (.bool ((rd_T26 l0 x55_2).f5)) := (blk_cell BK282.out 6).trans rfl
                                have hfz30_0 := blk_frozen BK282.out 0
                                have hfz30_1 := blk_frozen BK282.out 1
                                have hfz30_2 := blk_frozen BK282.out 2
                                have hfz30_3 := blk_frozen BK282.out 3
                                have hfz30_4 := blk_frozen BK282.out 4
                                have hfz30_5 := blk_frozen BK282.out 5
                                have hfz30_6 := blk_frozen BK282.out 6
                                (try clear HO_59)
                                go_wp2_with (first | ((with_reducible refine gate_builtin (b := .append) (xs := #[.tmp 75, .tmp 78]) rfl ?_); (try (refine gate_guard (by rfl) ?_; dsimp only)); at_builtin; refine Kd.R_append (Kd.int .i64) (w0 := w) w.heap.size rfl (.tmp 75) (.tmp 78) 44 3 (.int .i64 0) 8 rfl Tryz.underlying44 info3 rfl (by decide) (by omega) (.slice Ao22 x15_2.length co22) x15_2 ((rd_T26 l0 x55_2).f2) [.int .i64 ((rd_T26 l0 x55_2).f2)] (fun _ => True) (fun _ => False) rfl rfl ?aP (fun _ hk => hk.elim) ?aF ?aO ?aB ?aS ?aL ?_; (case aP => exact rfl); (case aB => exact (by repeat (first | (with_reducible first | exact HB.out | apply below_alloc | apply pw_below_drewN | apply below_drew1 | refine below_set ?_ GE282.out) | exact HB.out))); (case aF => exact (fun _ _ => trivial)); (case aO => exact (by (with_reducible repeat (first | apply Kd.R_alloc | apply Kd.R_drewN | apply Kd.R_drew)); exact HO_15.out)); (case aS => exact (below_size (by repeat (first | (with_reducible first | exact HB.out | apply below_alloc | apply pw_below_drewN | apply below_drew1 | refine below_set ?_ GE282.out) | exact HB.out)))); (case aL => have := LMc29.out; omega); intro v285 w31 ho hb hg hat; rw [← Ny284.out] at ho; have n0_ := Aside0.mk (blk_grown (g := gb282) (o := .cells #[.int .i64 ((rd_T26 l0 x55_2).f0), .string ((rd_T26 l0 x55_2).f1), .int .i64 ((rd_T26 l0 x55_2).f2), .int .i64 ((rd_T26 l0 x55_2).f3.f0), .int .i64 ((rd_T26 l0 x55_2).f3.f1), .int .i64 ((rd_T26 l0 x55_2).f4), .bool ((rd_T26 l0 x55_2).f5)] 26 (0, 0)) (by (with_reducible repeat (first | refine blk_drewN ?_ _ | refine blk_drew ?_ | refine blk_alloc ?_ _)); exact BK282.out) hg (Kd.R_ne HO_15.out BK282.out (by decide))); have n1_ := Aside0.mk (hb); have n2_ := Aside0.mk (ho); clear BK282; clear HB; clear HO_15; have BK282 := n0_; have HB := n1_; have HO286 := n2_; clear n0_ n1_ n2_; clear ho hb hg hat))
                                go_roundg k3
                                case measure => have := HJ7.out; have := HK2.out; have := HK3.out; omega
                                case rel => exact ⟨(y284), (wrap64 (x55_2 + 1)), (by first | rfl | (simp; done) | (simp [*]; done)), H', ⟨by have := HJ7.out; have := HK2.out; have := HK3.out; omega⟩, ⟨by (with_reducible repeat (first | apply Kd.R_alloc | apply Kd.R_drewN | apply Kd.R_drew)); exact HO286.out⟩, ⟨by repeat (first | (with_reducible first | exact HB.out | apply below_alloc | apply pw_below_drewN | apply below_drew1 | refine below_set ?_ GE282.out) | exact HB.out)⟩⟩
                              · rw [if_neg c29] at H
                                exact absurd H (by simp)
                    · rw [if_neg c19] at H
                      exact absurd H (by simp)
                  · rw [if_neg c18] at H
                    exact absurd H (by simp)
                · rw [if_neg c17] at H
                  have c17b0 : decide (x55_2 < (l0.length : Int)) = false := decide_eq_false c17
                  clear c17
                  have H' := Aside0.mk H
                  clear H
                  obtain ⟨Ao32, co32, eo32⟩ := Kd.R_slice HO_15.out
                  subst eo32
                  go_wp2
                  go_loopg [21, 83] k2 (fun kq v21 v83 w' => ∃ (x21_3 : List (S24)) (x83_3 : Int), v83 = .int .i64 x83_3 ∧ Aside0 (cohousinglaw16_FactsValues.l2 kq l0 a1 a2 a3 a4 true t279 x21_3 x15_2 (x15_2.length : Int) x83_3 = some r) ∧ Aside0 (kq ≤ k2) ∧ Aside0 (Kd.R k24 24 w' w.heap.size (fun _ => True) v21 x21_3) ∧ Aside0 (Kd.R (Kd.int .i64) 3 w' w.heap.size (fun _ => True) (.slice Ao32 x15_2.length co32) x15_2) ∧ Aside0 (Below w.heap.size w w'))
                  case atStart => exact ⟨(([] : List (S24))), (0), (by first | rfl | (simp; done) | (simp [*]; done)), H', ⟨Nat.le_refl _⟩, ⟨by first | exact Kd.R_nil _ _ _ _ _ | exact Kd.N_nil _ _ _ _ _ | exact Kd.V_nil _ _ _ _ _ | exact Kd.Q_nil _ _ _ _ _ | exact Kd.S_nil _ _ _ _ _⟩, ⟨by (with_reducible repeat (first | apply Kd.R_alloc | apply Kd.R_drewN | apply Kd.R_drew)); exact HO_15.out⟩, ⟨by repeat (first | (with_reducible first | exact HB.out | apply below_alloc | apply pw_below_drewN | apply below_drew1) | exact HB.out)⟩⟩
                  case round =>
                    clear H'
                    try clear c1
                    try clear c2
                    try clear p2
                    try clear q2
                    try clear hx2
                    try clear p6
                    try clear c7
                    try clear c9
                    try clear c10
                    try clear c10b0
                    try clear c10b1
                    try clear c12
                    try clear c13
                    try clear c15
                    try clear c15b0
                    try clear c15b1
                    try clear c17
                    try clear c17b0
                    try clear c18
                    try clear c18b0
                    try clear c19
                    try clear c19b0
                    try clear c23
                    try clear c23b0
                    try clear c24
                    try clear c24b0
                    try clear c25
                    try clear c25b0
                    try clear c26
                    try clear c28
                    try clear p28
                    try clear q28
                    try clear hx28
                    try clear c29
                    try clear hcz21_0
                    try clear hcz21_1
                    try clear hcz21_2
                    try clear hcz21_3
                    try clear hcz21_4
                    try clear hcz21_5
                    try clear hcz21_6
                    try clear hcz27_0
                    try clear hcz27_1
                    try clear hcz27_2
                    try clear hcz27_3
                    try clear hcz27_4
                    try clear hcz27_5
                    try clear hcz27_6
                    try clear hcz30_0
                    try clear hcz30_1
                    try clear hcz30_2
                    try clear hcz30_3
                    try clear hcz30_4
                    try clear hcz30_5
                    try clear hcz30_6
                    try clear hfz21_0
                    try clear hfz21_1
                    try clear hfz21_2
                    try clear hfz21_3
                    try clear hfz21_4
                    try clear hfz21_5
                    try clear hfz21_6
                    try clear hfz27_0
                    try clear hfz27_1
                    try clear hfz27_2
                    try clear hfz27_3
                    try clear hfz27_4
                    try clear hfz27_5
                    try clear hfz27_6
                    try clear hfz30_0
                    try clear hfz30_1
                    try clear hfz30_2
                    try clear hfz30_3
                    try clear hfz30_4
                    try clear hfz30_5
                    try clear hfz30_6
                    try clear hx281_0
                    try clear hx281_1
                    try clear hx281_2
                    try clear hx281_3
                    try clear hx281_4
                    try clear hx281_5
                    try clear hx281_6
                    try clear hx283_0
                    try clear p2
                    try clear p281
                    try clear p283
                    try clear q2
                    try clear q281
                    try clear q283
                    obtain ⟨x21_3, x83_3, rfl, HA, HK3, HO_21, HO_81, HB⟩ := hrel
                    cases gk with
                    | zero => exact absurd HA.out (by simp [cohousinglaw16_FactsValues.l2])
                    | succ k3 =>
                      have H := HA.out
                      clear HA
                      simp only [cohousinglaw16_FactsValues.l2] at H
                      by_cases c33 : x83_3 < (x15_2.length : Int)
                      · rw [if_pos c33] at H
                        have c33b0 : decide (x83_3 < (x15_2.length : Int)) = true := decide_eq_true c33
                        clear c33
                        by_cases c34 : 0 ≤ x83_3
                        · rw [if_pos c34] at H
                          have c34b0 : decide (0 ≤ x83_3) = true := decide_eq_true c34
                          clear c34
                          by_cases c35 : x83_3 < (x15_2.length : Int)
                          · rw [if_pos c35] at H
                            have c35b0 : decide (x83_3 < (x15_2.length : Int)) = true := decide_eq_true c35
                            clear c35
                            replace H := Option.bind_eq_some_iff.mp H
                            obtain ⟨⟨t289, t290⟩, A360, H⟩ := H
                            replace H : ((span_Meet.f k3 x21_3 t289).bind fun bt293 => ((span_Union.f k3 x21_3 t289).bind fun bt297 => (if t290 = 0 then (if bt293.2 = 0 then (if bt297.2 = 0 then (if (bt293.1.length : Int) = 0 then (cohousinglaw16_FactsValues.l2 k3 l0 a1 a2 a3 a4 true t279 bt297.1 x15_2 (x15_2.length : Int) (wrap64 (x83_3 + 1))) else (none)) else (none)) else (none)) else (none)))) = some r := H
                            have A36 := Aside0.mk A360
                            clear A360
                            replace H := Option.bind_eq_some_iff.mp H
                            obtain ⟨⟨t293, t294⟩, A370, H⟩ := H
                            replace H : ((span_Union.f k3 x21_3 t289).bind fun bt297 => (if t290 = 0 then (if t294 = 0 then (if bt297.2 = 0 then (if (t293.length : Int) = 0 then (cohousinglaw16_FactsValues.l2 k3 l0 a1 a2 a3 a4 true t279 bt297.1 x15_2 (x15_2.length : Int) (wrap64 (x83_3 + 1))) else (none)) else (none)) else (none)) else (none))) = some r := H
                            have A37 := Aside0.mk A370
                            clear A370
                            replace H := Option.bind_eq_some_iff.mp H
                            obtain ⟨⟨t297, t298⟩, A380, H⟩ := H
                            replace H : (if t290 = 0 then (if t294 = 0 then (if t298 = 0 then (if (t293.length : Int) = 0 then (cohousinglaw16_FactsValues.l2 k3 l0 a1 a2 a3 a4 true t279 t297 x15_2 (x15_2.length : Int) (wrap64 (x83_3 + 1))) else (none)) else (none)) else (none)) else (none)) = some r := H
                            have A38 := Aside0.mk A380
                            clear A380
                            by_cases c39 : t290 = 0
                            · rw [if_pos c39] at H
                              have c39b0 : (t290 == 0) = true := beq_iff_eq.mpr c39
                              have c39b1 : (t290 != 0) = false := bne_eq_false_iff_eq.mpr c39
                              clear c39
                              by_cases c40 : t294 = 0
                              · rw [if_pos c40] at H
                                have c40b0 : (t294 == 0) = true := beq_iff_eq.mpr c40
                                have c40b1 : (t294 != 0) = false := bne_eq_false_iff_eq.mpr c40
                                clear c40
                                by_cases c41 : t298 = 0
                                · rw [if_pos c41] at H
                                  have c41b0 : (t298 == 0) = true := beq_iff_eq.mpr c41
                                  have c41b1 : (t298 != 0) = false := bne_eq_false_iff_eq.mpr c41
                                  clear c41
                                  by_cases c42 : (t293.length : Int) = 0
                                  · rw [if_pos c42] at H
                                    have c42b0 : ((t293.length : Int) == 0) = true := beq_iff_eq.mpr c42
                                    have c42b1 : ((t293.length : Int) != 0) = false := bne_eq_false_iff_eq.mpr c42
                                    clear c42
                                    have H' := Aside0.mk H
                                    clear H
                                    have p288 : 0 ≤ (x83_3 : Int) := of_decide_eq_true (by first | (with_reducible assumption) | assumption)
                                    have q288 : x83_3 < (x15_2.length : Int) := of_decide_eq_true (by first | (with_reducible assumption) | assumption)
                                    obtain ⟨ad288, e288, hx288_0⟩ := Kd.at_int (Kd.R_reads' HO_81.out).2.2 x83_3 p288 q288
                                    cases e288
                                    replace p288 := eq_true p288
                                    replace q288 := eq_true q288
                                    go_wp2_with (first | ((with_reducible refine gate_callee (f := 13) rfl ?_); refine goesL_ (some 93) rfl rfl Tryz.func13 (by kernel_rfl) rfl #[.slice A0 l0.length c0, .int .i64 a1, .string a2, .int .i64 (rd x15_2 x83_3), .int .i64 a3] rfl (by (try simp only [List.map_toArray, List.map_cons, List.map_nil]); first | done | rfl | (simp only [List.length_drop, List.length_take]; rfl)) ?_; (with_reducible refine (facts_Days.calls _ _ l0 a1 a2 (rd x15_2 x83_3) a3 t289 t290 _ ?side1 ?side2 A36.out).mono ?_); (case side1 => repeat (first | exact (Kd.C_below HR0.out HB.out) | (with_reducible refine Kd.C_alloc ?_ _) | (with_reducible refine Kd.C_drewN ?_ _) | (with_reducible refine Kd.C_drew ?_))); (case side2 => exact HC0.out); rintro e w43 ⟨v291, rfl, ho0, hb⟩; refine ⟨_, rfl, ?_⟩; have n0_ := Aside0.mk (Kd.R_elder' (by (with_reducible repeat (first | apply Kd.R_alloc | apply Kd.R_drewN | apply Kd.R_drew)); exact HO_21.out) (Kd.R_base ho0) hb); have n1_ := Aside0.mk (Kd.R_below (by (with_reducible repeat (first | apply Kd.R_alloc | apply Kd.R_drewN | apply Kd.R_drew)); exact HO_81.out) hb); have n2_ := Aside0.mk (Kd.R_lower (Kd.R_new' ho0 (Kd.R_lt (by (with_reducible repeat (first | apply Kd.R_alloc | apply Kd.R_drewN | apply Kd.R_drew)); exact HO_21.out))) (below_size (by repeat (first | (with_reducible first | exact HB.out | apply below_alloc | apply pw_below_drewN | apply below_drew1) | exact HB.out)))); have n3_ := Aside0.mk (below_step (by repeat (first | (with_reducible first | exact HB.out | apply below_alloc | apply pw_below_drewN | apply below_drew1) | exact HB.out)) hb); clear HO_21; clear HO_81; clear HB; have HO_21 := n0_; have HO_81 := n1_; have HO292 := n2_; have HB := n3_; clear n0_ n1_ n2_ n3_; (try clear hb); (try clear hb2); (try clear hk); (try clear hi); (try clear ho0); obtain ⟨Ao44, co44, eo44⟩ := Kd.R_slice HO_21.out; subst eo44; obtain ⟨Ao45, co45, eo45⟩ := Kd.R_slice HO292.out; subst eo45) | ((with_reducible refine gate_callee (f := 29) rfl ?_); refine goesL_ (some 99) rfl rfl Tryz.func29 (by kernel_rfl) rfl #[.slice Ao44 x21_3.length co44, .slice Ao45 t289.length co45] rfl (by (try simp only [List.map_toArray, List.map_cons, List.map_nil]); first | done | rfl | (simp only [List.length_drop, List.length_take]; rfl)) ?_; (with_reducible refine (span_Meet.calls k3 _ _ x21_3 _ _ t289 t293 t294 _ ?side1 ?side2 ?side3 ?side4 A37.out).mono ?_); (case side1 => repeat (first | exact (Kd.R_reads' HO_21.out).2.2 | (with_reducible refine Kd.C_alloc ?_ _) | (with_reducible refine Kd.C_drewN ?_ _) | (with_reducible refine Kd.C_drew ?_))); (case side2 => exact (Kd.R_reads' HO_21.out).2.1); (case side3 => repeat (first | exact (Kd.R_reads' HO292.out).2.2 | (with_reducible refine Kd.C_alloc ?_ _) | (with_reducible refine Kd.C_drewN ?_ _) | (with_reducible refine Kd.C_drew ?_))); (case side4 => exact (Kd.R_reads' HO292.out).2.1); rintro e w46 ⟨v295, rfl, ho0, hb⟩; refine ⟨_, rfl, ?_⟩; have n0_ := Aside0.mk (Kd.R_elder' (by (with_reducible repeat (first | apply Kd.R_alloc | apply Kd.R_drewN | apply Kd.R_drew)); exact HO_21.out) (Kd.R_base ho0) hb); have n1_ := Aside0.mk (Kd.R_below (by (with_reducible repeat (first | apply Kd.R_alloc | apply Kd.R_drewN | apply Kd.R_drew)); exact HO_81.out) hb); have n2_ := Aside0.mk (Kd.R_elder' (by (with_reducible repeat (first | apply Kd.R_alloc | apply Kd.R_drewN | apply Kd.R_drew)); exact HO292.out) (Kd.R_base ho0) hb); have n3_ := Aside0.mk (Kd.R_lower (Kd.R_new' (Kd.R_new' ho0 (Kd.R_lt (by (with_reducible repeat (first | apply Kd.R_alloc | apply Kd.R_drewN | apply Kd.R_drew)); exact HO_21.out))) (Kd.R_lt (by (with_reducible repeat (first | apply Kd.R_alloc | apply Kd.R_drewN | apply Kd.R_drew)); exact HO292.out))) (below_size (by repeat (first | (with_reducible first | exact HB.out | apply below_alloc | apply pw_below_drewN | apply below_drew1) | exact HB.out)))); have n4_ := Aside0.mk (below_step (by repeat (first | (with_reducible first | exact HB.out | apply below_alloc | apply pw_below_drewN | apply below_drew1) | exact HB.out)) hb); clear HO_21; clear HO_81; clear HO292; clear HB; have HO_21 := n0_; have HO_81 := n1_; have HO292 := n2_; have HO296 := n3_; have HB := n4_; clear n0_ n1_ n2_ n3_ n4_; (try clear hb); (try clear hb2); (try clear hk); (try clear hi); (try clear ho0)) | ((with_reducible refine gate_callee (f := 30) rfl ?_); refine goesL_ (some 105) rfl rfl Tryz.func30 (by kernel_rfl) rfl #[.slice Ao44 x21_3.length co44, .slice Ao45 t289.length co45] rfl (by (try simp only [List.map_toArray, List.map_cons, List.map_nil]); first | done | rfl | (simp only [List.length_drop, List.length_take]; rfl)) ?_; (with_reducible refine (span_Union.calls k3 _ _ x21_3 _ _ t289 t297 t298 _ ?side1 ?side2 ?side3 ?side4 A38.out).mono ?_); (case side1 => repeat (first | exact (Kd.R_reads' HO_21.out).2.2 | (with_reducible refine Kd.C_alloc ?_ _) | (with_reducible refine Kd.C_drewN ?_ _) | (with_reducible refine Kd.C_drew ?_))); (case side2 => exact (Kd.R_reads' HO_21.out).2.1); (case side3 => repeat (first | exact (Kd.R_reads' HO292.out).2.2 | (with_reducible refine Kd.C_alloc ?_ _) | (with_reducible refine Kd.C_drewN ?_ _) | (with_reducible refine Kd.C_drew ?_))); (case side4 => exact (Kd.R_reads' HO292.out).2.1); rintro e w47 ⟨v299, rfl, ho0, hb⟩; refine ⟨_, rfl, ?_⟩; have n0_ := Aside0.mk (Kd.R_elder' (by (with_reducible repeat (first | apply Kd.R_alloc | apply Kd.R_drewN | apply Kd.R_drew)); exact HO_21.out) (Kd.R_base ho0) hb); have n1_ := Aside0.mk (Kd.R_below (by (with_reducible repeat (first | apply Kd.R_alloc | apply Kd.R_drewN | apply Kd.R_drew)); exact HO_81.out) hb); have n2_ := Aside0.mk (Kd.R_elder' (by (with_reducible repeat (first | apply Kd.R_alloc | apply Kd.R_drewN | apply Kd.R_drew)); exact HO292.out) (Kd.R_base ho0) hb); have n3_ := Aside0.mk (Kd.R_elder' (by (with_reducible repeat (first | apply Kd.R_alloc | apply Kd.R_drewN | apply Kd.R_drew)); exact HO296.out) (Kd.R_base ho0) hb); have n4_ := Aside0.mk (Kd.R_lower (Kd.R_new' (Kd.R_new' (Kd.R_new' ho0 (Kd.R_lt (by (with_reducible repeat (first | apply Kd.R_alloc | apply Kd.R_drewN | apply Kd.R_drew)); exact HO_21.out))) (Kd.R_lt (by (with_reducible repeat (first | apply Kd.R_alloc | apply Kd.R_drewN | apply Kd.R_drew)); exact HO292.out))) (Kd.R_lt (by (with_reducible repeat (first | apply Kd.R_alloc | apply Kd.R_drewN | apply Kd.R_drew)); exact HO296.out))) (below_size (by repeat (first | (with_reducible first | exact HB.out | apply below_alloc | apply pw_below_drewN | apply below_drew1) | exact HB.out)))); have n5_ := Aside0.mk (below_step (by repeat (first | (with_reducible first | exact HB.out | apply below_alloc | apply pw_below_drewN | apply below_drew1) | exact HB.out)) hb); clear HO_21; clear HO_81; clear HO292; clear HO296; clear HB; have HO_21 := n0_; have HO_81 := n1_; have HO292 := n2_; have HO296 := n3_; have HO300 := n4_; have HB := n5_; clear n0_ n1_ n2_ n3_ n4_ n5_; (try clear hb); (try clear hb2); (try clear hk); (try clear hi); (try clear ho0); obtain ⟨Ao48, co48, eo48⟩ := Kd.R_slice HO296.out; subst eo48))
                                    go_roundg k3
                                    case measure => have := HJ7.out; have := HK2.out; have := HK3.out; omega
                                    case rel => exact ⟨(t297), (wrap64 (x83_3 + 1)), (by first | rfl | (simp; done) | (simp [*]; done)), H', ⟨by have := HJ7.out; have := HK2.out; have := HK3.out; omega⟩, ⟨by (with_reducible repeat (first | apply Kd.R_alloc | apply Kd.R_drewN | apply Kd.R_drew)); exact Kd.R_mono HO300.out (fun _ hk => trivial)⟩, ⟨by (with_reducible repeat (first | apply Kd.R_alloc | apply Kd.R_drewN | apply Kd.R_drew)); exact HO_81.out⟩, ⟨by repeat (first | (with_reducible first | exact HB.out | apply below_alloc | apply pw_below_drewN | apply below_drew1) | exact HB.out)⟩⟩
                                  · rw [if_neg c42] at H
                                    exact absurd H (by simp)
                                · rw [if_neg c41] at H
                                  exact absurd H (by simp)
                              · rw [if_neg c40] at H
                                exact absurd H (by simp)
                            · rw [if_neg c39] at H
                              exact absurd H (by simp)
                          · rw [if_neg c35] at H
                            exact absurd H (by simp)
                        · rw [if_neg c34] at H
                          exact absurd H (by simp)
                      · rw [if_neg c33] at H
                        have c33b0 : decide (x83_3 < (x15_2.length : Int)) = false := decide_eq_false c33
                        clear c33
                        replace H : ((cohousinglaw16_has.f k3 x21_3 a4).bind fun t287 => (if (t287 == t279) = true then (some true) else (none))) = some r := by first | (rw [if_pos rfl] at H; exact H) | (rw [if_pos trivial] at H; exact H)
                        replace H := Option.bind_eq_some_iff.mp H
                        obtain ⟨t287, A490, H⟩ := H
                        replace H : (if (t287 == t279) = true then (some true) else (none)) = some r := H
                        have A49 := Aside0.mk A490
                        clear A490
                        by_cases c50 : (t287 == t279) = true
                        · rw [if_pos c50] at H
                          have c50b0 : (t287 == t279) = true := c50
                          (try (have c50b1 : decide (t287 = t279) = true := by simpa using c50))
                          (try (have c50b2 : (t287 == t279) = true := by simpa using c50))
                          clear c50
                          obtain rfl := Option.some.inj H
                          obtain ⟨Ao51, co51, eo51⟩ := Kd.R_slice HO_21.out
                          subst eo51
                          go_wp2_with (first | (go_at_call 17; (with_reducible refine (cohousinglaw16_has.calls k3 _ _ x21_3 a4 t287 _ ?side1 ?side2 A49.out).mono ?_); (case side1 => repeat (first | exact (Kd.R_reads' HO_21.out).2.2 | (with_reducible refine Kd.C_alloc ?_ _) | (with_reducible refine Kd.C_drewN ?_ _) | (with_reducible refine Kd.C_drew ?_))); (case side2 => exact (Kd.R_reads' HO_21.out).2.1); rintro e w52 ⟨rfl, hb⟩; have n0_ := Aside0.mk (Kd.R_below (by (with_reducible repeat (first | apply Kd.R_alloc | apply Kd.R_drewN | apply Kd.R_drew)); exact HO_21.out) hb); have n1_ := Aside0.mk (Kd.R_below (by (with_reducible repeat (first | apply Kd.R_alloc | apply Kd.R_drewN | apply Kd.R_drew)); exact HO_81.out) hb); have n2_ := Aside0.mk (below_step (by repeat (first | (with_reducible first | exact HB.out | apply below_alloc | apply pw_below_drewN | apply below_drew1) | exact HB.out)) hb); clear HO_21; clear HO_81; clear HB; have HO_21 := n0_; have HO_81 := n1_; have HB := n2_; clear n0_ n1_ n2_; (try clear hb); (try clear hb2); (try clear hk); (try clear hi)))
                          go_ret
                          exact ⟨by first | rfl | (simp [errW_none, errW_some] <;> rfl) | (simp [*, errW_none, errW_some] <;> rfl), by repeat (first | (with_reducible first | exact HB.out | apply below_alloc | apply pw_below_drewN | apply below_drew1) | exact HB.out)⟩
                        · rw [if_neg c50] at H
                          exact absurd H (by simp)
          · rw [if_neg c15] at H
            have c15b0 : (t280 == 0) = false := beq_eq_false_iff_ne.mpr c15
            have c15b1 : (t280 != 0) = true := bne_iff_ne.mpr c15
            obtain rfl := Option.some.inj H
            go_wp2_with (first | ((with_reducible refine gate_callee (f := 12) rfl ?_); refine goesL_ (some 46) rfl rfl Tryz.func12 (by kernel_rfl) rfl #[.slice A0 l0.length c0, .int .i64 a1, .string a2, .int .i64 a4, .int .i64 a3] rfl (by (try simp only [List.map_toArray, List.map_cons, List.map_nil]); first | done | rfl | (simp only [List.length_drop, List.length_take]; rfl)) ?_; (with_reducible refine (facts_Value.calls _ _ l0 a1 a2 a4 a3 t278 t279 t280 _ ?side1 ?side2 A14.out).mono ?_); (case side1 => repeat (first | exact (Kd.C_below HR0.out HB.out) | (with_reducible refine Kd.C_alloc ?_ _) | (with_reducible refine Kd.C_drewN ?_ _) | (with_reducible refine Kd.C_drew ?_))); (case side2 => exact HC0.out); rintro e w53 ⟨rfl, hb⟩; refine ⟨_, rfl, ?_⟩; have n0_ := Aside0.mk (below_step (by repeat (first | (with_reducible first | exact HB.out | apply below_alloc | apply pw_below_drewN | apply below_drew1) | exact HB.out)) hb); clear HB; have HB := n0_; clear n0_; (try clear hb); (try clear hb2); (try clear hk); (try clear hi)))
            go_ret
            exact ⟨by first | rfl | (simp [errW_none, errW_some] <;> rfl) | (simp [*, errW_none, errW_some] <;> rfl), by repeat (first | (with_reducible first | exact HB.out | apply below_alloc | apply pw_below_drewN | apply below_drew1) | exact HB.out)⟩
  · replace c7 := Bool.eq_false_iff.mpr c7
    subst c7
    have H1 : (none) = some r := by rw [if_neg (show ¬ (false = true) by decide)] at H; exact H
    clear H
    have H := H1
    clear H1
    exact absurd H (by simp)

end Go.Proofs.YthcjocojngochaaGreatDoor.X
